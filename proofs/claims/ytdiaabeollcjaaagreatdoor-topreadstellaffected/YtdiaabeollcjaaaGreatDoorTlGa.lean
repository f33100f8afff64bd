/-
 Several texts of mine as one, without what is not wanted here: XExD, XRead, XMap, XBRow, XOwn.
-/
import Init
import Derived.Test.YtdiaabeollcjaaaGreatDoorRows
import Derived.WalkKit
import Derived.WalkLawsBesides
import Derived.ProofKit
import Derived.Deep.Slices
import Derived.Deep.Fields
import Derived.ChangeSame
import Derived.SizedLaws
import Derived.Lib.Hide
import Derived.Maps.OwnSet
import Derived.Maps.RangeWalk
import Derived.Laws.MakeOwn
import Derived.Maps.AppendAt
import Derived.Laws.AppendOwnNone
set_option linter.unusedVariables false
set_option linter.unusedSimpArgs false
set_option maxRecDepth 100000
set_option maxHeartbeats 8000000
namespace Go.Proofs.YtdiaabeollcjaaaGreatDoor
structure PF where
 run:Bool
 bs:List UInt8
structure Lk where
 path:ByteArray
 digest:ByteArray
 run:Bool
deriving DecidableEq
structure ES where
 wr:ByteArray→Option PF
 nw:Nat
 lk:ByteArray→Option Lk
 told:ByteArray
 total:Int
abbrev Inp:=ByteArray→Option PF
def EM (α:Type):=Inp→ES→α × ES
def EM.pure {α:Type} (a:α):EM α:=fun _ s=>(a,s)
def EM.bind {α β:Type} (m:EM α) (k:α→EM β):EM β:=fun I s=>k (m I s).1 I (m I s).2
def updE {β:Type} (f:ByteArray→Option β) (p:ByteArray) (v:β):ByteArray→Option β:=fun q=>if q=p then some v else f q
def hasB (l:List ByteArray) (p:ByteArray):Bool:=l.any fun y=>decide (y=p)
structure EP where
 dg:List UInt8→ByteArray
 isP:ByteArray→Bool
 lns:List UInt8→List (List UInt8)
 ended:List UInt8→List UInt8
 incl:List UInt8→Option ByteArray
 num:ByteArray→Int
 val:ByteArray→Option (List UInt8)
 say:List ByteArray→ByteArray→ByteArray
 fn:List ByteArray→List UInt8→List UInt8
 outs:List ByteArray
 inclP:∀ s p,incl s=some p→isP p=true
def lookP (E:EP) (p:ByteArray):Option PF→Lk
 | none=>⟨p,⟨#[]⟩,false⟩
 | some x=>⟨p,E.dg x.bs,x.run⟩
def findM (E:EP) (p:ByteArray):EM (Option PF):=fun I s =>
 match s.wr p with
 | some x=>(some x,s)
 | none=>(I p,if (s.lk p).isSome=true then s else { s with lk:=updE s.lk p (lookP E p (I p)) })
def readM (E:EP) (p:ByteArray):EM (List UInt8 × Int):=(findM E p).bind fun
 | none=>.pure ([],2)
 | some x=>.pure (x.bs,0)
def lenW (s:ES) (p:ByteArray):Int:=match s.wr p with | some x=>x.bs.length | none=>0
def writeM (E:EP) (p:ByteArray) (b:List UInt8) (run:Bool):EM Int:=fun _ s =>
 if hasB E.outs p=true then
  if b.length>100000∨s.total-lenW s p+b.length>2000000 then (5,s)
  else (0,{ s with total:=s.total-lenW s p+b.length,wr:=updE s.wr p ⟨run,b⟩,nw:=if (s.wr p).isSome=true then s.nw else s.nw+1 })
 else (3,s)
def joinedM (E:EP):List ByteArray→List UInt8→EM (List UInt8 × Int)
 | [],out=>.pure (out,0)
 | p::r,out=>(readM E p).bind fun x=>if x.2≠0 then .pure ([],x.2) else joinedM E r (out++x.1)
def pickM (E:EP):List ByteArray→EM (List UInt8 × Int)
 | []=>.pure ([],2)
 | p::r=>(findM E p).bind fun
  | some x=>.pure (x.bs,0)
  | none=>pickM E r
abbrev XS:=List UInt8 × Nat
def expL (E:EP) (rec:ByteArray→XS→EM (Int × XS)):List (List UInt8)→XS→EM (Int × XS)
 | [],x=>.pure (0,x)
 | s::r,x=>match E.incl s with
  | some p=>(rec p x).bind fun y=>if y.1≠0 then .pure y else expL E rec r y.2
  | none=>if (x.1++E.ended s).length>100000 then .pure (5,(x.1++E.ended s,x.2)) else expL E rec r (x.1++E.ended s,x.2)
def expM (E:EP):Nat→List ByteArray→ByteArray→XS→EM (Int × XS)
 | 0,_,_,x=>.pure (4,x)
 | n+1,within,p,x=>if hasB within p=true then .pure (4,x) else
  (readM E p).bind fun b=>if b.2≠0 then .pure (b.2,x) else
   if x.2+1>10000 then .pure (4,(x.1,x.2+1)) else expL E (expM E n (within ++ [p])) (E.lns b.1) (x.1,x.2+1)
def valueF (E:EP) (n:ByteArray):List UInt8 × Int:=match E.val n with | some v=>(v,0) | none=>([],4)
def tellM (E:EP) (l:List ByteArray):EM Int:=fun _ s=>if (E.say l s.told).size>100000 then (5,s) else (0,{ s with told:=E.say l s.told })
def sameM (E:EP) (p q:ByteArray):EM Int:=(readM E p).bind fun a=>if a.2≠0 then .pure a.2 else
 (readM E q).bind fun b=>if b.2≠0 then .pure b.2 else .pure (if a.1=b.1 then 0 else 4)
def wTell:ByteArray:=⟨#[116,101,108,108]⟩
def wNeed:ByteArray:=⟨#[110,101,101,100]⟩
def wSame:ByteArray:=⟨#[115,97,109,101]⟩
def wFail:ByteArray:=⟨#[102,97,105,108]⟩
def wJoin:ByteArray:=⟨#[106,111,105,110]⟩
def wExpand:ByteArray:=⟨#[101,120,112,97,110,100]⟩
def wPick:ByteArray:=⟨#[112,105,99,107]⟩
def wList:ByteArray:=⟨#[108,105,115,116]⟩
def wVar:ByteArray:=⟨#[118,97,114]⟩
def wMake:ByteArray:=⟨#[109,97,107,101]⟩
def wd (c:List ByteArray) (k:Nat):ByteArray:=c.getD k ⟨#[]⟩
def madeM (E:EP) (c:List ByteArray):EM (List UInt8 × Int) :=
 if wd c 0=wJoin then joinedM E (c.drop 2) []
 else if wd c 0=wExpand then (expM E 31 [] (wd c 2) ([],0)).bind fun y=>.pure (y.2.1,y.1)
 else if wd c 0=wPick then pickM E (c.drop 2)
 else if wd c 0=wVar then .pure (valueF E (wd c 2))
 else (readM E (wd c (c.length-1))).bind fun b=>if b.2≠0 then .pure ([],b.2) else .pure (E.fn c b.1,0)
def doM (E:EP) (c:List ByteArray):EM Int :=
 if wd c 0=wTell then tellM E (c.drop 1)
 else if wd c 0=wNeed then (readM E (wd c 1)).bind fun b=>.pure b.2
 else if wd c 0=wSame then sameM E (wd c 1) (wd c 2)
 else if wd c 0=wFail then .pure (E.num (wd c 1))
 else (madeM E c).bind fun b=>if b.2≠0 then .pure b.2 else writeM E (wd c 1) b.1 (decide (wd c 0=wMake))
def runM (E:EP):List (List ByteArray)→Nat→EM (Int × Int)
 | [],_=>fun _ s=>((if s.nw<E.outs.length then 1 else 0,0),s)
 | c::r,k=>(doM E c).bind fun x=>if x≠0 then .pure (x,(k:Int)+1) else runM E r (k+1)
def es0:ES:=⟨fun _=>none,0,fun _=>none,⟨#[]⟩,0⟩
/-! ### what was looked at -/
def LkOk (E:EP) (I:Inp) (s:ES):Prop:=∀ p x,s.lk p=some x→E.isP p=true∧x=lookP E p (I p)
structure Obl (E:EP) {α:Type} (m:EM α):Prop where
 mono:∀ I s p,(s.lk p).isSome=true→((m I s).2.lk p).isSome=true
 sees:∀ I J s,(∀ p,((m I s).2.lk p).isSome=true→I p=J p)→m J s=m I s
 keep:∀ I s,LkOk E I s→LkOk E I (m I s).2
section
variable {E:EP} {α β:Type}
theorem Obl.pure (a:α):Obl E (EM.pure a):=⟨fun _ _ _ h=>h,fun _ _ _ _=>rfl,fun _ _ h=>h⟩
theorem Obl.bind {m:EM α} {k:α→EM β} (h:Obl E m) (hk:∀ a,Obl E (k a)):Obl E (m.bind k):=by
 refine⟨fun I s p hp=>(hk _).mono I _ p (h.mono I s p hp),fun I J s hs=>?_,fun I s hl=>(hk _).keep I _ (h.keep I s hl)⟩;have e:m J s=m I s:=h.sees I J s fun p hp=>hs p ((hk _).mono I _ p hp);show k (m J s).1 J (m J s).2=k (m I s).1 I (m I s).2;rw[e];exact(hk _).sees I J _ hs
theorem Obl.ite {c:Prop} [Decidable c] {m n:EM α} (h:Obl E m) (h':Obl E n):Obl E (if c then m else n):=by split <;> assumption
theorem obl_find (p:ByteArray) (hp:E.isP p=true):Obl E (findM E p):=by
 refine⟨fun I s q hq=>?_,fun I J s hs=>?_,fun I s hl=>?_⟩
 ·unfold findM
  split
  ·exact hq
  ·dsimp only
   split
   ·exact hq
   ·show (updE s.lk p _ q).isSome=true;unfold updE
    split
    ·rfl
    ·exact hq
 ·have key:s.wr p=none→I p=J p:=fun hw=>by
   refine hs p ?_;unfold findM;rw[hw]
   dsimp only
   split
   ·assumption
   ·show (updE s.lk p _ p).isSome=true;unfold updE;rw[if_pos rfl];rfl
  unfold findM
  cases hw:s.wr p with
  | some x=>rfl
  | none =>
   dsimp only
   rw[key hw]
 ·unfold findM
  split
  ·exact hl
  ·dsimp only
   split
   ·exact hl
   ·intro q x hx
    by_cases e:q=p
    ·subst e;have:updE s.lk q (lookP E q (I q)) q=some x:=hx;unfold updE at this;rw[if_pos rfl]at this;injection this with this;exact⟨hp,this.symm⟩
    ·have:updE s.lk p (lookP E p (I p)) q=some x:=hx;unfold updE at this;rw[if_neg e]at this;exact hl q x this
theorem obl_read (p:ByteArray) (hp:E.isP p=true):Obl E (readM E p):=by
 refine(obl_find p hp).bind fun a=>?_
 cases a <;> exact Obl.pure _
theorem obl_write (p:ByteArray) (b:List UInt8) (r:Bool):Obl E (writeM E p b r):=by
 have key:∀ I s,(writeM E p b r I s).2.lk=s.lk:=fun I s=>by unfold writeM;split <;> (try split) <;> rfl
 exact⟨fun I s q h=>by rw[key];exact h,fun I J s _=>rfl,fun I s h q x hx=>h q x (by rw[key]at hx;exact hx)⟩
theorem obl_tell (l:List ByteArray):Obl E (tellM E l):=by
 have key:∀ I s,(tellM E l I s).2.lk=s.lk:=fun I s=>by unfold tellM;split <;> rfl
 exact⟨fun I s q h=>by rw[key];exact h,fun I J s _=>rfl,fun I s h q x hx=>h q x (by rw[key]at hx;exact hx)⟩
theorem obl_joined:∀ (l:List ByteArray) (out:List UInt8),(∀ p∈l,E.isP p=true)→Obl E (joinedM E l out)
 | [],out,_=>Obl.pure _
 | p::r,out,h=>(obl_read p (h p (List.mem_cons_self ..))).bind fun x=>(Obl.pure _).ite (obl_joined r _ fun q hq=>h q (List.mem_cons_of_mem _ hq))
theorem obl_pick:∀ (l:List ByteArray),(∀ p∈l,E.isP p=true)→Obl E (pickM E l)
 | [],_=>Obl.pure _
 | p::r,h=>(obl_find p (h p (List.mem_cons_self ..))).bind fun x=>by
  cases x with
  | some x=>exact Obl.pure _
  | none=>exact obl_pick r fun q hq=>h q (List.mem_cons_of_mem _ hq)
theorem obl_expL {rec:ByteArray→XS→EM (Int × XS)} (hr:∀ p x,E.isP p=true→Obl E (rec p x)):∀ (l:List (List UInt8)) (x:XS),Obl E (expL E rec l x)
 | [],x=>Obl.pure _
 | s::r,x=>by
  unfold expL
  split
  ·rename_i p hp
   exact(hr p x (E.inclP s p hp)).bind fun y=>(Obl.pure _).ite (obl_expL hr r _)
  ·exact(Obl.pure _).ite (obl_expL hr r _)
theorem obl_exp:∀ (n:Nat) (l:List ByteArray) (p:ByteArray) (x:XS),E.isP p=true→Obl E (expM E n l p x)
 | 0,_,_,_,_=>Obl.pure _
 | n+1,l,p,x,hp=>by
  unfold expM;exact(Obl.pure _).ite ((obl_read p hp).bind fun b=>(Obl.pure _).ite ((Obl.pure _).ite (obl_expL (fun q y hq=>obl_exp n _ q y hq) _ _)))
theorem obl_same (p q:ByteArray) (hp:E.isP p=true) (hq:E.isP q=true):Obl E (sameM E p q) :=
 (obl_read p hp).bind fun a=>(Obl.pure _).ite ((obl_read q hq).bind fun b=>(Obl.pure _).ite (Obl.pure _))
def CmdP (E:EP) (c:List ByteArray):Prop :=
 if wd c 0=wTell then True else if wd c 0=wNeed then E.isP (wd c 1)=true else if wd c 0=wSame then E.isP (wd c 1)=true∧E.isP (wd c 2)=true else if wd c 0=wFail then True
 else if wd c 0=wJoin then ∀ p∈c.drop 2,E.isP p=true else if wd c 0=wExpand then E.isP (wd c 2)=true else if wd c 0=wPick then ∀ p∈c.drop 2,E.isP p=true else if wd c 0=wVar then True
 else E.isP (wd c (c.length-1))=true
theorem obl_do (c:List ByteArray) (h:CmdP E c):Obl E (doM E c):=by
 unfold CmdP at h;unfold doM
 by_cases h1:wd c 0=wTell
 ·rw[if_pos h1];exact obl_tell _
 ·rw[if_neg h1]at h ⊢
  by_cases h2:wd c 0=wNeed
  ·rw[if_pos h2]at h ⊢;exact(obl_read _ h).bind fun _=>Obl.pure _
  ·rw[if_neg h2]at h ⊢
   by_cases h3:wd c 0=wSame
   ·rw[if_pos h3]at h ⊢;exact obl_same _ _ h.1 h.2
   ·rw[if_neg h3]at h ⊢
    by_cases h4:wd c 0=wFail
    ·rw[if_pos h4];exact Obl.pure _
    ·rw[if_neg h4]at h ⊢;refine Obl.bind ?_ fun b=>(Obl.pure _).ite (obl_write _ _ _);unfold madeM
     by_cases h5:wd c 0=wJoin
     ·rw[if_pos h5]at h ⊢;exact obl_joined _ _ h
     ·rw[if_neg h5]at h ⊢
      by_cases h6:wd c 0=wExpand
      ·rw[if_pos h6]at h ⊢;exact(obl_exp _ _ _ _ h).bind fun _=>Obl.pure _
      ·rw[if_neg h6]at h ⊢
       by_cases h7:wd c 0=wPick
       ·rw[if_pos h7]at h ⊢;exact obl_pick _ h
       ·rw[if_neg h7]at h ⊢
        by_cases h8:wd c 0=wVar
        ·rw[if_pos h8];exact Obl.pure _
        ·rw[if_neg h8]at h ⊢;exact(obl_read _ h).bind fun b=>(Obl.pure _).ite (Obl.pure _)
theorem obl_run:∀ (l:List (List ByteArray)) (k:Nat),(∀ c∈l,CmdP E c)→Obl E (runM E l k)
 | [],k,_=>⟨fun _ _ _ h=>h,fun _ _ _ _=>rfl,fun _ _ h=>h⟩
 | c::r,k,h=>(obl_do c (h c (List.mem_cons_self ..))).bind fun x=>(Obl.pure _).ite (obl_run r _ fun d hd=>h d (List.mem_cons_of_mem _ hd))
theorem run_same (l:List (List ByteArray)) (h:∀ c∈l,CmdP E c) (I J:Inp) (hs:∀ p,((runM E l 0 I es0).2.lk p).isSome=true→I p=J p):runM E l 0 J es0=runM E l 0 I es0 :=
 (obl_run l 0 h).sees I J es0 hs
theorem run_looks (l:List (List ByteArray)) (h:∀ c∈l,CmdP E c) (I:Inp):LkOk E I (runM E l 0 I es0).2 :=
 (obl_run l 0 h).keep I es0 fun p x hx=>by cases hx
end
end Go.Proofs.YtdiaabeollcjaaaGreatDoor
namespace Go.Proofs.YtdiaabeollcjaaaGreatDoor
open Go.ChangeShapes Go.WideShapes Go.Deep Go.RowKit
theorem ret1_int {k:IntKind} {a b:Int} (h:a=b):Ending.returned (.int k a) = .returned (.int k b):=by rw[h]
theorem hq2 {p q:Prop} (h:p) (k:q):Hid p∧q:=⟨h,k⟩
theorem hqb {p1 p2 p3 p4 q:Prop} (h1:p1) (h2:p2) (h3:p3) (h4:p4) (k:q):Hid p1∧Hid p2∧Hid p3∧Hid p4∧q:=⟨h1,h2,h3,h4,k⟩
theorem hqc {p1 p2 p3 p4 p5 p6 p7 p8 q:Prop} (h1:p1) (h2:p2) (h3:p3) (h4:p4) (h5:p5) (h6:p6) (h7:p7) (h8:p8) (k:q):Hid p1∧Hid p2∧Hid p3∧Hid p4∧Hid p5∧Hid p6∧Hid p7∧Hid p8∧q:=⟨h1,h2,h3,h4,h5,h6,h7,h8,k⟩
theorem drop_cons {α:Type} {l:List α} {k:Nat} {x:α} (h:l[k]? = some x):l.drop k=x::l.drop (k+1):=by
 obtain⟨hk,rfl⟩:=List.getElem?_eq_some_iff.1 h;exact List.drop_eq_getElem_cons hk
structure Rd (α:Type) where
 size:Nat
 vals:α→List Value
 ok:World→α→Prop
 bulk:α→Nat
 len:∀ a,(vals a).length=size
 one:∀ a u,u∈vals a→u.oneCell'=true
 mono:∀ w w' a,Below w.heap.size w w'→ok w a→ok w' a
def Opens (P:Program) (t:TypeId) {α:Type} (R:Rd α):Prop :=
 P.cellsOf t=R.size∧∀ (H:Type) (enc:TypeId × Value→H) (w:World) (fuel:Nat) (cs:List Value) (x:DataW H × List MemPlace),
  DataW.trod enc P w 0 (fun _=>true) true fuel t cs=some x→∃ a,cs=R.vals a∧R.ok w a∧R.bulk a≤Rows.uptoBulk x.1
theorem bulk_one {H:Type} (d:DataW H):1≤Rows.uptoBulk d:=by
 cases d with
 | lit l=>cases l <;> simp[Rows.uptoBulk]
 | nil=>simp[Rows.uptoBulk]
 | ptr d=>simp[Rows.uptoBulk]
 | slice elems spare=>simp[Rows.uptoBulk]
 | agg parts=>simp[Rows.uptoBulk]
 | iface t d=>simp[Rows.uptoBulk]
 | map entries=>simp[Rows.uptoBulk]
 | held h=>simp[Rows.uptoBulk]
def I64 (n:Int):Prop:=-9223372036854775808≤n∧n≤9223372036854775807
def RInt:Rd Int:=⟨1,fun n=>[.int .i64 n],fun _ n=>I64 n,fun _=>1,fun _=>rfl,fun _ u h=>by simp only[List.mem_singleton]at h;subst h;rfl,fun _ _ _ _ h=>h⟩
def RBool:Rd Bool:=⟨1,fun b=>[.bool b],fun _ _=>True,fun _=>1,fun _=>rfl,fun _ u h=>by simp only[List.mem_singleton]at h;subst h;rfl,fun _ _ _ _ h=>h⟩
def RStr:Rd ByteArray:=⟨1,fun s=>[.string s],fun _ s=>s.size≤maxLen,fun s=>s.size+1,fun _=>rfl,fun _ u h=>by simp only[List.mem_singleton]at h;subst h;rfl,fun _ _ _ _ h=>h⟩
theorem opens_int {P:Program} {t:TypeId} (h:P.underlying t=some (.int .i64)) (hc:P.cellsOf t=1):Opens P t RInt:=by
 refine⟨hc,fun H enc w fuel cs x hx=>?_⟩;obtain⟨n,rfl,rfl,hw⟩:=DataW.trod_int h hx;refine⟨n,rfl,?_,bulk_one _⟩;show I64 n
 simpa[I64,Lit.wf,IntKind.min,IntKind.max,IntKind.signed,IntKind.bits]using hw
theorem opens_bool {P:Program} {t:TypeId} (h:P.underlying t=some .bool) (hc:P.cellsOf t=1):Opens P t RBool:=by
 refine⟨hc,fun H enc w fuel cs x hx=>?_⟩;obtain⟨n,rfl,rfl⟩:=DataW.trod_bool h hx;exact⟨n,rfl,trivial,bulk_one _⟩
theorem opens_str {P:Program} {t:TypeId} (h:P.underlying t=some .string) (hc:P.cellsOf t=1):Opens P t RStr:=by
 refine⟨hc,fun H enc w fuel cs x hx=>?_⟩;obtain⟨n,rfl,rfl,hw⟩:=DataW.trod_string h hx;exact⟨n,rfl,hw,by simp[RStr,Rows.uptoBulk]⟩
def SlAt {α:Type} (R:Rd α) (w:World) (A:Option Addr) (n:Nat) (l:List α):Prop :=
 l.length=n∧(0<n→∃ b off,A=some ⟨b,off,none⟩∧∀ i x,l[i]? = some x→∀ j v,(R.vals x)[j]? = some v→w.cell? ⟨b,off+i*R.size+j,none⟩=some v)∧∀ x∈l,R.ok w x
theorem cell?_lt {w:World} {a:Addr} {v:Value} (h:w.cell? a=some v):a.block<w.heap.size:=by
 unfold World.cell? at h
 rcases Nat.lt_or_ge a.block w.heap.size with hl | hg
 ·exact hl
 ·rw[Array.getElem?_eq_none hg]at h;cases h
theorem SlAt.below {α:Type} {R:Rd α} {w w':World} {A:Option Addr} {n:Nat} {l:List α} (h:SlAt R w A n l) (hb:Below w.heap.size w w'):SlAt R w' A n l:=by
 obtain⟨h1,h2,h3⟩:=h;refine⟨h1,fun hn=>?_,fun x hx=>R.mono _ _ _ hb (h3 x hx)⟩;obtain⟨b,off,rfl,hc⟩:=h2 hn;exact⟨b,off,rfl,fun i x hx j v hv=>(hb.cell (cell?_lt (hc i x hx j v hv))).trans (hc i x hx j v hv)⟩
structure SlD (α:Type) where
 A:Option Addr
 n:Nat
 cap:Nat
 l:List α
def sumBulk {α:Type} (f:α→Nat):List α→Nat
 | []=>0
 | x::r=>f x+sumBulk f r
def RSl {α:Type} (R:Rd α):Rd (SlD α) :=
 ⟨1,fun d=>[.slice d.A d.n d.cap],fun w d=>SlAt R w d.A d.n d.l∧d.n≤d.cap∧d.cap≤maxLen∧(d.A=none→d.cap=0),fun d=>sumBulk R.bulk d.l+1,fun _=>rfl,fun _ u h=>by simp only[List.mem_singleton]at h;subst h;rfl,fun _ _ _ hb h=>⟨h.1.below hb,h.2⟩⟩
theorem bulkAll_ge {α H:Type} (f:α→Nat):∀ (l:List α) (ds:List (DataW H)),l.length=ds.length→(∀ (i:Nat) (a:α) (d:DataW H),l[i]? = some a→ds[i]? = some d→f a≤Rows.uptoBulk d)→sumBulk f l≤Rows.uptoBulkAll ds
 | [],[],_,_=>by simp[sumBulk]
 | a::l,d::ds,hl,h=>by
  have h0:=h 0 a d rfl rfl;have:=bulkAll_ge f l ds (by simpa using hl) (fun i x y hx hy=>h (i+1) x y (by simpa using hx) (by simpa using hy));simp only[sumBulk,Rows.uptoBulkAll];omega
theorem opens_slice {P:Program} {t e:TypeId} {α:Type} [Inhabited α] {R:Rd α} (h:P.underlying t=some (.slice e)) (hc:P.cellsOf t=1) (hs:0<R.size) (he:Opens P e R):Opens P t (RSl R):=by
 refine⟨hc,fun H enc w fuel cs x hx=>?_⟩
 rcases open_slice h hx with ⟨rfl,rfl⟩ | ⟨a,len,cap,m,n,D,Pl,rfl,_,hl,hm,hmm,rfl,hi⟩
 ·exact⟨⟨none,0,0,[]⟩,rfl,⟨⟨rfl,fun h=>absurd h (Nat.lt_irrefl 0),fun x hx=>by cases hx⟩,Nat.le_refl _,Nat.zero_le _,fun _=>rfl⟩,bulk_one _⟩
 ·have hmc:m=cap:=hmm;obtain⟨f,hf⟩:=choose_lt (α:=α) (n:=len) (p:=fun i a'=>∃ cs',w.cells? 0 (a.add (i*P.cellsOf e)) (P.cellsOf e)=some cs'∧cs'=R.vals a'∧R.ok w a'∧R.bulk a'≤Rows.uptoBulk (D i)) (fun i hil=>by
   obtain⟨cs',h1,h2⟩:=hi i (by omega);obtain⟨a',ha,hok,hbk⟩:=he.2 H enc w n cs' _ h2;exact⟨a',cs',h1,ha,hok,hbk⟩)
  refine⟨⟨some a,len,cap,(List.range len).map f⟩,rfl,⟨⟨by simp,fun hn=>?_,fun x hx=>?_⟩,hl,hm,fun h=>by cases h⟩,?_⟩
  ·have hcell:∀ i,i<len→∀ j v,(R.vals (f i))[j]? = some v→w.cell? (a.add (i*R.size+j))=some v:=by
    intro i hil j v hv;obtain⟨cs',h1,h2,_⟩:=hf i hil;rw[he.1]at h1;obtain⟨_,hcl,hat⟩:=World.cells?_some h1;have hj:j<R.size:=by rw[← R.len (f i)];exact(List.getElem?_eq_some_iff.1 hv).1
    have:=hat j hj;rw[h2,hv,add_add]at this;exact this
   have h0:=hcell 0 hn 0 ((R.vals (f 0))[0]'(by rw[R.len];exact hs)) (by simp);have hsp:a.spot=none:=by
    simp only[Nat.zero_mul,Nat.add_zero]at h0;have:a.add 0=a:=by simp[Addr.add]
    rw[this]at h0;unfold World.cell? at h0
    split at h0
    ·split at h0
     ·cases h0
     ·rename_i hz
      cases hz2:a.spot
      ·rfl
      ·simp[hz2]at hz
    ·cases h0
   obtain⟨b,off,sp⟩:=a;simp only at hsp;subst hsp;refine⟨b,off,rfl,fun i x hx j v hv=>?_⟩;obtain⟨hil,rfl⟩:i<len∧f i=x:=by
    rw[List.getElem?_map]at hx;obtain⟨k,hk,rfl⟩:=Option.map_eq_some_iff.1 hx;obtain⟨hk1,hk2⟩:=List.getElem?_eq_some_iff.1 hk;simp at hk1 hk2;subst hk2;exact⟨hk1,rfl⟩
   have:=hcell i hil j v hv;rw[Addr.add_lit]at this;rw[Nat.add_assoc];exact this
  ·obtain⟨i,hi',rfl⟩:=List.mem_map.1 hx;obtain⟨_,_,_,hok,_⟩:=hf i (by simpa using hi');exact hok
  ·show sumBulk R.bulk _+1≤_;simp only[Rows.uptoBulk];have:=bulkAll_ge R.bulk ((List.range len).map f) ((List.range len).map D) (by simp) (fun i x y hx hy=>by
    rw[List.getElem?_map]at hx hy;obtain⟨k,hk,rfl⟩:=Option.map_eq_some_iff.1 hx;obtain⟨k',hk',rfl⟩:=Option.map_eq_some_iff.1 hy;rw[hk]at hk';obtain rfl:=Option.some.inj hk';obtain⟨hk1,hk2⟩:=List.getElem?_eq_some_iff.1 hk;simp at hk1 hk2;subst hk2;obtain⟨_,_,_,_,hbk⟩:=hf i hk1;exact hbk)
   omega
theorem param_slice {P:Program} {t e:TypeId} {α:Type} {R:Rd α} {H:Type} {enc:TypeId × Value→H} {W:World} {base:Nat} {v:Value} {d:DataW H} {p:List MemPlace} (ht:P.underlying t=some (.slice e)) (ho:Opens P t (RSl R))
  (hv:Value.okWide P W .any base t v) (h:DataW.Trod enc P W 0 (fun _=>true) true t v d p):∃ a:SlD α,v = .slice a.A a.n a.cap∧(RSl R).ok W a∧(RSl R).bulk a≤Rows.uptoBulk d:=by
 obtain⟨A,len,cap,rfl⟩:=okWide_slice ht hv;obtain⟨fuel,hf⟩:=h;obtain⟨a,ha,hok,hb⟩:=ho.2 H enc W fuel _ _ hf;simp[Value.cells,RSl]at ha;obtain⟨rfl,rfl,rfl⟩:=ha;exact⟨a,rfl,hok,hb⟩
theorem param_struct {P:Program} {t:TypeId} {fs:Array Field} {α:Type} {R:Rd α} {H:Type} {enc:TypeId × Value→H} {W:World} {base:Nat} {v:Value} {d:DataW H} {p:List MemPlace} (ht:P.underlying t=some (.struct fs)) (ho:Opens P t R)
  (hv:Value.okWide P W .any base t v) (h:DataW.Trod enc P W 0 (fun _=>true) true t v d p):∃ a:α,v = .agg (R.vals a).toArray∧R.ok W a∧R.bulk a≤Rows.uptoBulk d:=by
 obtain⟨cs,rfl,hsz⟩:=okWide_struct ht hv;obtain⟨fuel,hf⟩:=h;obtain⟨a,ha,hok,hb⟩:=ho.2 H enc W fuel _ _ hf;refine⟨a,?_,hok,hb⟩;rw[← ha];simp[Value.cells]
end Go.Proofs.YtdiaabeollcjaaaGreatDoor
namespace Go.Proofs.YtdiaabeollcjaaaGreatDoor
open Go.ChangeShapes Go.WideShapes Go.Deep Go.RowKit Go.Maps
structure KD (P:Program) (k:TypeId) (κ:Type) where
 val:κ→Value
 lit:κ→Lit
 good:κ→Prop
 keyed:Keyed P k
 of_:∀ x,good x→keyOf P k (val x)=some (lit x)
 inv:∀ v l,keyOf P k v=some l→∃ x,good x∧v=val x∧l=lit x
 inj:∀ x y,good x→good y→lit x=lit y→x=y
noncomputable def rdV {α:Type} (val:α→Value) (v:Value):Option (DataW α × List MemPlace) :=
 open Classical in if h:∃ a,v=val a then some (.held (Classical.choose h),[]) else none
def InjV {α:Type} (val:α→Value):Prop:=∀ a b,val a=val b→a=b
theorem rdV_of {α:Type} {val:α→Value} (hi:InjV val) (a:α):rdV val (val a)=some (.held a,[]):=by
 unfold rdV;have h:∃ a',val a=val a':=⟨a,rfl⟩;rw[dif_pos h,hi _ _ (Classical.choose_spec h).symm]
theorem rdV_inv {α:Type} {val:α→Value} {v:Value} {y:DataW α × List MemPlace} (h:rdV val v=some y):∃ a,v=val a∧y=(.held a,[]):=by
 unfold rdV at h
 split at h
 ·rename_i hx
  injection h with h;exact⟨_,Classical.choose_spec hx,h.symm⟩
 ·cases h
section
variable {P:Program} {k:TypeId} {κ α:Type}
def TMap (K:KD P k κ) (val:α→Value) (w:World) (b:Nat) (f:κ→Option α) (c:Nat):Prop :=
 ∃ D:DataW α,w.ownsMap P k (rdV val) b c D∧Maps.size D=c∧∀ x,K.good x→Maps.has D (K.lit x)=(f x).isSome∧∀ a,f x=some a→∀ zd,D.atKey (K.lit x) zd = .held a
variable {K:KD P k κ} {val:α→Value} {w w':World} {b c:Nat} {f:κ→Option α}
theorem TMap.made (w:World) (K:KD P k κ) (val:α→Value):TMap K val (w.alloc (.map #[] 0)) w.heap.size (fun _=>none) 0 :=
 ⟨.map [],World.ownsMap_made w P k (rdV val),rfl,fun x _=>⟨rfl,fun a h=>by cases h⟩⟩
theorem TMap.lt (h:TMap K val w b f c):b<w.heap.size:=by obtain⟨D,h,_⟩:=h;exact h.lt
theorem TMap.kept {row:Option Nat} (h:TMap K val w b f c) (hg:w.grownBy w' row) (hne:some b≠row):TMap K val w' b f c:=by
 obtain⟨D,h,r⟩:=h;exact⟨D,h.kept hg hne,r⟩
theorem TMap.alloc (h:TMap K val w b f c) (o:Obj):TMap K val (w.alloc o) b f c:=h.kept (World.grownBy_alloc w o none) (by simp)
theorem TMap.below {B:Nat} (h:TMap K val w b f c) (hb:Below B w w') (hlt:b<B):TMap K val w' b f c:=by
 obtain⟨D,⟨es,clock,he,r⟩,r2⟩:=h;exact⟨D,⟨es,clock,(hb.block b hlt).trans he,r⟩,r2⟩
theorem TMap.setCell (h:TMap K val w b f c) {a:Addr} (ha:b≠a.block) (u:Value):TMap K val (w.setCell a u) b f c:=by
 obtain⟨D,h,r⟩:=h;exact⟨D,h.setCell ha u,r⟩
def upd [DecidableEq κ] (f:κ→Option α) (x:κ) (a:α):κ→Option α:=fun y=>if y=x then some a else f y
theorem TMap.look [DecidableEq κ] {t e:TypeId} (h:TMap K val w b f c) (ht:P.underlying t=some (.map k e)) {z0:α} (hz:(zeroValue e).run P w = .ok (val z0) w) (hi:InjV val) {x:κ} (hx:K.good x) :
  (Instr.lookup t (.map (some b)) (K.val x) false).run P w = .ok (val ((f x).getD z0)) w∧(Instr.lookup t (.map (some b)) (K.val x) true).run P w = .ok (.tuple #[val ((f x).getD z0),.bool (f x).isSome]) w:=by
 obtain⟨D,h,hs,hv⟩:=h;obtain⟨v1,v2⟩:=hv x hx;have hat:D.atKey (K.lit x) (.held z0) = .held ((f x).getD z0):=by
  cases hf:f x with
  | none =>
   rw[hf]at v1;exact Maps.atKey_of_not_has v1 _
  | some a=>exact v2 a hf _
 obtain⟨v,ps,hr,hR⟩:=h.lookup K.keyed ht hz (rdV_of hi z0) (K.of_ x hx);obtain⟨v',ps',hr',hR'⟩:=h.look_ok K.keyed ht hz (rdV_of hi z0) (K.of_ x hx);rw[hat]at hR hR';obtain⟨a,rfl,ha⟩:=rdV_inv hR;obtain⟨a',rfl,ha'⟩:=rdV_inv hR';simp only[Prod.mk.injEq,DataW.held.injEq]at ha ha';obtain⟨rfl,_⟩:=ha;obtain⟨rfl,_⟩:=ha';rw[← v1];exact⟨hr,hr'⟩
theorem TMap.store [DecidableEq κ] {t e:TypeId} (h:TMap K val w b f c) (ht:P.underlying t=some (.map k e)) (hi:InjV val) (hc:c<maxLen) {x:κ} (hx:K.good x) (a:α) :
  ∃ w',(Instr.mapUpdate t (.map (some b)) (K.val x) (val a)).run P w = .ok () w'∧TMap K val w' b (upd f x a) (if (f x).isSome then c else c+1)∧w.mapTurned w' b:=by
 obtain⟨D,h,hs,hv⟩:=h;obtain⟨w',hr,h',ht'⟩:=h.store K.keyed ht hc (K.of_ x hx) (rdV_of hi a);refine⟨w',hr,⟨D.put (K.lit x) (.held a),?_,?_,fun y hy=>?_⟩,ht'⟩
 ·obtain⟨es,clock,he,F,hsz,hD⟩:=h';refine⟨es,clock,he,F,?_,hD⟩;have e1:Maps.size (D.put (K.lit x) (.held a))=es.size:=by rw[hD];simp[Maps.size,length_sorted]
  rw[← e1,Maps.size_put (h.tidy K.keyed),(hv x hx).1,hs];exact Nat.le_refl _
 ·rw[Maps.size_put (h.tidy K.keyed),(hv x hx).1,hs]
 ·have hk:=K.keyed.key (K.of_ x hx)
  by_cases hyx:y=x
  ·subst hyx;refine⟨?_,fun a' ha' zd=>?_⟩
   ·rw[Maps.has_put_same h.isMap hk];simp[upd]
   ·rw[Maps.atKey_put_same h.isMap hk];simp[upd]at ha';rw[ha']
  ·have hne:K.lit y≠K.lit x:=fun e=>hyx (K.inj _ _ hy hx e);refine⟨?_,fun a' ha' zd=>?_⟩
   ·rw[Maps.has_put_other hne,(hv y hy).1];simp[upd,hyx]
   ·rw[Maps.atKey_put_other hne];simp[upd,hyx]at ha';exact(hv y hy).2 a' ha' zd
variable {ops:Array Oper} {rest:List Oper} {o:Oper} {a:Act} {Q:Exit→Act→World→Prop}
theorem wpList_tstore [DecidableEq κ] (hg:o.guard=none) (m x v:Operand) (t:TypeId) (hop:o.op=Op.mapUpdate t m x v) {e:TypeId} (ht:P.underlying t=some (.map k e)) (hi:InjV val)
  (hm:a.eval m = .map (some b)) (h:TMap K val w b f c) (hc:c<maxLen) (kx:κ) (hx:a.eval x=K.val kx) (hgood:K.good kx) (y:α) (hv:a.eval v=val y)
  (hK:∀ w',TMap K val w' b (upd f kx y) (if (f kx).isSome then c else c+1)→w.grownBy w' (some b)→wpList P ops Q rest (a.put o.dst undef) w'):wpList P ops Q (o::rest) a w:=by
 refine wpList_plain hg fun K' hK'=>?_;obtain⟨w',hr,h',ht'⟩:=h.store ht hi hc hgood y;unfold Oper.wp;simp[execOp,hop,hm,hx,hv,hr,Result.andThen];exact hK' _ _ (hK w' h' ht'.grown)
end
/-! ### kinds of keys -/
theorem ite_le_succ (p:Prop) [Decidable p] (c:Nat):(if p then c else c+1)≤c+1:=by split <;> omega
theorem grown_below {w w':World} {b B:Nat} (hg:w.grownBy w' (some b)) (hb:B≤b) (hs:B≤w.heap.size):Below B w w' :=
 (Below.refl _ _).grown hg hs fun k hk=>by cases hk;exact hb
end Go.Proofs.YtdiaabeollcjaaaGreatDoor
namespace Go.Proofs.YtdiaabeollcjaaaGreatDoor
open Go.ChangeShapes Go.WideShapes Go.Deep Go.RowKit
theorem grown_setc (w:World) (a:Addr) (u:Value):w.grownBy (w.setCell a u) (some a.block) :=
 ⟨rfl,rfl,rfl,by simp,fun k _ hne=>heap_setCell_other w a k u (fun e=>hne (by rw[e]))⟩
def Elem (P:Program) (e:TypeId) (size bytes:Nat):Prop:=∃ i z,P.info? e=some i∧i.zero=some z∧i.size=size∧i.bytes=bytes∧z.cells.size=size
theorem elem_of {P:Program} {e:TypeId} {z:Value} {size bytes:Nat} (h:(P.info? e).map (fun i=>(i.zero,i.size,i.bytes))=some (some z,size,bytes)) (hz:z.cells.size=size):Elem P e size bytes:=by
 obtain⟨i,h1,h2,h3,h4⟩:=info_parts h;exact⟨i,z,h1,h2,h3,h4,hz⟩
def Own {α:Type} (R:Rd α) (e:TypeId) (w:World) (base:Nat) (v:Value) (l:List α):Prop :=
 w.ownsRow base e R.size v l.length (l.flatMap R.vals)∧∀ x∈l,R.ok w x
section
variable {α:Type} {R:Rd α} {e:TypeId} {w w':World} {base:Nat} {v:Value} {l:List α}
theorem Own.nil (w:World) (base:Nat):Own R e w base (.slice none 0 0) []:=⟨World.ownsRow_nil w base e R.size,fun _ h=>by cases h⟩
theorem flatMap_vals_length (l:List α):(l.flatMap R.vals).length=l.length*R.size:=by
 induction l with
 | nil=>simp
 | cons x l ih=>rw[List.flatMap_cons,List.length_append,ih,R.len,List.length_cons,Nat.add_mul,Nat.one_mul,Nat.add_comm]
theorem flatMap_vals_get (l:List α) (i j:Nat) (x:α) (u:Value) (hx:l[i]? = some x) (hu:(R.vals x)[j]? = some u):(l.flatMap R.vals)[i*R.size+j]? = some u:=by
 induction l generalizing i with
 | nil=>cases hx
 | cons y l ih =>
  rw[List.flatMap_cons]
  cases i with
  | zero =>
   simp at hx;subst hx;rw[Nat.zero_mul,Nat.zero_add,List.getElem?_append_left (List.getElem?_eq_some_iff.1 hu).1];exact hu
  | succ i =>
   rw[List.getElem?_append_right (by rw[R.len,Nat.add_mul];omega),R.len,show (i+1)*R.size+j-R.size=i*R.size+j by rw[Nat.add_mul];omega];exact ih i (by simpa using hx)
theorem Own.form (h:Own R e w base v l):∃ A cap,v = .slice A l.length cap:=by
 rcases h.1.2 with ⟨rfl,hn⟩ | ⟨g,cap,cur,rfl,_⟩
 ·exact⟨none,0,by rw[hn]⟩
 ·exact⟨_,cap,rfl⟩
theorem Own.len {A:Option Addr} {n cap:Nat} (h:Own R e w base (.slice A n cap) l):l.length=n:=by
 obtain⟨A',cap',hv⟩:=h.form;injection hv with _ h2 _;exact h2.symm
theorem Own.cap_le {A:Option Addr} {n cap:Nat} (h:Own R e w base (.slice A n cap) l):n≤cap:=by
 have hl:=h.len
 rcases h.1.2 with ⟨hv,_⟩ | ⟨g,cap',cur,hv,_,_,hle,_⟩
 ·injection hv with _ h2 h3;omega
 ·injection hv with _ _ h3;omega
theorem Own.slAt {A:Option Addr} {n cap:Nat} (h:Own R e w base (.slice A n cap) l):SlAt R w A n l:=by
 refine⟨h.len,fun hn=>?_,h.2⟩
 rcases h.1.2 with ⟨hv,_⟩ | ⟨g,cap',cur,hv,_⟩
 ·injection hv with _ h2 _;omega
 ·injection hv with h1 h2 h3;subst h1;refine⟨g,0,rfl,fun i x hx j u hu=>?_⟩;have:=h.1.cells (g:=g) rfl (i*R.size+j) u (flatMap_vals_get l i j x u hx hu);rw[Addr.add_lit,← Nat.add_assoc]at this;exact this
theorem Own.below (h:Own R e w base v l) (hb:Below w.heap.size w w'):Own R e w' base v l :=
 ⟨h.1.kept (row:=none) ⟨hb.os,hb.tape,hb.output,hb.size,fun k hk _=>hb.block k hk⟩ (by
  cases hv:v.ownBlock
  ·exact .inl rfl
  ·exact .inr (by simp)),fun x hx=>R.mono _ _ _ hb (h.2 x hx)⟩
theorem Own.alloc (h:Own R e w base v l) (o:Obj):Own R e (w.alloc o) base v l:=h.below ((Below.refl _ _).alloc (Nat.le_refl _) o)
theorem slAt_new (w:World) (e:TypeId) (x:α) (hok:R.ok w x):SlAt R (w.alloc (.cells (R.vals x).toArray e)) (some ⟨w.heap.size,0,none⟩) 1 [x]:=by
 refine⟨rfl,fun _=>⟨_,_,rfl,fun i y hy j u hu=>?_⟩,fun y hy=>?_⟩
 ·cases i with
  | zero =>
   simp at hy;subst hy
   simpa[go_sem]using hu
  | succ i=>simp at hy
 ·simp at hy;subst hy;exact R.mono _ _ _ ((Below.refl _ _).alloc (Nat.le_refl _) _) hok
theorem wpList_app {P:Program} {ops:Array Oper} {rest:List Oper} {o:Oper} {a:Act} {Q:Exit→Act→World→Prop} (hgd:o.guard=none) (s x:Operand) (t:TypeId)
  (ho:o.op = .call { callee:=.builtin .append,args:=#[s,x],argTypes:=#[t,t] })
  {bytes:Nat} (ht:P.underlying t=some (.slice e)) (hE:Elem P e R.size bytes) (hsz:0<R.size)
  (hs:a.eval s=v) (hown:Own R e w base v l) (A:Option Addr) (m c:Nat) (l2:List α) (hx:a.eval x = .slice A m c) (h2:SlAt R w A m l2) (hn:m=0→A=none→c=0)
  (hok:∀ w',w.grownBy w' v.ownBlock→∀ y,y∈l++l2→R.ok w y→R.ok w' y)
  (h63:l.length+m≤maxLen) (hbytes:(l.length+m)*bytes≤140737488355328) (hbase:base≤w.heap.size)
  (N:Nat) (hN:l.length+m=N)
  (h:∀ A' c' w',Own R e w' base (.slice A' N c') (l++l2)→w.grownBy w' v.ownBlock→(Value.ownBlock (.slice A' N c')=v.ownBlock∨Value.ownBlock (.slice A' N c')=some w.heap.size) →
   Below base w w'→wpList P ops Q rest (a.put o.dst (.slice A' N c')) w') :
  wpList P ops Q (o::rest) a w:=by
 subst hN;obtain⟨i,z,hi,hz,hz1,hz2,hz3⟩:=hE;have below_of:∀ w',w.grownBy w' v.ownBlock→Below base w w':=fun w' hg=>(Below.refl _ _).grown hg hbase fun k hk=>(hown.1.lt k hk).1
 cases A with
 | none =>
  have hm:m=0:=by
   rcases Nat.eq_zero_or_pos m with h0 | h0
   ·exact h0
   ·obtain⟨_,_,h,_⟩:=h2.2.1 h0
    cases h
  subst hm;obtain rfl:=hn rfl rfl;obtain rfl:l2 = []:=List.eq_nil_of_length_eq_zero h2.1;obtain⟨A',c',rfl⟩:=hown.form;refine wpList_append_own_none hgd s x t ho base e i R.size ht hi (.slice A' l.length c') l.length (l.flatMap R.vals) hs hown.1 hx ?_;exact h A' c' w (by rw[List.append_nil];exact hown) (World.grownBy.refl _ _) (.inl rfl) (below_of _ (World.grownBy.refl _ _))
 | some ad =>
  have hcells:∀ j u,(l2.flatMap R.vals)[j]? = some u→w.cell? (ad.add j)=some u:=by
   intro j u hu;have hj:j<l2.length*R.size:=by rw[← flatMap_vals_length];exact(List.getElem?_eq_some_iff.1 hu).1
   have hm:0<m:=by
    rcases Nat.eq_zero_or_pos m with h0 | h0
    ·rw[h2.1,h0]at hj;simp at hj
    ·exact h0
   obtain⟨b,off,hA,hc⟩:=h2.2.1 hm;injection hA with hA;subst hA;have hi':j / R.size<l2.length:=Nat.div_lt_of_lt_mul (by rw[Nat.mul_comm];exact hj);have hjr:j % R.size<R.size:=Nat.mod_lt _ hsz;have hje:j=j / R.size*R.size+j % R.size:=by rw[Nat.mul_comm];exact(Nat.div_add_mod j R.size).symm
   have hget:(R.vals l2[j / R.size])[j % R.size]? = some u:=by
    have hv:∃ u',(R.vals l2[j / R.size])[j % R.size]? = some u':=⟨_,List.getElem?_eq_getElem (by rw[R.len];exact hjr)⟩;obtain⟨u',hu'⟩:=hv;have:=flatMap_vals_get l2 (j / R.size) (j % R.size) _ u' (List.getElem?_eq_getElem hi') hu';rw[← hje,hu]at this;rw[hu',this]
   have:=hc (j / R.size) _ (List.getElem?_eq_getElem hi') (j % R.size) u hget;rw[Nat.add_assoc,← hje]at this;rw[Addr.add_lit];exact this
  refine wpList_append_own_at w hgd s x t ho base e i z R.size bytes ht hi hz hz1 hz2 hz3 hsz v l.length (l.flatMap R.vals) hs hown.1 ad m c (l2.flatMap R.vals) hx (by rw[flatMap_vals_length,h2.1]) hcells
   (fun u hu=>by obtain⟨y,_,hy⟩:=List.mem_flatMap.1 hu;exact R.one y u hy) h63 hbytes hbase ?_
  intro v' w' h3 hg _ hat;have hbw:=below_of _ hg;obtain⟨A',c',hv'⟩:∃ A' c',v' = .slice A' (l.length+m) c':=by
   rcases h3.2 with ⟨rfl,hn'⟩ | ⟨g,cap,cur,rfl,_⟩
   ·exact⟨none,0,by rw[hn']⟩
   ·exact⟨_,cap,rfl⟩
  subst hv';refine h A' c' w' ⟨?_,fun y hy=>?_⟩ hg hat hbw
  ·rw[List.length_append,h2.1,List.flatMap_append];exact h3
  ·rcases List.mem_append.1 hy with hy | hy
   ·exact hok w' hg y (List.mem_append.2 (.inl hy)) (hown.2 y hy)
   ·exact hok w' hg y (List.mem_append.2 (.inr hy)) (h2.2.2 y hy)
theorem Own.empty (w:World):Own R e (w.alloc (.cells #[] e)) w.heap.size (.slice (some ⟨w.heap.size,0,none⟩) 0 0) []:=by
 refine⟨?_,fun _ h=>by cases h⟩;have:=World.ownsRow_made w #[] 0 (base:=w.heap.size) (e:=e) (size:=R.size) (Nat.le_refl _) (Nat.zero_le _) (by simp)
 simpa using this
end
end Go.Proofs.YtdiaabeollcjaaaGreatDoor