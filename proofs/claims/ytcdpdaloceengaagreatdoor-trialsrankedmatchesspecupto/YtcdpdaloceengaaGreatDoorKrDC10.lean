/-
 Several texts of mine as one, without what is not wanted here: XAsideD, XRnE, XRnH, XOr, XRnC, XRFlaky, XRnF, XRnG, XBlkT.
-/
import Derived.Test.YtcdpdaloceengaaGreatDoorKrCC10
import Derived.Sort.Grow
import Derived.Shelf.SlSortCmp.NoneTotal
set_option linter.unusedVariables false
set_option linter.unusedSimpArgs false
set_option maxRecDepth 100000
set_option maxHeartbeats 8000000
namespace Go.Proofs.YtcdpdaloceengaaGreatDoor.C10
open Go.RowKit Go.Maps
def cntAt (l:List TestRun) (at_:Int):Nat:=(l.takeWhile fun r=>decide (r.at_≤at_)).length
def asideF (l:List TestRun) (many window good at_:Int):Int :=
 if histF l=0 then (if inR 1 100 many=true∧inR 1 1000000000 window=true∧inR 1 100 good=true∧inR 0 1000000000 at_=true then 0 else 1) else histF l
def AsIn (l:List TestRun) (many window good:Int) (n:Nat) (s:ByteArray):Prop:=∃ x,hstK many window good l n s=some x∧x.aside=true
def AsideAns (l:List TestRun) (many window good at_:Int) (c:Int) (L:List ByteArray):Prop :=
 if c=0 then Rising L∧∀ s,s∈L↔AsIn l many window good (cntAt l at_) s else L = []
theorem cntAt_le (l:List TestRun) (at_:Int):cntAt l at_≤l.length:=(List.takeWhile_prefix _).length_le
theorem cntAt_in {l:List TestRun} {at_:Int} {k:Nat} (hk:k<cntAt l at_):∃ r,l[k]? = some r∧r.at_≤at_:=by
 have hp:(l.takeWhile fun r=>decide (r.at_≤at_)) <+: l:=List.takeWhile_prefix _;obtain⟨t,ht⟩:=hp;have hlt:k<(l.takeWhile fun r=>decide (r.at_≤at_)).length:=hk;have hg:(l.takeWhile fun r=>decide (r.at_≤at_))[k]? = some (l.takeWhile fun r=>decide (r.at_≤at_))[k]:=List.getElem?_eq_getElem hlt;refine⟨(l.takeWhile fun r=>decide (r.at_≤at_))[k],?_,?_⟩
 ·rw[← hg]
  conv=>lhs;rw[← ht]
  exact List.getElem?_append_left hlt
 ·have:=List.all_takeWhile (p:=fun r:TestRun=>decide (r.at_≤at_)) (l:=l);rw[List.all_eq_true]at this
  simpa using this _ (List.getElem_mem hlt)
theorem cntAt_end:∀ {l:List TestRun} {at_:Int} {k:Nat} {r:TestRun},l[k]? = some r→k=cntAt l at_→at_<r.at_
 | [],at_,k,r,h,_=>by simp at h
 | y::l,at_,k,r,h,e=>by
  unfold cntAt at e
  by_cases hy:y.at_≤at_
  ·rw[List.takeWhile_cons_of_pos (by simpa using hy),List.length_cons]at e;subst e;rw[List.getElem?_cons_succ]at h;exact cntAt_end h rfl
  ·rw[List.takeWhile_cons_of_neg (by simpa using hy)]at e;simp only[List.length_nil]at e;subst e;simp only[List.getElem?_cons_zero]at h;injection h with h;subst h;omega
theorem cntAt_take:∀ (l:List TestRun) (at_:Int) (m:Nat),cntAt l at_≤m→cntAt (l.take m) at_=cntAt l at_
 | [],at_,m,_=>by simp
 | y::l,at_,m,h=>by
  unfold cntAt at h ⊢
  by_cases hy:y.at_≤at_
  ·rw[List.takeWhile_cons_of_pos (by simpa using hy),List.length_cons]at h ⊢;obtain⟨m',rfl⟩:∃ m',m=m'+1:=⟨m-1,by omega⟩;rw[List.take_succ_cons,List.takeWhile_cons_of_pos (by simpa using hy),List.length_cons];have:=cntAt_take l at_ m' (by unfold cntAt;omega);unfold cntAt at this;omega
  ·rw[List.takeWhile_cons_of_neg (by simpa using hy)]
   cases m with
   | zero=>simp
   | succ m=>rw[List.take_succ_cons,List.takeWhile_cons_of_neg (by simpa using hy)]
theorem AsideAns.eq {l:List TestRun} {many window good at_ c:Int} {m:Nat} {L L':List ByteArray} (hm:cntAt l at_≤m) (h:AsideAns l many window good at_ c L) (h':AsideAns (l.take m) many window good at_ c L'):L=L':=by
 unfold AsideAns at h h'
 split at h
 ·rename_i hc
  rw[if_pos hc]at h';refine h.1.eq h'.1 (fun s=>(h.2 s).trans (Iff.trans ?_ (h'.2 s).symm));rw[cntAt_take l at_ m hm];unfold AsIn;rw[hstK_take many window good l m _ hm]
 ·rename_i hc
  rw[if_neg hc]at h';rw[h,h']
def Shook (l:List TestRun) (k:Nat) (s:ByteArray):Prop:=∃ i r,i<k∧l[i]? = some r∧r.test=s∧shakenB (tal (l.take i) (s,r.key)) r.pass=true
theorem Shook.up {l:List TestRun} {k:Nat} {s:ByteArray} (h:Shook l k s):Shook l (k+1) s:=by
 obtain⟨i,r,hi,h⟩:=h;exact⟨i,r,by omega,h⟩
theorem hist_inA:∀ (l:List TestRun) (p:Option Int),histErr p l=0→∀ y∈l,0≤y.at_∧y.at_≤1000000000∧0≤y.seconds∧y.seconds≤100000
 | r::s,p,h,y,hy=>by
  unfold histErr at h
  by_cases a:pathB r.test=true
  ·rw[if_pos a]at h
   by_cases b:digB r.key=true
   ·rw[if_pos b]at h
    by_cases c:inR 0 1000000000 r.at_=true∧inR 0 100000 r.seconds=true
    ·rw[if_pos c]at h
     by_cases d:p.map (fun t=>decide (r.at_<t))=some true
     ·rw[if_pos d]at h;cases h
     ·rw[if_neg d]at h
      rcases List.mem_cons.1 hy with rfl | hy
      ·have:=inR_true c.1;have:=inR_true c.2;omega
      ·exact hist_inA s _ h y hy
    ·rw[if_neg c]at h;cases h
   ·rw[if_neg b]at h;cases h
  ·rw[if_neg a]at h;cases h
theorem histF_ok {l:List TestRun} (h:histF l=0):l.length≤3000∧∀ y∈l,0≤y.at_∧y.at_≤1000000000:=by
 unfold histF at h
 by_cases hl:l.length≤3000
 ·rw[if_pos hl]at h;exact⟨hl,fun y hy=>by have:=hist_inA l none h y hy;omega⟩
 ·rw[if_neg hl]at h;cases h
end Go.Proofs.YtcdpdaloceengaaGreatDoor.C10
namespace Go.Proofs.YtcdpdaloceengaaGreatDoor.C10
open Go.ChangeShapes Go.WideShapes Go.Deep Go.RowKit Go.Maps
def nmErr:Option ByteArray→List ByteArray→Int
 | _,[]=>0
 | p,s::r=>if pathB s=true then (if p.map (sle s ·)=some true then 8 else nmErr (some s) r) else 5
def prevN (l:List ByteArray) (k:Nat):Option ByteArray:=if k=0 then none else l[k-1]?
def rankF (l:List TestRun) (names:List ByteArray) (last:Int):Int:=if histF l=0 then (if names.length≤300 then (if nmErr none names=0 then (if inR 1 3000 last=true then 0 else 1) else nmErr none names) else 2) else histF l
theorem nmErr_rise:∀ (l:List ByteArray) (p:Option ByteArray),nmErr p l=0→(∀ q,p=some q→∀ s∈l,cmpS q s = -1)∧l.Pairwise fun a b=>cmpS a b = -1
 | [],p,_=>⟨(fun q _ s hs=>by cases hs),List.Pairwise.nil⟩
 | v::l,p,h=>by
  unfold nmErr at h
  split at h
  ·split at h
   ·exact absurd h (by decide)
   ·rename_i h1
    obtain⟨a,b⟩:=nmErr_rise l (some v) h;refine⟨fun q hq s hs=>?_,List.pairwise_cons.2 ⟨fun y hy=>a _ rfl y hy,b⟩⟩;subst hq;have hqv:cmpS q v = -1:=by
     rw[Option.map_some,sle_cmp]at h1;have h2:¬ cmpS v q≤0:=fun h=>h1 (by rw[decide_eq_true h]);have h3:=cmpS_range v q;have h4:=cmpS_swap q v;omega
    rcases List.mem_cons.1 hs with rfl | hs
    ·exact hqv
    ·exact cmpS_trans hqv (a _ rfl s hs)
  ·exact absurd h (by decide)
theorem hist_secs:∀ (l:List TestRun) (p:Option Int),histErr p l=0→∀ r∈l,0≤r.seconds∧r.seconds≤100000
 | [],_,_,r,hr=>by cases hr
 | v::l,p,h,r,hr=>by
  unfold histErr at h
  split at h
  ·split at h
   ·split at h
    ·rename_i h4
     split at h
     ·exact absurd h (by decide)
     ·rcases List.mem_cons.1 hr with rfl | hr
      ·exact inR_true h4.2
      ·exact hist_secs l _ h r hr
    ·exact absurd h (by decide)
   ·exact absurd h (by decide)
  ·exact absurd h (by decide)
theorem histF_secs {l:List TestRun} (h:histF l=0):∀ r∈l,0≤r.seconds∧r.seconds≤100000:=by
 unfold histF at h
 split at h
 ·exact hist_secs l none h
 ·exact absurd h (by decide)
def recOf (last:Int) (l:List TestRun) (s:ByteArray):Rec:=recF last s l
theorem recOf_ok {l:List TestRun} (h:histF l=0) (last:Int) (s:ByteArray):RecOk 3000 (recOf last l s):=by
 have h1:=recF_ok last s l (histF_secs h);have h2:=(histF_ok h).1;obtain⟨a,b,c⟩:=h1;exact⟨a,b,c.1,Int.le_trans c.2 (by omega)⟩
theorem recOf_p {l:List TestRun} (h:histF l=0) (last:Int) (s:ByteArray):RecP (recOf last l s):=(recOf_ok h last s).p
def RankAns (l:List TestRun) (names:List ByteArray) (last c:Int) (L:List ByteArray):Prop:=if c=0 then InsN (recOf last l) names names.length L else L = []
def RankOut (l:List TestRun) (names:List ByteArray) (last c:Int) (w:World) (e:Ending) (w':World):Prop :=
 ∃ A' n' c' L,e = .returned (.tuple #[.slice A' n' c',.int .i64 c])∧SlAt RStr w' A' n' L∧RankAns l names last c L∧n'≤3000∧Below w.heap.size w w'
theorem rank_nil (l:List TestRun) (names:List ByteArray) (last c:Int) (w w':World) (hc:c≠0) (hb:Below w.heap.size w w'):RankOut l names last c w (.returned (.tuple #[.slice none 0 0,.int .i64 c])) w' :=
 ⟨none,0,0,[],rfl,⟨rfl,fun h=>by omega,fun x hx=>by cases hx⟩,by rw[RankAns,if_neg hc],by omega,hb⟩
def NmRel (l:List ByteArray) (c:Int) (w0:World) (i:Value) (wr:World):Prop:=∃ k:Nat,k≤l.length∧i = .int .i64 k∧nmErr (prevN l k) (l.drop k)=c∧Below w0.heap.size w0 wr
theorem RankAns.uniq {l:List TestRun} {names:List ByteArray} {last c:Int} {L M:List ByteArray} (h:RankAns l names last c L) (h':RankAns l names last c M):L=M:=by
 unfold RankAns at h h'
 split at h
 ·rename_i hc
  rw[if_pos hc]at h';exact strict_uniq (lt:=rkLt (recOf last l)) rkLt_asym (h.perm.trans h'.perm.symm) h.sort h'.sort
 ·rename_i hc
  rw[if_neg hc]at h';rw[h,h']
end Go.Proofs.YtcdpdaloceengaaGreatDoor.C10
namespace Go.Proofs.YtcdpdaloceengaaGreatDoor.C10
open Go.RowKit Go.Maps
theorem recF_cons (last:Int) (s:ByteArray) (x:TestRun) (L:List TestRun):recF last s (x::L)=recS last s x (recF last s L):=rfl
theorem recF_pos (last:Int) (s:ByteArray):∀ L:List TestRun,0≤(recF last s L).all∧((recF last s L).all=0→recF last s L=rec0)
 | []=>⟨Int.le_refl _,fun _=>rfl⟩
 | x::L=>by
  obtain⟨a,b⟩:=recF_pos last s L;rw[recF_cons];unfold recS
  split
  ·exact⟨by simp only;omega,fun h=>by simp only at h;omega⟩
  ·exact⟨a,b⟩
def fM (last:Int) (L:List TestRun) (s:ByteArray):Option Rec:=if (recF last s L).all=0 then none else some (recF last s L)
theorem fM_getD (last:Int) (L:List TestRun) (s:ByteArray):(fM last L s).getD rec0=recF last s L:=by
 unfold fM
 split
 ·rename_i h;rw[(recF_pos last s L).2 h];rfl
 ·rfl
theorem fM_full {last:Int} {L:List TestRun} {x:TestRun} (h:(recF last x.test L).all=last):fM last (x::L)=fM last L:=by
 funext s
 unfold fM;have e:recF last s (x::L)=recF last s L:=by
  rw[recF_cons];unfold recS;rw[if_neg];rintro⟨rfl,h2⟩;omega
 rw[e]
theorem fM_step {last:Int} {L:List TestRun} {x:TestRun} (h0:0≤last) (h:(recF last x.test L).all≠last) {r:Rec} (hr:recF last x.test L=r) :
  fM last (x::L)=upd (fM last L) x.test ⟨if x.pass=true then r.bad else r.bad+1,r.took+x.seconds,r.all+1⟩:=by
 subst hr;have hm:=recF_most h0 x.test L
 funext s
 unfold upd
 by_cases hs:s=x.test
 ·subst hs;rw[if_pos rfl];have e:recF last x.test (x::L)=⟨if x.pass=true then (recF last x.test L).bad else (recF last x.test L).bad+1,(recF last x.test L).took+x.seconds,(recF last x.test L).all+1⟩:=by
   rw[recF_cons];unfold recS;rw[if_pos ⟨rfl,by omega⟩]
  unfold fM;rw[e,if_neg];have:=(recF_pos last x.test L).1;simp only;omega
 ·rw[if_neg hs];unfold fM;have e:recF last s (x::L)=recF last s L:=by
   rw[recF_cons];unfold recS;rw[if_neg];rintro⟨h1,_⟩;exact hs h1.symm
  rw[e]
end Go.Proofs.YtcdpdaloceengaaGreatDoor.C10
namespace Go.Proofs.YtcdpdaloceengaaGreatDoor.C10
open Go.RowKit
def orF:List Int→Int
 | []=>0
 | x::r=>if x=0 then orF r else x
def OrRel (l:List Int) (c:Int) (i:Value):Prop:=∃ k:Nat,k≤l.length∧i = .int .i64 k∧orF (l.drop k)=c
theorem cell_Int {w:World} {b off m k:Nat} {l:List Int} {x:Int} (h:SlAt RInt w (some ⟨b,off,none⟩) m l) (hx:l[k]? = some x):w.cell? ⟨b,off+k,none⟩=some (.int .i64 x):=by
 have hk:=(List.getElem?_eq_some_iff.1 hx).1;obtain⟨b',off',hA,hc⟩:=h.2.1 (by have:=h.1;omega);obtain⟨rfl,rfl⟩:b=b'∧off=off':=by simpa using hA
 have:=hc k x hx 0 _ rfl
 simpa[RInt]using this
theorem or_any (A:Option Addr) (len cap:Nat) (l:List Int) (w:World) (hlen:len≤1000) (hl:SlAt RInt w A len l) (c:Int) (hF:orF l=c) :
  Calls Tryz.prog 36 #[.slice A len cap] w fun e w'=>e = .returned (.int .i64 c)∧w=w':=by
 have hll:=hl.1;obtain⟨hllH,hFH,hlH⟩:=hq2 hll (hq2 hF (Lib.hid hl));clear hll hF hl;go_enter Tryz.func36,Tryz.ntmps36;go_wp2
 go_loop [8] (fun i=>OrRel l c i) (fun i=>len-(intOf i).toNat)
 case atStart=>exact⟨0,Nat.zero_le _,rfl,hFH.out⟩
 case round =>
  obtain⟨k,hk,rfl,hck⟩:=hrel;have hkl:k≤len:=by have:=hllH.out;omega
  by_cases hlt:k<len
  ·obtain⟨b,off,hA,_⟩:=hlH.out.2.1 (by omega);subst hA;obtain⟨x,hx⟩:∃ x,l[k]? = some x:=⟨l[k]'(by have:=hllH.out;omega),List.getElem?_eq_getElem _⟩;have c0:=cell_Int hlH.out hx;have hkl2:k+1≤l.length:=by have:=hllH.out;omega
   rw[drop_cons hx,orF]at hck
   by_cases h0:x=0
   ·rw[if_pos h0]at hck;subst h0;have R:OrRel l c (.int .i64 (k+1)):=⟨k+1,hkl2,by go_num,hck⟩;obtain⟨hckH,hxH,RH⟩:=hq2 hck (hq2 hx (Lib.hid R));clear hck hx R;go_wp2;refine⟨?rel,?measure⟩
    case measure=>(simp[intOf];omega)
    case rel=>first | exact RH.out | exact⟨rfl,RH.out⟩
   ·rw[if_neg h0]at hck;subst hck;have h1:(x != 0)=true:=by simpa using h0
    have hxH:=Lib.hid hx;clear hx;go_wp2;go_ret;exact⟨rfl,rfl⟩
  ·have e:l.drop k = []:=List.drop_eq_nil_of_le (by have:=hllH.out;omega);rw[e,orF]at hck;subst hck;clear e;go_wp2;go_ret;exact⟨rfl,rfl⟩
end Go.Proofs.YtcdpdaloceengaaGreatDoor.C10
namespace Go.Proofs.YtcdpdaloceengaaGreatDoor.C10
open Go.RowKit Go.Sort
theorem or_cells4 {w:World} {A:Option Addr} {b:Nat} {x y z u:Int} (hA:A=some ⟨b,0,none⟩) (h0:w.cell? ⟨b,0,none⟩=some (.int .i64 x)) (h1:w.cell? ⟨b,1,none⟩=some (.int .i64 y)) (h2:w.cell? ⟨b,2,none⟩=some (.int .i64 z)) (h3:w.cell? ⟨b,3,none⟩=some (.int .i64 u)) (hx:I64 x) (hy:I64 y) (hz:I64 z) (hu:I64 u) :
  SlAt RInt w A 4 [x,y,z,u]:=by
 refine⟨rfl,fun _=>⟨b,0,hA,fun i v hv j u' hu=>?_⟩,?_⟩
 ·match j,hu with
  | 0,hu =>
   simp only[RInt,List.getElem?_cons_zero,Option.some.injEq]at hu;subst hu
   match i,hv with
   | 0,hv=>simp only[List.getElem?_cons_zero,Option.some.injEq]at hv;subst hv;exact h0
   | 1,hv=>simp only[List.getElem?_cons_succ,List.getElem?_cons_zero,Option.some.injEq]at hv;subst hv;exact h1
   | 2,hv=>simp only[List.getElem?_cons_succ,List.getElem?_cons_zero,Option.some.injEq]at hv;subst hv;exact h2
   | 3,hv=>simp only[List.getElem?_cons_succ,List.getElem?_cons_zero,Option.some.injEq]at hv;subst hv;exact h3
   | n+4,hv=>simp at hv
  | n+1,hu=>simp[RInt]at hu
 ·intro v hv;simp only[List.mem_cons,List.not_mem_nil,or_false]at hv
  rcases hv with rfl | rfl | rfl | rfl <;> assumption
theorem cell_new_at (w:World) (cs:Array Value) (t:TypeId) (j b:Nat) (hb:w.heap.size=b):(w.alloc (.cells cs t)).drew.cell? ⟨b,j,none⟩=cs[j]?:=by subst hb;exact cell_new w cs t j
theorem I64_ofQ {x:Int} (h:x = -1∨x=0∨x=1):I64 x:=by unfold I64;omega
theorem cmpI_rangeQ (x y:Int):Lib.compareInt x y = -1∨Lib.compareInt x y=0∨Lib.compareInt x y=1:=by
 unfold Lib.compareInt
 split
 ·exact Or.inl rfl
 ·split
  ·exact Or.inr (Or.inr rfl)
  ·exact Or.inr (Or.inl rfl)
theorem or_cmpN (a b:NRec):orF [Lib.compareInt b.bad a.bad,Lib.compareInt (min a.all 1) (min b.all 1),Lib.compareInt (a.took*b.all) (b.took*a.all),cmpS a.name b.name]=if cmp3 a.r b.r≠0 then cmp3 a.r b.r else cmpS a.name b.name:=by
 show (if Lib.compareInt b.bad a.bad=0 then (if Lib.compareInt (min a.all 1) (min b.all 1)=0 then (if Lib.compareInt (a.took*b.all) (b.took*a.all)=0 then (if cmpS a.name b.name=0 then 0 else cmpS a.name b.name) else Lib.compareInt (a.took*b.all) (b.took*a.all)) else Lib.compareInt (min a.all 1) (min b.all 1)) else Lib.compareInt b.bad a.bad)=_;unfold cmp3 NRec.r;simp only
 by_cases h1:Lib.compareInt b.bad a.bad=0
 ·by_cases h2:Lib.compareInt (min a.all 1) (min b.all 1)=0
  ·by_cases h3:Lib.compareInt (a.took*b.all) (b.took*a.all)=0
   ·by_cases h4:cmpS a.name b.name=0
    ·simp[h1,h2,h3,h4]
    ·simp[h1,h2,h3,h4]
   ·simp[h1,h2,h3]
  ·simp[h1,h2]
 ·simp[h1]
theorem rankCmp_grow (a b:NRec) (w:World) (ha:RecOk 3000 a.r) (hb:RecOk 3000 b.r) (c:Int) (hF:(if cmp3 a.r b.r≠0 then cmp3 a.r b.r else cmpS a.name b.name)=c) :
  Calls Tryz.prog 18 #[.agg #[.string a.name,.int .i64 a.bad,.int .i64 a.took,.int .i64 a.all],.agg #[.string b.name,.int .i64 b.bad,.int .i64 b.took,.int .i64 b.all]] w fun e w'=>e = .returned (.int .i64 c)∧∃ q os',w'=grow (w.drewN q) os':=by
 rw[← or_cmpN]at hF;obtain⟨w0,hw0⟩:∃ w0,w0=(w.alloc (.cells #[.string a.name,.int .i64 a.bad,.int .i64 a.took,.int .i64 a.all] 41)).alloc (.cells #[.string b.name,.int .i64 b.bad,.int .i64 b.took,.int .i64 b.all] 41):=⟨_,rfl⟩;obtain⟨⟨p1,p2⟩,⟨p3,p4⟩,p5,p6⟩:=ha;obtain⟨⟨q1,q2⟩,⟨q3,q4⟩,q5,q6⟩:=hb;simp only[NRec.r]at p1 p2 p3 p4 p5 p6 q1 q2 q3 q4 q5 q6;have w1:IntKind.i64.wrap (a.took*b.all)=a.took*b.all:=mul_small (k:=0) p3 (by omega) q5 (by omega);have w2:IntKind.i64.wrap (b.took*a.all)=b.took*a.all:=mul_small (k:=0) q3 (by omega) p5 (by omega);clear p1 p2 p3 p4 p5 p6 q1 q2 q3 q4 q5 q6;obtain⟨hFH,hw0H⟩:=hq2 hF (Lib.hid hw0);clear hF hw0;go_enter Tryz.func18,Tryz.ntmps18;go_wp2_with fail
 go_region_held3 (fun w'=>w'.cell? ⟨w.heap.size,0,none⟩=some (.string a.name)∧w'.cell? ⟨w.heap.size,1,none⟩=some (.int .i64 a.bad)∧w'.cell? ⟨w.heap.size,2,none⟩=some (.int .i64 a.took)∧w'.cell? ⟨w.heap.size,3,none⟩=some (.int .i64 a.all)∧w'.cell? ⟨w.heap.size+1,0,none⟩=some (.string b.name)∧w'.cell? ⟨w.heap.size+1,1,none⟩=some (.int .i64 b.bad)∧w'.cell? ⟨w.heap.size+1,2,none⟩=some (.int .i64 b.took)∧w'.cell? ⟨w.heap.size+1,3,none⟩=some (.int .i64 b.all)) (go_keep)
  (first
   | (go_at_call 37;refine(Tryz.cmp_Compare_int _ _ _).mono ?_;rintro e w1 ⟨rfl,rfl⟩)
   | (go_at_call 38;refine(Tryz.strings_Compare _ _ _).mono ?_;rintro e w1 ⟨rfl,rfl⟩)
   | (go_at_call 36;refine(or_any _ 4 _ [Lib.compareInt b.bad a.bad,Lib.compareInt (min a.all 1) (min b.all 1),Lib.compareInt (a.took*b.all) (b.took*a.all),cmpS a.name b.name] _ (by omega) (or_cells4 rfl ?_ ?_ ?_ ?_ (I64_ofQ (cmpI_rangeQ _ _)) (I64_ofQ (cmpI_rangeQ _ _)) (I64_ofQ (cmpI_rangeQ _ _)) (I64_ofQ (cmpS_range _ _))) c (by exact hFH.out)).mono ?_;(exact(cell_new_at _ _ _ 0 _ (by simp)).trans rfl);(exact(cell_new_at _ _ _ 1 _ (by simp)).trans rfl);(exact(cell_new_at _ _ _ 2 _ (by simp)).trans rfl);(exact(cell_new_at _ _ _ 3 _ (by simp)).trans rfl);rintro e w1 ⟨rfl,rfl⟩))
 all_goals (try go_wp2)
 all_goals (go_ret;exact⟨rfl,_,#[_,_,_],rfl⟩)
end Go.Proofs.YtcdpdaloceengaaGreatDoor.C10
namespace Go.Proofs.YtcdpdaloceengaaGreatDoor.C10
open Go.RowKit Go.Maps
theorem elem_Str:Elem Tryz.prog 9 RStr.size 16:=elem_of (z:=.string ByteArray.empty) (by kernel_rfl) (by decide)
end Go.Proofs.YtcdpdaloceengaaGreatDoor.C10
namespace Go.Proofs.YtcdpdaloceengaaGreatDoor.C10
open Go.RowKit Go.Maps Go.Sort
def valN (r:Rec):Value:=.agg #[.string ByteArray.empty,.int .i64 r.bad,.int .i64 r.took,.int .i64 r.all]
theorem injN:InjV valN:=fun a b h=>by
 simp only[valN,Value.agg.injEq,Array.mk.injEq,List.cons.injEq,Value.int.injEq,true_and,and_true]at h;obtain⟨x1,x2,x3⟩:=a;obtain⟨y1,y2,y3⟩:=b;simp only at h;obtain⟨rfl,rfl,rfl⟩:=h;rfl
theorem zeroN (w:World):(zeroValue 41).run Tryz.prog w = .ok (valN rec0) w:=by kernel_rfl
theorem tmap_heap {P:Program} {k:TypeId} {κ α:Type} {K:KD P k κ} {val:α→Value} {w w':World} {b c:Nat} {f:κ→Option α} (h:TMap K val w b f c) (he:w'.heap[b]? = w.heap[b]?):TMap K val w' b f c:=by
 obtain⟨D,⟨es,clock,he2,r⟩,r2⟩:=h;exact⟨D,⟨es,clock,he.trans he2,r⟩,r2⟩
theorem of_any (s:ByteArray) (pb mb c:Nat) (f:ByteArray→Option Rec) (W:World) (hp:W.cell? ⟨pb,0,none⟩=some (.map (some mb))) (hT:TMap KB valN W mb f c) (hs:s.size≤maxLen) (r:Rec) (hr:(f s).getD rec0=r) :
  Calls Tryz.prog 15 #[.string s,.pointer (some ⟨pb,0,none⟩)] W fun e w'=>e = .returned (.agg #[.string s,.int .i64 r.bad,.int .i64 r.took,.int .i64 r.all])∧∃ os',w'=grow W os':=by
 have hTa:=hT.alloc (.cells #[.string ByteArray.empty,.int .i64 0,.int .i64 0,.int .i64 0] 41);have hpl:=cell?_lt hp;obtain⟨hTH,hTaH,hsH,hrH⟩:=hq2 hT (hq2 hTa (hq2 hs (Lib.hid hr)));clear hT hTa hs hr;go_enter Tryz.func15,Tryz.ntmps15;go_wp2_with (at_lookup;go_loud (refine wpList_tlook rfl (.tmp 5) (.tmp 6) 34 rfl Tryz.underlying34 rec0 (zeroN _) injN rfl hTaH.out s rfl hsH.out ?_);rw[hrH.out];simp only[valN]);exact bodyPost_ret (v:=.agg #[.string s,.int .i64 r.bad,.int .i64 r.took,.int .i64 r.all]) (by simp[results,Tryz.results15,go_sem]) rfl ⟨rfl,_,by rw[alloc_eq_grow,alloc_eq_grow,grow_grow]⟩
def CmR (W:World) (mb c:Nat) (f:ByteArray→Option Rec) (V:World):Prop:=TMap KB valN V mb f c∧∃ q os',V=grow (W.drewN q) os'
theorem grow_step {W V V':World} (h:∃ q os',V=grow (W.drewN q) os') (hs:∃ q os',V'=grow (V.drewN q) os'):∃ q os',V'=grow (W.drewN q) os':=by
 obtain⟨q,os,rfl⟩:=h;obtain⟨q2,os2,rfl⟩:=hs;refine⟨q+q2,os++os2,?_⟩;rw[show (grow (W.drewN q) os).drewN q2=grow ((W.drewN q).drewN q2) os from rfl,grow_grow,World.drewN_drewN]
theorem grow_heap {V V':World} (hs:∃ q os',V'=grow (V.drewN q) os') {k:Nat} (hk:k<V.heap.size):V'.heap[k]? = V.heap[k]?:=by
 obtain⟨q2,os2,rfl⟩:=hs;exact heap_grow_old (V.drewN q2) os2 hk
theorem grow_cell {V V':World} (hs:∃ q os',V'=grow (V.drewN q) os') {a:Addr} {v:Value} (h:V.cell? a=some v):V'.cell? a=some v :=
 (World.cell?_of_block (grow_heap hs (cell?_lt h))).trans h
theorem CmR.step {W V V':World} {mb c:Nat} {f:ByteArray→Option Rec} (h:CmR W mb c f V) (hs:∃ q os',V'=grow (V.drewN q) os'):CmR W mb c f V' :=
 ⟨tmap_heap h.1 (grow_heap hs h.1.lt),grow_step h.2 hs⟩
theorem grow_zero {V V':World} (h:∃ os',V'=grow V os'):∃ q os',V'=grow (V.drewN q) os':=by
 obtain⟨os,h⟩:=h;exact⟨0,os,h⟩
theorem keep2n {W V V':World} {mb c:Nat} {f:ByteArray→Option Rec} {a b:Addr} {x y:Value} (hs:∃ q os',V'=grow (V.drewN q) os') (h:V.cell? a=some x∧V.cell? b=some y∧CmR W mb c f V):V'.cell? a=some x∧V'.cell? b=some y∧CmR W mb c f V' :=
 ⟨grow_cell hs h.1,grow_cell hs h.2.1,h.2.2.step hs⟩
theorem cmpClo_grow (a b:ByteArray) (ob pb mb c:Nat) (f:ByteArray→Option Rec) (g:ByteArray→Rec) (W:World) (ho:W.cell? ⟨ob,0,none⟩=some (.func (.func 15) #[] #[.pointer (some ⟨pb,0,none⟩)])) (hp:W.cell? ⟨pb,0,none⟩=some (.map (some mb))) (hT:TMap KB valN W mb f c)
  (ha:a.size≤maxLen) (hb:b.size≤maxLen) (hg:∀ s,(f s).getD rec0=g s) (hok:∀ s,RecOk 3000 (g s)) :
  Calls Tryz.prog 17 #[.string a,.string b,.pointer (some ⟨ob,0,none⟩)] W fun e w'=>e = .returned (.int .i64 (cmpN g a b))∧∃ q os',w'=grow (W.drewN q) os':=by
 obtain⟨ra,hra⟩:∃ r,g a=r:=⟨_,rfl⟩;obtain⟨rb,hrb⟩:∃ r,g b=r:=⟨_,rfl⟩;have ho1:=hok a;have ho2:=hok b;have hga:=hg a;have hgb:=hg b;obtain⟨v,hv⟩:∃ v,cmpN g a b=v:=⟨_,rfl⟩;rw[hv];unfold cmpN at hv;rw[hra]at ho1 hga hv;rw[hrb]at ho2 hgb hv;have hS0:W.drew.cell? ⟨ob,0,none⟩=some (.func (.func 15) #[] #[.pointer (some ⟨pb,0,none⟩)])∧W.drew.cell? ⟨pb,0,none⟩=some (.map (some mb))∧CmR W mb c f W.drew:=⟨ho,hp,tmap_heap hT rfl,1,#[],by simp[grow];rfl⟩;obtain⟨hTH,haH,hbH,hgH,hokH,hraH,hrbH,ho1H,ho2H,hgaH,hgbH,hvH,hS0H⟩:=hqb hT ha hb hg (hqc hok hra hrb ho1 ho2 hga hgb hv (Lib.hid hS0));clear hT ha hb hg hok hra hrb ho1 ho2 hga hgb hv hS0;go_enter Tryz.func17,Tryz.ntmps17;go_wp2_with fail;refine wp_region_held_drew (S:=fun V:World=>V.cell? ⟨ob,0,none⟩=some (.func (.func 15) #[] #[.pointer (some ⟨pb,0,none⟩)])∧V.cell? ⟨pb,0,none⟩=some (.map (some mb))∧CmR W mb c f V) (by kernel_rfl) hS0H.out (fun hHeld=>?_);refine tkS [(0,6),(1,7)] ?_;(iterate 2 (refine tkL ?_ ?_ ?_;rotate_left;(· intro w hSw;(try dsimp only at hSw);go_simp;(try with_reducible rfl));(try simp only[Act.put,tkA,tkB,tkC])));refine tkE ?_;refine tkS [(3,9),(4,10)] ?_;(iterate 2 (refine tkL ?_ ?_ ?_;rotate_left;(· intro w hSw;(try dsimp only at hSw);go_simp;(try with_reducible rfl));(try simp only[Act.put,tkA,tkB,tkC])));refine tkE ?_;refine wpAnyH_ready (rs:=[2]) (by kernel_rfl) (by simp) ?_;refine AllReadyH.cons (i:=2) rfl (fun K hK=>?_) AllReadyH.nil
 go_simp;go_at_call 15;refine(of_any a pb mb c f _ hHeld.2.1 hHeld.2.2.1 haH.out ra hgaH.out).mono ?_;rintro e w1 ⟨rfl,hw1⟩;have hHeld:=keep2n (grow_zero hw1) hHeld;clear hw1;refine hK.out _ _ hHeld (fun hHeld=>?_);clear hK K
 (try simp only[Act.put,tkA,tkB,tkC])
 refine wpAnyH_ready (rs:=[5]) (by kernel_rfl) (by simp) ?_;refine AllReadyH.cons (i:=5) rfl (fun K hK=>?_) AllReadyH.nil;go_simp;go_at_call 15;refine(of_any b pb mb c f _ hHeld.2.1 hHeld.2.2.1 hbH.out rb hgbH.out).mono ?_;rintro e w2 ⟨rfl,hw2⟩;have hHeld:=keep2n (grow_zero hw2) hHeld;clear hw2;refine hK.out _ _ hHeld (fun hHeld=>?_);clear hK K
 (try simp only[Act.put,tkA,tkB,tkC])
 refine wpAnyH_ready (rs:=[6]) (by kernel_rfl) (by simp) ?_;refine AllReadyH.cons (i:=6) rfl (fun K hK=>?_) AllReadyH.nil;go_simp;go_at_call 18;refine(rankCmp_grow ⟨a,ra.bad,ra.took,ra.all⟩ ⟨b,rb.bad,rb.took,rb.all⟩ _ ho1H.out ho2H.out v hvH.out).mono ?_;rintro e w3 ⟨rfl,hw3⟩;have hHeld:=keep2n hw3 hHeld;clear hw3;refine hK.out _ _ hHeld (fun hHeld=>?_);clear hK K
 (try simp only[Act.put,tkA,tkB,tkC])
 refine tkS [(7,5)] ?_;(iterate 1 (refine tkL ?_ ?_ ?_;rotate_left;(· intro w hSw;(try dsimp only at hSw);go_simp;(try with_reducible rfl));(try simp only[Act.put,tkA,tkB,tkC])));refine tkE ?_;refine wpAnyH_done (by kernel_rfl) ?_ _;have R:=hHeld.2.2.2;clear hHeld;have RH:=Lib.hid R;clear R;go_wp2;go_ret;exact⟨rfl,RH.out⟩
abbrev Nam:={s:ByteArray // s.size≤maxLen}
instance:Inhabited Nam:=⟨⟨ByteArray.empty,Nat.zero_le _⟩⟩
def encN (x:Nam):Value:=.string x.1
def cfN (g:ByteArray→Rec) (x y:Nam):Int:=cmpN g x.1 y.1
theorem ltN (g:ByteArray→Rec) (x y:Nam):ltOf (cfN g) x y=decide (cmpN g x.1 y.1<0):=rfl
theorem cmpN_self {g:ByteArray→Rec} (hg:∀ s,RecP (g s)) (a:ByteArray):cmpN g a a=0:=by
 have:=cmpN_swap hg a a;omega
theorem cmpN_trans {g:ByteArray→Rec} (hg:∀ s,RecP (g s)) {a b c:ByteArray} (h1:cmpN g a b<0) (h2:cmpN g b c<0):cmpN g a c<0:=by
 have a1:cmpN g a b = -1:=by have:=cmpN_range hg a b;omega
 have a2:cmpN g b c = -1:=by have:=cmpN_range hg b c;omega
 have:=(cmpN_lt hg a c).2 (rkLt_trans hg a b c ((cmpN_lt hg a b).1 a1) ((cmpN_lt hg b c).1 a2));omega
theorem cmpN_le_trans {g:ByteArray→Rec} (hg:∀ s,RecP (g s)) {a b c:ByteArray} (h1:cmpN g a b≤0) (h2:cmpN g b c≤0):cmpN g a c≤0:=by
 by_cases e1:cmpN g a b=0
 ·rw[cmpN_zero hg e1];exact h2
 ·by_cases e2:cmpN g b c=0
  ·rw[← cmpN_zero hg e2];exact h1
  ·have:=cmpN_trans hg (a:=a) (b:=b) (c:=c) (by omega) (by omega);omega
theorem swoN {g:ByteArray→Rec} (hg:∀ s,RecP (g s)):SWO (ltOf (cfN g)) where
 irrefl x:=by rw[ltN,cmpN_self hg];decide
 trans x y z h1 h2:=by
  rw[ltN]at *;simp only[decide_eq_true_eq]at *;exact cmpN_trans hg h1 h2
 ntrans x y z h1 h2:=by
  rw[ltN]at *;simp only[decide_eq_false_iff_not]at *;have a:=cmpN_swap hg x.1 y.1;have b:=cmpN_swap hg y.1 z.1;have c:=cmpN_swap hg x.1 z.1;have:=cmpN_le_trans hg (a:=z.1) (b:=y.1) (c:=x.1) (by omega) (by omega);omega
theorem nams (L:List ByteArray) (hL:∀ s∈L,s.size≤maxLen):∃ l:List Nam,l.map (·.1)=L:=by
 induction L with
 | nil=>exact⟨[],rfl⟩
 | cons a L ih =>
  obtain⟨l,hl⟩:=ih fun s hs=>hL s (List.mem_cons_of_mem _ hs);exact⟨⟨a,hL a List.mem_cons_self⟩::l,by rw[List.map_cons,hl]⟩
theorem own_openN {α:Type} {R:Rd α} {e:TypeId} {w:World} {base g n cap:Nat} {l:List α} (h:Own R e w base (.slice (some ⟨g,0,none⟩) n cap) l):∃ cur,base≤g∧w.heap[g]? = some (.cells cur e (0,0)):=by
 rcases h.1.2 with ⟨hv,_⟩ | ⟨g',cap',cur,hv,a,b,c,d,e1,f⟩
 ·cases hv
 ·injection hv with h1 h2 h3;injection h1 with h1;injection h1 with h1;subst h1 h3;exact⟨cur,a,b⟩
theorem heap_sortN {α:Type} [Inhabited α] {enc:α→Value} {w:World} {g:Nat} (d:Array α) (m:Nat) (os:Array Obj) (k:Nat) (hk:k<w.heap.size) (hne:k≠g):(sortWorld enc w g 0 m d os).heap[k]? = w.heap[k]?:=by
 unfold sortWorld putRow mapBlock grow Sort.ahead;simp only;rw[Array.getElem?_append_left (by simpa using hk),Array.getElem?_modify,if_neg (Ne.symm hne)]
theorem grown_sortN {α:Type} [Inhabited α] {enc:α→Value} {w:World} {g:Nat} (d:Array α) (m:Nat) (os:Array Obj):w.grownBy (sortWorld enc w g 0 m d os) (some g) :=
 ⟨rfl,rfl,rfl,by unfold sortWorld putRow mapBlock grow Sort.ahead;simp,fun k hk hne=>heap_sortN d m os k hk (fun e=>hne (by rw[e]))⟩
def SrtNAns (g:ByteArray→Rec) (A:Option Addr) (n cap:Nat) (L:List ByteArray) (w:World) (e:Ending) (w':World):Prop :=
 e = .returned (.tuple #[])∧∃ P:List ByteArray,P.Perm L∧(P.Pairwise fun a b=>cmpN g a b≤0)∧SlAt RStr w' A n P∧w.grownBy w' (Value.slice A n cap).ownBlock
theorem sortN_any (A:Option Addr) (n cap:Nat) (L:List ByteArray) (w:World) (base:Nat) (hO:Own RStr 9 w base (.slice A n cap) L) (hn:n≤1000000) (hL:∀ s∈L,s.size≤maxLen)
  (ob pb mb c:Nat) (f:ByteArray→Option Rec) (g:ByteArray→Rec) (ho:w.cell? ⟨ob,0,none⟩=some (.func (.func 15) #[] #[.pointer (some ⟨pb,0,none⟩)])) (hp:w.cell? ⟨pb,0,none⟩=some (.map (some mb))) (hT:TMap KB valN w mb f c)
  (hne:∀ k,(Value.slice A n cap).ownBlock=some k→ob≠k∧pb≠k∧mb≠k) (hg:∀ s,(f s).getD rec0=g s) (hok:∀ s,RecOk 3000 (g s)) :
  Calls Tryz.prog 16 #[.slice A n cap,.func (.func 17) #[] #[.pointer (some ⟨ob,0,none⟩)]] w (SrtNAns g A n cap L w):=by
 have hgp:∀ s,RecP (g s):=fun s=>(hok s).p;have hl:=hO.len
 rcases hO.1.2 with ⟨hv,h0⟩ | ⟨r,cap',cur,hv,_⟩
 ·injection hv with e1 e2 e3;subst e1 e2 e3;have hP0:L = []:=by cases L with
   | nil=>rfl
   | cons a b=>simp at h0
  subst hP0;refine(Tryz.slices_SortFunc_none (α:=Nam) none 0 _ w).mono ?_;rintro e w' ⟨rfl,rfl⟩;exact⟨rfl,[],List.Perm.refl _,List.Pairwise.nil,hO.slAt,World.grownBy.refl _ _⟩
 ·injection hv with e1 e2 e3;subst e1 e3;clear e2;obtain⟨l,hl2⟩:=nams L hL;have hll:l.length=n:=by rw[← hl,← hl2,List.length_map]
  obtain⟨h1,h2,h3⟩:=hne r rfl;obtain⟨cur2,hbg,hcur⟩:=own_openN hO;have hsl:=hO.slAt;have hH:Holds encN w r 0 l.toArray:=by
   intro j hj;have hj':j<l.length:=by simpa using hj
   refine⟨?_,by simp[World.frozen?,hcur]⟩;have hx:L[j]? = some (l[j]).1:=by rw[← hl2,List.getElem?_map,List.getElem?_eq_getElem hj'];rfl
   have:=cell_Str hsl hx;rw[Nat.zero_add]at this ⊢;rw[this,getElem!_pos l.toArray j hj];rfl
  have eg:∀ args w,(callFunc 17 args).run Tryz.prog w = .ok (.enter 17 args) w:=enters_of Tryz.func17 (by kernel_rfl) rfl;have hr:=(hO.1.lt r rfl).2;have hsz:l.toArray.size=n:=by simpa using hll
  have hcon:=Tryz.slices_SortFunc_total encN (fun _=>rfl) (cfN g) (swoN hgp) 17 #[.pointer (some ⟨ob,0,none⟩)] r 0 cap l.toArray w eg
   (fun m os dk _ x y=>cmpClo_grow x.1 y.1 ob pb mb c f g _ ((World.cell?_of_block (a:=⟨ob,0,none⟩) (heap_sortN dk m os ob (cell?_lt ho) h1)).trans ho) ((World.cell?_of_block (a:=⟨pb,0,none⟩) (heap_sortN dk m os pb (cell?_lt hp) h2)).trans hp) (tmap_heap hT (heap_sortN dk m os mb hT.lt h3)) x.2 y.2 hg hok)
   hH hr (by rw[hsz];omega) (fun x y a b=>by
    rw[ltN]at a b;simp only[decide_eq_false_iff_not]at a b;have:=cmpN_swap hgp x.1 y.1;exact Subtype.ext (cmpN_zero hgp (by omega)))
  rw[hsz]at hcon;refine hcon.mono ?_;rintro e w' ⟨rfl,m,os,rfl⟩;obtain⟨P,hP⟩:∃ P,l.mergeSort (fun x y=>!(ltOf (cfN g)) y x)=P:=⟨_,rfl⟩;have hperm:P.Perm l:=by rw[← hP];exact List.mergeSort_perm _ _
  have hPl:P.length=n:=by rw[hperm.length_eq,hll]
  have hsort:P.Pairwise fun x y=>cmpN g x.1 y.1≤0:=by
   have:=List.pairwise_mergeSort (le:=fun x y=>!(ltOf (cfN g)) y x) (fun a b c x y=>by
    rw[ltN]at *;simp only[Bool.not_eq_true',decide_eq_false_iff_not]at *;have p:=cmpN_swap hgp a.1 b.1;have q:=cmpN_swap hgp b.1 c.1;have r:=cmpN_swap hgp a.1 c.1;have:=cmpN_le_trans hgp (a:=a.1) (b:=b.1) (c:=c.1) (by omega) (by omega);omega) (fun a b=>by
    rw[ltN,ltN];have p:=cmpN_swap hgp a.1 b.1;simp only[Bool.or_eq_true,Bool.not_eq_true',decide_eq_false_iff_not];omega) l
   rw[hP]at this;refine this.imp fun {a b} h=>?_;rw[ltN]at h;simp only[Bool.not_eq_true',decide_eq_false_iff_not]at h;have p:=cmpN_swap hgp a.1 b.1;omega
  simp only[hP];refine⟨rfl,P.map (·.1),?_,?_,?_,grown_sortN _ _ _⟩
  ·rw[← hl2];exact hperm.map _
  ·rw[List.pairwise_map];exact hsort
  ·refine⟨by rw[List.length_map,hPl],fun _=>⟨r,0,rfl,fun i v hv j u hu=>?_⟩,fun v hv=>?_⟩
   ·have hi:i<P.length:=by
     have:=(List.getElem?_eq_some_iff.1 hv).1
     simpa using this
    match j,hu with
    | 0,hu =>
     simp only[RStr,List.getElem?_cons_zero,Option.some.injEq]at hu;rw[List.getElem?_map,List.getElem?_eq_getElem hi,Option.map_some,Option.some.injEq]at hv;have hc:=cell?_putRow encN (Sort.ahead w m) r 0 l.toArray P.toArray (holds_ahead _ _ _ _ _ _ hH) (by simp[hPl,hll]) i (by simp[hi]);unfold sortWorld;have hr2:r<(putRow encN (Sort.ahead w m) r 0 P.toArray).heap.size:=by simpa using hr
     have e1:0+i*RStr.size+0=0+i:=by simp[RStr]
     rw[e1,cell?_grow _ _ _ hr2,hc,← hu,← hv,getElem!_pos P.toArray i (by simpa using hi)];rfl
    | n+1,hu=>simp[RStr]at hu
   ·obtain⟨x,hx,rfl⟩:=List.mem_map.1 hv;exact x.2
end Go.Proofs.YtcdpdaloceengaaGreatDoor.C10
namespace Go.Proofs.YtcdpdaloceengaaGreatDoor.C10
open Go.ChangeShapes Go.WideShapes Go.Deep Go.RowKit Go.Maps
def Blk (w:World) (b:Nat) (vs:List Value):Prop:=∀ j v,vs[j]? = some v→w.cell? ⟨b,j,none⟩=some v∧w.frozen? ⟨b,j,none⟩=false
theorem Blk.keep {w w':World} {b:Nat} {vs:List Value} (h:Blk w b vs) (hb:w'.heap[b]? = w.heap[b]?):Blk w' b vs:=fun j v hj =>
 ⟨(World.cell?_of_block (a:=⟨b,j,none⟩) hb).trans (h j v hj).1,(World.frozen?_of_block (a:=⟨b,j,none⟩) hb).trans (h j v hj).2⟩
theorem Blk.lt {w:World} {b:Nat} {vs:List Value} (h:Blk w b vs) (hv:vs≠[]):b<w.heap.size:=by
 cases vs with
 | nil=>exact absurd rfl hv
 | cons v vs=>exact cell?_lt (h 0 v rfl).1
theorem Blk.set {w:World} {b k:Nat} {vs:List Value} (h:Blk w b vs) (hk:k<vs.length) (u:Value):Blk (w.setCell ⟨b,k,none⟩ u) b (vs.set k u):=by
 intro j v hj;rw[List.getElem?_set]at hj
 by_cases e:k=j
 ·subst e;rw[if_pos rfl,if_pos hk]at hj;injection hj with hj;subst hj;obtain⟨c,f⟩:=h k vs[k] (List.getElem?_eq_getElem hk);exact⟨World.cell?_setCell_same' _ _ _ (by rw[c];rfl),by rw[World.frozen?_setCell];exact f⟩
 ·rw[if_neg e]at hj;obtain⟨c,f⟩:=h j v hj;exact⟨by rw[World.cell?_setCell_other _ _ _ _ (by simp <;> omega)];exact c,by rw[World.frozen?_setCell];exact f⟩
theorem own_kp {α:Type} {R:Rd α} {e:TypeId} {w w':World} {base:Nat} {v:Value} {l:List α} {row:Option Nat} (h:Own R e w base v l) (hg:w.grownBy w' row) (hne:∀ b,v.ownBlock=some b→row≠some b) (hok:∀ x∈l,R.ok w x→R.ok w' x):Own R e w' base v l :=
 h.kept hg (by
  cases hv:v.ownBlock with
  | none=>exact .inl rfl
  | some b=>exact .inr fun e=>hne b hv e.symm) hok
theorem below_g {w w':World} (h:Below w.heap.size w w'):w.grownBy w' none:=⟨h.os,h.tape,h.output,h.size,fun k hk _=>h.block k hk⟩
theorem keepC {W w':World} {a:Addr} {v:Value} (hb:Below W.heap.size W w') (h:W.cell? a=some v):w'.cell? a=some v:=(hb.cell (cell?_lt h)).trans h
theorem blk_new (w:World) (vs:List Value) (T:TypeId):Blk (w.alloc (.cells vs.toArray T)) w.heap.size vs:=fun j v hj=>by
 have:(w.alloc (.cells vs.toArray T)).cell? ⟨w.heap.size,j,none⟩=vs.toArray[j]?:=by simp[go_sem]
 rw[this];exact⟨by simpa using hj,by simp[go_sem]⟩
theorem blk_below {w w':World} {b:Nat} {vs:List Value} (h:Blk w b vs) (hv:vs≠[]) (hb:Below w.heap.size w w'):Blk w' b vs:=h.keep (hb.block b (h.lt hv))
theorem grown_trans {a b c:World} {row:Option Nat} (h:a.grownBy b row) (h2:b.grownBy c row):a.grownBy c row :=
 ⟨h2.os.trans h.os,h2.tape.trans h.tape,h2.output.trans h.output,Nat.le_trans h.size h2.size,fun k hk hne=>(h2.block k (Nat.lt_of_lt_of_le hk h.size) hne).trans (h.block k hk hne)⟩
theorem brow_bel {w w':World} {b n:Nat} {f:Nat→Bool} (h:BRow w b n f) (hb:Below w.heap.size w w'):BRow w' b n f:=h.keep (fun hlt=>hb.block b hlt)
end Go.Proofs.YtcdpdaloceengaaGreatDoor.C10