/-
 Several texts of mine as one, without what is not wanted here: XLaD, XLoK, XOpnD, XFmA.
-/
import Derived.Test.YtbnkoefljcekbaaGreatDoorLbLC9
import Derived.Test.YtbnkoefljcekbaaGreatDoorLbGb
import Derived.Test.YtbnkoefljcekbaaGreatDoorLbAC9
import Derived.WideKeyArgs
import Derived.DeepKeys4
import Derived.Test.YtbnkoefljcekbaaGreatDoorLbJC9
import Derived.Test.YtbnkoefljcekbaaGreatDoorLbGi
import Derived.Test.YtbnkoefljcekbaaGreatDoorLbHC9
import Derived.Test.YtbnkoefljcekbaaGreatDoorLbFC9
set_option linter.unusedVariables false
set_option linter.unusedSimpArgs false
set_option maxRecDepth 100000
set_option maxHeartbeats 8000000
namespace Go.Proofs.YtbnkoefljcekbaaGreatDoor.C9
open Go.ChangeShapes Go.WideShapes Go.Deep Go.RowKit Go.Maps
def AdRel (l:List Outcome) (b:Bool) (w0:World) (i:Value) (wr:World):Prop:=∃ k:Nat,k≤l.length∧i = .int .i64 k∧((l.drop k).all fun o=>decide (o.state=1))=b∧Below w0.heap.size w0 wr
def LtRel (l:List Run) (w0:World) (v i:Value) (wr:World):Prop:=∃ k:Nat,k≤l.length∧i = .int .i64 k∧v = .int .i64 (lastF (l.take k))∧Below w0.heap.size w0 wr
theorem allDone_any (A:Option Addr) (n c:Nat) (l:List Outcome) (w:World) (hl:SlAt ROutcome w A n l) (hn:n≤9223372036854775807) (b:Bool) (hb:(l.all fun o=>decide (o.state=1))=b) :
  Calls Tryz.prog 24 #[.slice A n c] w fun e w'=>e = .returned (.bool b)∧Below w.heap.size w w':=by
 have hll:=hl.1;obtain⟨hlH,hbH,hllH⟩:=hq2 hl (hq2 hb (Lib.hid hll));clear hl hb hll;go_enter Tryz.func24,Tryz.ntmps24;go_wp2_with fail
 go_loopw [7] (fun i wr=>AdRel l b w i wr) (fun i _=>n-(intOf i).toNat)
 case atStart=>exact⟨0,Nat.zero_le _,rfl,by rw[List.drop_zero];exact hbH.out,Below.refl _ _⟩
 case round =>
  obtain⟨k,hk,rfl,hr,hbw⟩:=hrel;have hkl:k≤n:=by have:=hllH.out;omega
  by_cases hlt:k<n
  ·obtain⟨b0,off,hA,_⟩:=hlH.out.2.1 (by omega);subst hA;obtain⟨o,ho⟩:∃ o,l[k]? = some o:=⟨l[k]'(by have:=hllH.out;omega),List.getElem?_eq_getElem _⟩;obtain⟨c0,c1,c2,c3⟩:=cells_Outcome (hlH.out.below hbw) ho;rw[drop_cons ho,List.all_cons]at hr;have hkl2:k+1≤l.length:=by have:=hllH.out;omega
   obtain⟨oi,os,oa,ot⟩:=o;simp only at c0 c1 c2 c3 hr;have p1:(wr.alloc (.cells #[.string oi,.int .i64 os,.int .i64 oa,.int .i64 ot] 42)).cell? ⟨wr.heap.size,1,none⟩=some (.int .i64 os):=cell_new _ _ _ 1;have hb2:Below w.heap.size w (wr.alloc (.cells #[.string oi,.int .i64 os,.int .i64 oa,.int .i64 ot] 42)):=hbw.alloc hbw.size _
   by_cases h1:os=1
   ·have hne:(os != 1)=false:=by simpa using h1
    rw[decide_eq_true h1,Bool.true_and]at hr;have R:AdRel l b w (.int .i64 ((k:Int)+1)) (wr.alloc (.cells #[.string oi,.int .i64 os,.int .i64 oa,.int .i64 ot] 42)):=⟨k+1,hkl2,by go_num,hr,hb2⟩;clear hr h1;obtain⟨RH,hoH,hbwH,hb2H⟩:=hq2 R (hq2 ho (hq2 hbw (Lib.hid hb2)));clear R ho hbw hb2;go_wp2;refine⟨?rel,?measure⟩
    case measure=>(simp[intOf];omega)
    case rel=>first | exact RH.out | exact⟨rfl,RH.out⟩
   ·have hne:(os != 1)=true:=by simpa using h1
    rw[decide_eq_false h1,Bool.false_and]at hr;subst hr;clear h1;obtain⟨hoH,hbwH,hb2H⟩:=hq2 ho (hq2 hbw (Lib.hid hb2));clear ho hbw hb2;go_wp2;go_ret;exact⟨rfl,hb2H.out⟩
  ·have e:l.drop k = []:=List.drop_eq_nil_of_le (by have:=hllH.out;omega);rw[e]at hr;subst hr;obtain⟨hbwH,eH⟩:=hq2 hbw (Lib.hid e);clear hbw e;go_wp2;go_ret;exact⟨rfl,hbwH.out⟩
theorem last_any (A:Option Addr) (n c:Nat) (l:List Run) (w:World) (hl:SlAt RRun w A n l) (hn:n≤9223372036854775807) :
  Calls Tryz.prog 25 #[.slice A n c] w fun e w'=>e = .returned (.int .i64 (lastF l))∧Below w.heap.size w w':=by
 have hll:=hl.1;obtain⟨hlH,hllH⟩:=hq2 hl (Lib.hid hll);clear hl hll;go_enter Tryz.func25,Tryz.ntmps25;go_wp2_with fail
 go_loopw [3,8] (fun v i wr=>LtRel l w v i wr) (fun _ i _=>n-(intOf i).toNat)
 case atStart=>exact⟨0,Nat.zero_le _,rfl,rfl,Below.refl _ _⟩
 case round =>
  obtain⟨k,hk,rfl,rfl,hbw⟩:=hrel;have hkl:k≤n:=by have:=hllH.out;omega
  by_cases hlt:k<n
  ·obtain⟨b0,off,hA,_⟩:=hlH.out.2.1 (by omega);subst hA;obtain⟨r,hr⟩:∃ r,l[k]? = some r:=⟨l[k]'(by have:=hllH.out;omega),List.getElem?_eq_getElem _⟩;obtain⟨c0,c1,c2,c3,c4⟩:=cells_Run (hlH.out.below hbw) hr;have ht:=last_take hr;have hkl2:k+1≤l.length:=by have:=hllH.out;omega
   obtain⟨m,hm⟩:∃ m,lastF (l.take k)=m:=⟨_,rfl⟩;rw[hm]at ht ⊢;obtain⟨ri,rwk,rf,rt,re⟩:=r;simp only at c0 c1 c2 c3 c4 ht;have p3:(wr.alloc (.cells #[.string ri,.string rwk,.int .i64 rf,.int .i64 rt,.int .i64 re] 34)).cell? ⟨wr.heap.size,3,none⟩=some (.int .i64 rt):=cell_new _ _ _ 3;have p4:(wr.alloc (.cells #[.string ri,.string rwk,.int .i64 rf,.int .i64 rt,.int .i64 re] 34)).cell? ⟨wr.heap.size,4,none⟩=some (.int .i64 re):=cell_new _ _ _ 4;have hb2:Below w.heap.size w (wr.alloc (.cells #[.string ri,.string rwk,.int .i64 rf,.int .i64 rt,.int .i64 re] 34)):=hbw.alloc hbw.size _
   by_cases h1:re=1
   ·have heq:(re==1)=true:=by simpa using h1
    rw[if_pos h1]at ht;have R:LtRel l w (.int .i64 (max m rt)) (.int .i64 ((k:Int)+1)) (wr.alloc (.cells #[.string ri,.string rwk,.int .i64 rf,.int .i64 rt,.int .i64 re] 34)):=⟨k+1,hkl2,by go_num,by rw[ht],hb2⟩;clear ht h1;obtain⟨RH,hrH,hbwH,hb2H,hmH⟩:=hqb R hr hbw hb2 (Lib.hid hm);clear R hr hbw hb2 hm;go_wp2;refine⟨?rel,?measure⟩
    case measure=>(simp[intOf];omega)
    case rel=>first | exact RH.out | exact⟨rfl,RH.out⟩
   ·have hne:(re==1)=false:=by simpa using h1
    rw[if_neg h1]at ht;have R:LtRel l w (.int .i64 m) (.int .i64 ((k:Int)+1)) (wr.alloc (.cells #[.string ri,.string rwk,.int .i64 rf,.int .i64 rt,.int .i64 re] 34)):=⟨k+1,hkl2,by go_num,by rw[ht],hb2⟩;clear ht h1;obtain⟨RH,hrH,hbwH,hb2H,hmH⟩:=hqb R hr hbw hb2 (Lib.hid hm);clear R hr hbw hb2 hm;go_wp2;refine⟨?rel,?measure⟩
    case measure=>(simp[intOf];omega)
    case rel=>first | exact RH.out | exact⟨rfl,RH.out⟩
  ·have e:l.take k=l:=List.take_of_length_le (by have:=hllH.out;omega);rw[e];obtain⟨hbwH,eH⟩:=hq2 hbw (Lib.hid e);clear hbw e;go_wp2;go_ret;exact⟨rfl,hbwH.out⟩
theorem loRow:(71:TypeId) < Tryz.prog.types.size:=of_decide_eq_true (by kernel_rfl)
theorem loCells:Tryz.prog.cellsOf 71 = 2:=by kernel_rfl
theorem loStr:Tryz.prog.cellsOf 9 = 1:=by kernel_rfl
theorem loInt:Tryz.prog.cellsOf 3 = 1:=by kernel_rfl
theorem loWide:(match Tryz.prog.underlying 71 with | some (.array _ _) | some (.struct _)=>true | _=>false)=true:=by rw[Tryz.underlying71]
theorem loLaid:laidOutB Tryz.prog=true:=by kernel_rfl
theorem loAt:Tryz.prog.keyTypeAt 2 71 = true:=by kernel_rfl
theorem loPos:0 < Tryz.prog.types.size:=Nat.lt_of_le_of_lt (Nat.zero_le _) loRow
theorem loLaw:WideMaps.KeyLaw Tryz.prog 71:=deep_law_laid loLaid (m:=2) (Nat.le_of_ble_eq_true rfl) loRow loAt loWide
theorem loKeyed:Keyed Tryz.prog 71:=Keyed.of_law loLaw
theorem loKeyType:Tryz.prog.keyType 71 = true:=by kernel_rfl
def loB (x:Loss):Lit:=.string (keyBytes [.string x.worker.data.toList,.int .i64 x.at_])
def loG (x:Loss):Prop:=x.worker.size≤maxLen∧(Lit.int .i64 x.at_).wf=true
def loV (x:Loss):Value:=.agg #[.string x.worker,.int .i64 x.at_]
theorem lo_of (x:Loss) (h:loG x):keyOf Tryz.prog 71 (loV x)=some (loB x):=by
 obtain⟨a,b⟩:=x;obtain⟨ha,hb⟩:=h;simp only at ha hb;unfold loV loB;simp only;have hf:(Value.agg #[.string a,.int .i64 b]).formed Tryz.prog 71 = true:=by simp[Value.formed,Tryz.underlying71,loCells]
 have hr:=loPos;unfold keyOf;rw[Tryz.underlying71];simp only[loKeyType,hf,Bool.and_self,if_true];obtain⟨n,hn⟩:∃ n,Tryz.prog.types.size=n+1:=⟨Tryz.prog.types.size-1,by omega⟩;rw[hn];simp[Program.keyLits,Tryz.underlying71,Tryz.underlying9,Tryz.underlying3,loCells,loStr,loInt,Value.cells,ha,hb]
theorem lo_inv (v:Value) (l:Lit) (h:keyOf Tryz.prog 71 v=some l):∃ x:Loss,loG x∧v=loV x∧l=loB x:=by
 have hr:=loPos;have h0:=h;unfold keyOf at h;rw[Tryz.underlying71]at h;simp only[loKeyType,Bool.true_and]at h
 by_cases hf:v.formed Tryz.prog 71 = true
 ·rw[if_pos hf]at h
  cases v with
  | agg cs =>
   obtain⟨n,hn⟩:∃ n,Tryz.prog.types.size=n+1:=⟨Tryz.prog.types.size-1,by omega⟩;have hs:cs.size=2:=by simpa[Value.formed,Tryz.underlying71,loCells]using hf
   obtain⟨c0,c1,rfl⟩:∃ c0 c1,cs = #[c0,c1]:=by
    match cs,hs with
    | ⟨[c0,c1]⟩,_=>exact⟨c0,c1,rfl⟩
   rw[hn]at h;have hstr:∀ (N:Nat) (c:Value) ls,Tryz.prog.keyLits N 9 [c]=some ls→∃ a:ByteArray,c = .string a∧a.size≤maxLen:=by
    intro N c ls hls
    cases N with
    | zero=>cases hls
    | succ N =>
     unfold Program.keyLits at hls;rw[Tryz.underlying9]at hls
     cases c with
     | string a =>
      simp only at hls
      split at hls
      ·exact⟨a,rfl,by assumption⟩
      ·cases hls
     | _=>cases hls
   have hint:∀ (N:Nat) (c:Value) ls,Tryz.prog.keyLits N 3 [c]=some ls→∃ b:Int,c = .int .i64 b∧(Lit.int .i64 b).wf=true:=by
    intro N c ls hls
    cases N with
    | zero=>cases hls
    | succ N =>
     unfold Program.keyLits at hls;rw[Tryz.underlying3]at hls
     cases c with
     | int q b =>
      simp only at hls
      split at hls
      ·rename_i hq
       obtain⟨rfl,hw⟩:=hq;exact⟨b,rfl,hw⟩
      ·cases hls
     | _=>cases hls
   have hk:∃ N l0 l1,Tryz.prog.keyLits N 9 [c0]=some l0∧Tryz.prog.keyLits N 3 [c1]=some l1:=by
    unfold Program.keyLits at h;simp only[Tryz.underlying71]at h;simp[loStr,loInt,loCells,Value.cells]at h
    cases e0:Tryz.prog.keyLits (n+1) 9 [c0] with
    | none=>rw[e0]at h;simp at h
    | some l0 =>
     cases e1:Tryz.prog.keyLits (n+1) 3 [c1] with
     | none=>rw[e0,e1]at h;simp at h
     | some l1=>exact⟨_,l0,l1,e0,e1⟩
   obtain⟨N,l0,l1,e0,e1⟩:=hk;obtain⟨a,rfl,ha⟩:=hstr N c0 _ e0;obtain⟨b,rfl,hb⟩:=hint N c1 _ e1;refine⟨⟨a,b⟩,⟨ha,hb⟩,rfl,?_⟩;have h1:=lo_of ⟨a,b⟩ ⟨ha,hb⟩;unfold loV at h1;simp only at h1;rw[h1]at h0;injection h0 with h0;exact h0.symm
  | _=>simp[Value.formed,Tryz.underlying71]at hf
 ·rw[if_neg hf]at h
  cases h
noncomputable def KLo:KD Tryz.prog 71 Loss :=
 ⟨loV,loB,loG,loKeyed,lo_of,lo_inv,fun x y hx hy he=>by
   have h1:=lo_of x hx;have h2:=lo_of y hy;rw[← he]at h2;have:=loKeyed.inj h1 h2;obtain⟨a,b⟩:=x;obtain⟨c,d⟩:=y;simp only[loV,Value.agg.injEq,Array.mk.injEq,List.cons.injEq,Value.string.injEq,Value.int.injEq,and_true,true_and]at this;obtain⟨rfl,rfl⟩:=this;rfl⟩
structure PJ (x:Farm) (xb N:Nat) (w0:World) (o:Nat→Option Nat) (t:List Int) (w:World):Prop where
 bel:Below w0.heap.size w0 w
 xlt:xb<w.heap.size
 ge:∀ k b,o k=some b→xb<b∧b<w.heap.size
 inj:∀ i j b,o i=some b→o j=some b→i=j
 k3:∀ b,o 3=some b→Sms w b N t∧Crit (gOf x.works.l) (szOf x.works.l) N (gt t)
 k4:∀ b,o 4=some b→TMap KLo (fun b:Bool=>Value.bool b) w b (fun _=>none) 0
 k6:∀ b,o 6=some b→BRow w b N (fun _=>false)
 k8:∀ b,o 8=some b→IRow w b N (fun _=>0)
 k10:∀ b,o 10=some b→IRow w b N (fun _=>0)
 k12:∀ b,o 12=some b→IRow w b N (fun _=>0)
theorem PJ.keep {x:Farm} {xb N:Nat} {w0:World} {o:Nat→Option Nat} {t:List Int} {w w':World} (h:PJ x xb N w0 o t w) (hb:Below w.heap.size w w'):PJ x xb N w0 o t w':=by
 have hk:∀ k b,o k=some b→w'.heap[b]? = w.heap[b]?:=fun k b hk=>hb.block b (h.ge k b hk).2;exact⟨h.bel.trans (hb.mono h.bel.size),Nat.lt_of_lt_of_le h.xlt hb.size,fun k b e=>⟨(h.ge k b e).1,Nat.lt_of_lt_of_le (h.ge k b e).2 hb.size⟩,h.inj,fun b e=>⟨(h.k3 b e).1.keep (hk _ _ e),(h.k3 b e).2⟩,fun b e=>(h.k4 b e).below hb (h.ge _ _ e).2,
  fun b e=>brow_kp (h.k6 b e) (hk _ _ e),fun b e=>(h.k8 b e).keep (hk _ _ e),fun b e=>(h.k10 b e).keep (hk _ _ e),fun b e=>(h.k12 b e).keep (hk _ _ e)⟩
theorem PJ.more {x:Farm} {xb N:Nat} {w0:World} {o:Nat→Option Nat} {t t':List Int} {w w':World} (h:PJ x xb N w0 o t w) (hb:Below w.heap.size w w') {k b:Nat} (hk:o k=none) (h1:w.heap.size≤b) (h2:b<w'.heap.size)
  (ht:k≠3→t'=t) (h3:k=3→Sms w' b N t'∧Crit (gOf x.works.l) (szOf x.works.l) N (gt t')) (h4:k=4→TMap KLo (fun b:Bool=>Value.bool b) w' b (fun _=>none) 0) (h6:k=6→BRow w' b N (fun _=>false)) (h8:k=8∨k=10∨k=12→IRow w' b N (fun _=>0)) :
  PJ x xb N w0 (upo o k b) t' w':=by
 have h':=h.keep hb;have hx:=h.xlt;have ho:∀ j c,upo o k b j=some c→(j=k∧c=b)∨(j≠k∧o j=some c):=fun j c e=>by
  unfold upo at e
  by_cases hj:j=k
  ·rw[if_pos hj]at e;injection e with e;exact .inl ⟨hj,e.symm⟩
  ·rw[if_neg hj]at e;exact .inr ⟨hj,e⟩
 refine⟨h'.bel,h'.xlt,fun j c e=>?_,fun i j c ei ej=>?_,fun c e=>?_,fun c e=>?_,fun c e=>?_,fun c e=>?_,fun c e=>?_,fun c e=>?_⟩
 ·rcases ho j c e with ⟨rfl,rfl⟩ | ⟨_,e⟩
  ·exact⟨by omega,h2⟩
  ·exact h'.ge j c e
 ·rcases ho i c ei with ⟨u1,u2⟩ | ⟨_,ei2⟩
  ·rcases ho j c ej with ⟨u3,u4⟩ | ⟨_,ej2⟩
   ·rw[u1,u3]
   ·have:=(h.ge j _ ej2).2;omega
  ·rcases ho j c ej with ⟨u3,u4⟩ | ⟨_,ej2⟩
   ·have:=(h.ge i _ ei2).2;omega
   ·exact h.inj i j c ei2 ej2
 ·rcases ho _ c e with ⟨e3,rfl⟩ | ⟨hne,e⟩
  ·exact h3 e3.symm
  ·rw[ht (Ne.symm hne)];exact h'.k3 c e
 ·rcases ho _ c e with ⟨e3,rfl⟩ | ⟨hne,e⟩
  ·exact h4 e3.symm
  ·exact h'.k4 c e
 ·rcases ho _ c e with ⟨e3,rfl⟩ | ⟨hne,e⟩
  ·exact h6 e3.symm
  ·exact h'.k6 c e
 ·rcases ho _ c e with ⟨e3,rfl⟩ | ⟨hne,e⟩
  ·exact h8 (.inl e3.symm)
  ·exact h'.k8 c e
 ·rcases ho _ c e with ⟨e3,rfl⟩ | ⟨hne,e⟩
  ·exact h8 (.inr (.inl e3.symm))
  ·exact h'.k10 c e
 ·rcases ho _ c e with ⟨e3,rfl⟩ | ⟨hne,e⟩
  ·exact h8 (.inr (.inr e3.symm))
  ·exact h'.k12 c e
theorem irow_made (w:World) (n:Nat):IRow (w.alloc (.cells (madeI n) 3)) w.heap.size n (fun _=>0):=fun j hj=>by
 have:(w.alloc (.cells (madeI n) 3)).cell? ⟨w.heap.size,j,none⟩=(madeI n)[j]?:=by simp[go_sem]
 rw[this];exact⟨madeI_get n j hj,by simp[go_sem]⟩
theorem blk_new (w:World) (vs:List Value) (T:TypeId):Blk (w.alloc (.cells vs.toArray T)) w.heap.size vs:=fun j v hj=>by
 have:(w.alloc (.cells vs.toArray T)).cell? ⟨w.heap.size,j,none⟩=vs.toArray[j]?:=by simp[go_sem]
 rw[this];exact⟨by simpa using hj,by simp[go_sem]⟩
def fxOf (x:Farm) (t:List Int) (N base f b3 b4 b6 b8 b10 b12 c:Nat):FX:=⟨x,t,fpOf x (ordOf t N),base,f,b4,b3,b6,b8,b10,b12,c⟩
theorem open_end {x:Farm} {xb N:Nat} {w0:World} {o:Nat→Option Nat} {t:List Int} {wr W9 W:World} {b3 b4 b6 b8 b10 b12 c:Nat} (hJ:PJ x xb N w0 o t wr) (hxb:w0.heap.size=xb) (hN:x.works.n=N) (g3:o 3=some b3) (g4:o 4=some b4) (g6:o 6=some b6) (g8:o 8=some b8) (g10:o 10=some b10) (g12:o 12=some b12)
  (h9:wr.alloc (.cells (FX.cells (fxOf x t N w0.heap.size wr.heap.size b3 b4 b6 b8 b10 b12 c) 0 (.slice none 0 0) (.slice none 0 0)).toArray 61)=W9) (hg:W9.grownBy W (some b4)) (hm:TMap KLo (fun b:Bool=>Value.bool b) W b4 (fun l=>if l∈x.lost.l then some true else none) c) :
  FA (fxOf x t N w0.heap.size wr.heap.size b3 b4 b6 b8 b10 b12 c) KLo (.slice none 0 0) (.slice none 0 0) p0 w0 W:=by
 have hb9:Below wr.heap.size wr W9:=by rw[← h9];exact(Below.refl _ _).alloc (Nat.le_refl _) _
 have hJ9:=hJ.keep hb9;have hsz:W9.heap.size=wr.heap.size+1:=by rw[← h9];simp
 have hbk:Blk W9 wr.heap.size (FX.cells (fxOf x t N w0.heap.size wr.heap.size b3 b4 b6 b8 b10 b12 c) 0 (.slice none 0 0) (.slice none 0 0)):=by rw[← h9];exact blk_new _ _ _
 have hk:∀ b,b<W9.heap.size→b≠b4→W.heap[b]? = W9.heap[b]?:=fun b hb hne=>hg.block b hb (fun e=>hne (Option.some.inj e));have ne:∀ i j b b',o i=some b→o j=some b'→i≠j→b≠b':=fun i j b b' e1 e2 hij e=>hij (hJ.inj i j b e1 (by rw[e2,e]));have l3:=hJ.ge 3 b3 g3;have l4:=hJ.ge 4 b4 g4;have l6:=hJ.ge 6 b6 g6;have l8:=hJ.ge 8 b8 g8;have l10:=hJ.ge 10 b10 g10;have l12:=hJ.ge 12 b12 g12;have hXN:(fxOf x t N w0.heap.size wr.heap.size b3 b4 b6 b8 b10 b12 c).N=N:=hN;have n34:=ne 3 4 b3 b4 g3 g4 (by decide);have n36:=ne 3 6 b3 b6 g3 g6 (by decide);have n38:=ne 3 8 b3 b8 g3 g8 (by decide);have n3a:=ne 3 10 b3 b10 g3 g10 (by decide);have n3c:=ne 3 12 b3 b12 g3 g12 (by decide);have n46:=ne 4 6 b4 b6 g4 g6 (by decide);have n48:=ne 4 8 b4 b8 g4 g8 (by decide);have n4a:=ne 4 10 b4 b10 g4 g10 (by decide);have n4c:=ne 4 12 b4 b12 g4 g12 (by decide);have n68:=ne 6 8 b6 b8 g6 g8 (by decide);have n6a:=ne 6 10 b6 b10 g6 g10 (by decide);have n6c:=ne 6 12 b6 b12 g6 g12 (by decide);have n8a:=ne 8 10 b8 b10 g8 g10 (by decide);have n8c:=ne 8 12 b8 b12 g8 g12 (by decide);have nac:=ne 10 12 b10 b12 g10 g12 (by decide);refine⟨⟨?_,?_,?_,?_,?_,?_,hm,Own.nil _ _,?_,?_,?_,(fun b _ e=>by cases e),rfl,?_⟩,Own.nil _ _,(fun b _ e=>by cases e),(fun b e=>by cases e)⟩
 ·exact hbk.keep (hk wr.heap.size (by omega) (by omega))
 ·rw[hXN];exact(hJ9.k3 b3 g3).1.keep (hk b3 (by omega) n34)
 ·rw[hXN];exact brow_kp (hJ9.k6 b6 g6) (hk b6 (by omega) (Ne.symm n46))
 ·rw[hXN];exact(hJ9.k8 b8 g8).keep (hk b8 (by omega) (Ne.symm n48))
 ·rw[hXN];exact(hJ9.k10 b10 g10).keep (hk b10 (by omega) (Ne.symm n4a))
 ·rw[hXN];exact(hJ9.k12 b12 g12).keep (hk b12 (by omega) (Ne.symm n4c))
 ·simp only[FX.bl,fxOf,List.nodup_cons,List.mem_cons,List.not_mem_nil,or_false,not_or,not_false_eq_true,List.nodup_nil,and_true];refine⟨⟨?_,?_,?_,?_,?_,?_⟩,⟨Ne.symm n34,n46,n48,n4a,n4c⟩,⟨n36,n38,n3a,n3c⟩,⟨n68,n6a,n6c⟩,⟨n8a,n8c⟩,nac⟩ <;> omega
 ·intro b hb;simp only[FX.bl,fxOf,List.mem_cons,List.not_mem_nil,or_false]at hb;show w0.heap.size≤b
  rcases hb with rfl | rfl | rfl | rfl | rfl | rfl | rfl <;> omega
 ·intro b hb;simp only[FX.bl,fxOf,List.mem_cons,List.not_mem_nil,or_false]at hb;have:=hg.size
  rcases hb with rfl | rfl | rfl | rfl | rfl | rfl | rfl <;> omega
 ·exact hJ9.bel.grown hg hJ9.bel.size (fun b hb=>by injection hb with hb;omega)
end Go.Proofs.YtbnkoefljcekbaaGreatDoor.C9
namespace Go.Proofs.YtbnkoefljcekbaaGreatDoor.C9
open Go.ChangeShapes Go.WideShapes Go.Deep Go.RowKit
theorem busy_take {P:List RR} {n k:Nat} {r:RR} (hg:∀ r∈P,going r=true) (h:P[n]? = some r):busy (P.take (n+1)) k=busy (P.take n) k+(if r.worker=k then 1 else 0):=by
 unfold busy;rw[List.take_add_one,h,Option.toList_some,List.countP_append,List.countP_singleton,hg r (List.mem_of_getElem? h)]
 by_cases e:r.worker=k
 ·simp[e]
 ·simp[e]
theorem busy_len (P:List RR) (k:Nat):busy P k≤P.length:=List.countP_le_length
def RnRel (P:List RR) (k:Nat) (w:World) (n i:Value) (wr:World):Prop :=
 ∃ j:Nat,j≤P.length∧i = .int .i64 j∧n = .int .i64 (busy (P.take j) k)∧Below w.heap.size w wr
theorem running_any (fb:Nat) (A:Option Addr) (n cap:Nat) (F:FP) (P:List RR) (k:Nat) (w:World) (h8:w.cell? ⟨fb,8,none⟩=some (.slice A n cap)) (hl:SlAt RGRun w A n (P.map (gr F))) (hn:n≤1000000) (hg:∀ r∈P,going r=true) :
  Calls Tryz.prog 205 #[.pointer (some ⟨fb,0,none⟩),.int .i64 k] w fun e w'=>e = .returned (.int .i64 (busy P k))∧Below w.heap.size w w':=by
 have hll:P.length=n:=by have:=hl.1;rwa [List.length_map]at this
 have hfl:=cell?_lt h8;obtain⟨hlH,hgH,hllH⟩:=hq2 hl (hq2 hg (Lib.hid hll));clear hl hg hll;go_enter Tryz.func205,Tryz.ntmps205;go_wp2_with fail
 go_loopw [5,13] (fun c i wr=>RnRel P k w c i wr) (fun _ i _=>n-(intOf i).toNat)
 case atStart=>exact⟨0,Nat.zero_le _,rfl,rfl,Below.refl _ _⟩
 case round =>
  obtain⟨j,hj,rfl,rfl,hb⟩:=hrel;have hbl:=busy_len (P.take j) k;rw[List.length_take]at hbl;have hln:=hllH.out
  by_cases hlt:j<n
  ·obtain⟨b,off,hA,_⟩:=hlH.out.2.1 (by omega);subst hA;obtain⟨r,hr⟩:∃ r,P[j]? = some r:=⟨P[j]'(by omega),List.getElem?_eq_getElem _⟩;obtain⟨d0,d1,d2,d3⟩:=cells_GRun (hlH.out.below hb) (x:=gr F r) (by rw[List.getElem?_map,hr];rfl);have hst:=busy_take (k:=k) hgH.out hr;have hbs:=hb.size;have hba:=hb.alloc hbs (.cells #[.int .i64 (gr F r).work,.int .i64 (gr F r).worker,.int .i64 (gr F r).from_,.int .i64 (gr F r).end_] 144);have hw:(gr F r).worker=(r.worker:Int):=rfl;obtain⟨c,hc⟩:∃ c,busy (P.take j) k=c:=⟨_,rfl⟩;rw[hc]at hst hbl ⊢;rw[hw]at d1 hba;obtain⟨g0,hg0⟩:∃ g,(gr F r).work=g:=⟨_,rfl⟩;obtain⟨g2,hg2⟩:∃ g,(gr F r).from_=g:=⟨_,rfl⟩;obtain⟨g3,hg3⟩:∃ g,(gr F r).end_=g:=⟨_,rfl⟩;rw[hg0]at d0 hba;rw[hg2]at d2 hba;rw[hg3]at d3 hba;have hj1:j+1≤P.length:=by omega
   by_cases e:r.worker=k
   ·rw[if_pos e]at hst;have R:RnRel P k w (.int .i64 ((c:Int)+1)) (.int .i64 ((j:Int)+1)) (wr.alloc (.cells #[.int .i64 g0,.int .i64 r.worker,.int .i64 g2,.int .i64 g3] 144)) :=
     ⟨j+1,hj1,by go_num,by rw[hst];go_num,hba⟩
    have e':((r.worker:Int)==(k:Int))=true:=by rw[e];simp
    clear e hw hg0 hg2 hg3;obtain⟨hrH,hbH,hstH,hbaH,hcH,RH,hlnH⟩:=hq2 hr (hq2 hb (hqb hst hba hc R (Lib.hid hln)));clear hr hb hst hba hc R hln;go_wp2;refine⟨?rel,?measure⟩
    case measure=>(simp[intOf];omega)
    case rel=>first | exact RH.out | exact⟨rfl,RH.out⟩
   ·rw[if_neg e]at hst;have R:RnRel P k w (.int .i64 (c:Int)) (.int .i64 ((j:Int)+1)) (wr.alloc (.cells #[.int .i64 g0,.int .i64 r.worker,.int .i64 g2,.int .i64 g3] 144)) :=
     ⟨j+1,hj1,by go_num,by rw[hst];go_num,hba⟩
    have e':((r.worker:Int)==(k:Int))=false:=by simpa using fun h=>e (by omega)
    clear e hw hg0 hg2 hg3;obtain⟨hrH,hbH,hstH,hbaH,hcH,RH,hlnH⟩:=hq2 hr (hq2 hb (hqb hst hba hc R (Lib.hid hln)));clear hr hb hst hba hc R hln;go_wp2;refine⟨?rel,?measure⟩
    case measure=>(simp[intOf];omega)
    case rel=>first | exact RH.out | exact⟨rfl,RH.out⟩
  ·obtain rfl:j=n:=by omega
   rw[List.take_of_length_le (by omega)];obtain⟨hbH,hlnH,hblH⟩:=hq2 hb (hq2 hln (Lib.hid hbl));clear hb hln hbl;go_wp2;go_ret;exact⟨rfl,hbH.out⟩
end Go.Proofs.YtbnkoefljcekbaaGreatDoor.C9