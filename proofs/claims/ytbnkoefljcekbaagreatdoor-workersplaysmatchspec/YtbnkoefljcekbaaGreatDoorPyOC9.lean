/-
 Several texts of mine as one, without what is not wanted here: XLoK, XOpnD, XCFarmP, XCFarmW.
-/
import Derived.WideKeyArgs
import Derived.DeepKeys4
import Derived.Test.YtbnkoefljcekbaaGreatDoorPyGk
import Derived.Test.YtbnkoefljcekbaaGreatDoorPyNC9
set_option linter.unusedVariables false
set_option linter.unusedSimpArgs false
set_option maxRecDepth 100000
set_option maxHeartbeats 8000000
namespace Go.Proofs.YtbnkoefljcekbaaGreatDoor.C9
open Go.ChangeShapes Go.WideShapes Go.Deep Go.RowKit Go.Maps
theorem loRow:(71:TypeId) < Tryz.prog.types.size:=of_decide_eq_true (by kernel_rfl)
theorem loCells:Tryz.prog.cellsOf 71 = 2:=by kernel_rfl
theorem loStr:Tryz.prog.cellsOf 9 = 1:=by kernel_rfl
theorem loInt:Tryz.prog.cellsOf 3 = 1:=by kernel_rfl
theorem loWide:(match Tryz.prog.underlying 71 with | some (.array _ _) | some (.struct _)=>true | _=>false)=true:=by rw[Tryz.underlying71]
theorem loLaid:laidOutB Tryz.prog=true:=by kernel_rfl
theorem loAt:Tryz.prog.keyTypeAt 2 71 = true:=by kernel_rfl
theorem loPos:0 < Tryz.prog.types.size:=Nat.lt_of_le_of_lt (Nat.zero_le _) loRow
theorem loLaw:WideMaps.KeyLaw Tryz.prog 71:=deep_law_laid loLaid (m:=2) (Nat.le_of_ble_eq_true rfl) loRow loAt loWide
theorem loKeyed:Keyed Tryz.prog 71:=Keyed.of_law loLaw
theorem loKeyType:Tryz.prog.keyType 71 = true:=by kernel_rfl
def loB (x:Loss):Lit:=.string (keyBytes [.string x.worker.data.toList,.int .i64 x.at_])
def loG (x:Loss):Prop:=x.worker.size≤maxLen∧(Lit.int .i64 x.at_).wf=true
def loV (x:Loss):Value:=.agg #[.string x.worker,.int .i64 x.at_]
theorem lo_of (x:Loss) (h:loG x):keyOf Tryz.prog 71 (loV x)=some (loB x):=by
 obtain⟨a,b⟩:=x;obtain⟨ha,hb⟩:=h;simp only at ha hb;unfold loV loB;simp only;have hf:(Value.agg #[.string a,.int .i64 b]).formed Tryz.prog 71 = true:=by simp[Value.formed,Tryz.underlying71,loCells]
 have hr:=loPos;unfold keyOf;rw[Tryz.underlying71];simp only[loKeyType,hf,Bool.and_self,if_true];obtain⟨n,hn⟩:∃ n,Tryz.prog.types.size=n+1:=⟨Tryz.prog.types.size-1,by omega⟩;rw[hn];simp[Program.keyLits,Tryz.underlying71,Tryz.underlying9,Tryz.underlying3,loCells,loStr,loInt,Value.cells,ha,hb]
theorem lo_inv (v:Value) (l:Lit) (h:keyOf Tryz.prog 71 v=some l):∃ x:Loss,loG x∧v=loV x∧l=loB x:=by
 have hr:=loPos;have h0:=h;unfold keyOf at h;rw[Tryz.underlying71]at h;simp only[loKeyType,Bool.true_and]at h
 by_cases hf:v.formed Tryz.prog 71 = true
 ·rw[if_pos hf]at h
  cases v with
  | agg cs =>
   obtain⟨n,hn⟩:∃ n,Tryz.prog.types.size=n+1:=⟨Tryz.prog.types.size-1,by omega⟩;have hs:cs.size=2:=by simpa[Value.formed,Tryz.underlying71,loCells]using hf
   obtain⟨c0,c1,rfl⟩:∃ c0 c1,cs = #[c0,c1]:=by
    match cs,hs with
    | ⟨[c0,c1]⟩,_=>exact⟨c0,c1,rfl⟩
   rw[hn]at h;have hstr:∀ (N:Nat) (c:Value) ls,Tryz.prog.keyLits N 9 [c]=some ls→∃ a:ByteArray,c = .string a∧a.size≤maxLen:=by
    intro N c ls hls
    cases N with
    | zero=>cases hls
    | succ N =>
     unfold Program.keyLits at hls;rw[Tryz.underlying9]at hls
     cases c with
     | string a =>
      simp only at hls
      split at hls
      ·exact⟨a,rfl,by assumption⟩
      ·cases hls
     | _=>cases hls
   have hint:∀ (N:Nat) (c:Value) ls,Tryz.prog.keyLits N 3 [c]=some ls→∃ b:Int,c = .int .i64 b∧(Lit.int .i64 b).wf=true:=by
    intro N c ls hls
    cases N with
    | zero=>cases hls
    | succ N =>
     unfold Program.keyLits at hls;rw[Tryz.underlying3]at hls
     cases c with
     | int q b =>
      simp only at hls
      split at hls
      ·rename_i hq
       obtain⟨rfl,hw⟩:=hq;exact⟨b,rfl,hw⟩
      ·cases hls
     | _=>cases hls
   have hk:∃ N l0 l1,Tryz.prog.keyLits N 9 [c0]=some l0∧Tryz.prog.keyLits N 3 [c1]=some l1:=by
    unfold Program.keyLits at h;simp only[Tryz.underlying71]at h;simp[loStr,loInt,loCells,Value.cells]at h
    cases e0:Tryz.prog.keyLits (n+1) 9 [c0] with
    | none=>rw[e0]at h;simp at h
    | some l0 =>
     cases e1:Tryz.prog.keyLits (n+1) 3 [c1] with
     | none=>rw[e0,e1]at h;simp at h
     | some l1=>exact⟨_,l0,l1,e0,e1⟩
   obtain⟨N,l0,l1,e0,e1⟩:=hk;obtain⟨a,rfl,ha⟩:=hstr N c0 _ e0;obtain⟨b,rfl,hb⟩:=hint N c1 _ e1;refine⟨⟨a,b⟩,⟨ha,hb⟩,rfl,?_⟩;have h1:=lo_of ⟨a,b⟩ ⟨ha,hb⟩;unfold loV at h1;simp only at h1;rw[h1]at h0;injection h0 with h0;exact h0.symm
  | _=>simp[Value.formed,Tryz.underlying71]at hf
 ·rw[if_neg hf]at h
  cases h
noncomputable def KLo:KD Tryz.prog 71 Loss :=
 ⟨loV,loB,loG,loKeyed,lo_of,lo_inv,fun x y hx hy he=>by
   have h1:=lo_of x hx;have h2:=lo_of y hy;rw[← he]at h2;have:=loKeyed.inj h1 h2;obtain⟨a,b⟩:=x;obtain⟨c,d⟩:=y;simp only[loV,Value.agg.injEq,Array.mk.injEq,List.cons.injEq,Value.string.injEq,Value.int.injEq,and_true,true_and]at this;obtain⟨rfl,rfl⟩:=this;rfl⟩
structure PJ (x:Farm) (xb N:Nat) (w0:World) (o:Nat→Option Nat) (t:List Int) (w:World):Prop where
 bel:Below w0.heap.size w0 w
 xlt:xb<w.heap.size
 ge:∀ k b,o k=some b→xb<b∧b<w.heap.size
 inj:∀ i j b,o i=some b→o j=some b→i=j
 k3:∀ b,o 3=some b→Sms w b N t∧Crit (gOf x.works.l) (szOf x.works.l) N (gt t)
 k4:∀ b,o 4=some b→TMap KLo (fun b:Bool=>Value.bool b) w b (fun _=>none) 0
 k6:∀ b,o 6=some b→BRow w b N (fun _=>false)
 k8:∀ b,o 8=some b→IRow w b N (fun _=>0)
 k10:∀ b,o 10=some b→IRow w b N (fun _=>0)
 k12:∀ b,o 12=some b→IRow w b N (fun _=>0)
theorem PJ.keep {x:Farm} {xb N:Nat} {w0:World} {o:Nat→Option Nat} {t:List Int} {w w':World} (h:PJ x xb N w0 o t w) (hb:Below w.heap.size w w'):PJ x xb N w0 o t w':=by
 have hk:∀ k b,o k=some b→w'.heap[b]? = w.heap[b]?:=fun k b hk=>hb.block b (h.ge k b hk).2;exact⟨h.bel.trans (hb.mono h.bel.size),Nat.lt_of_lt_of_le h.xlt hb.size,fun k b e=>⟨(h.ge k b e).1,Nat.lt_of_lt_of_le (h.ge k b e).2 hb.size⟩,h.inj,fun b e=>⟨(h.k3 b e).1.keep (hk _ _ e),(h.k3 b e).2⟩,fun b e=>(h.k4 b e).below hb (h.ge _ _ e).2,
  fun b e=>brow_kp (h.k6 b e) (hk _ _ e),fun b e=>(h.k8 b e).keep (hk _ _ e),fun b e=>(h.k10 b e).keep (hk _ _ e),fun b e=>(h.k12 b e).keep (hk _ _ e)⟩
theorem PJ.more {x:Farm} {xb N:Nat} {w0:World} {o:Nat→Option Nat} {t t':List Int} {w w':World} (h:PJ x xb N w0 o t w) (hb:Below w.heap.size w w') {k b:Nat} (hk:o k=none) (h1:w.heap.size≤b) (h2:b<w'.heap.size)
  (ht:k≠3→t'=t) (h3:k=3→Sms w' b N t'∧Crit (gOf x.works.l) (szOf x.works.l) N (gt t')) (h4:k=4→TMap KLo (fun b:Bool=>Value.bool b) w' b (fun _=>none) 0) (h6:k=6→BRow w' b N (fun _=>false)) (h8:k=8∨k=10∨k=12→IRow w' b N (fun _=>0)) :
  PJ x xb N w0 (upo o k b) t' w':=by
 have h':=h.keep hb;have hx:=h.xlt;have ho:∀ j c,upo o k b j=some c→(j=k∧c=b)∨(j≠k∧o j=some c):=fun j c e=>by
  unfold upo at e
  by_cases hj:j=k
  ·rw[if_pos hj]at e;injection e with e;exact .inl ⟨hj,e.symm⟩
  ·rw[if_neg hj]at e;exact .inr ⟨hj,e⟩
 refine⟨h'.bel,h'.xlt,fun j c e=>?_,fun i j c ei ej=>?_,fun c e=>?_,fun c e=>?_,fun c e=>?_,fun c e=>?_,fun c e=>?_,fun c e=>?_⟩
 ·rcases ho j c e with ⟨rfl,rfl⟩ | ⟨_,e⟩
  ·exact⟨by omega,h2⟩
  ·exact h'.ge j c e
 ·rcases ho i c ei with ⟨u1,u2⟩ | ⟨_,ei2⟩
  ·rcases ho j c ej with ⟨u3,u4⟩ | ⟨_,ej2⟩
   ·rw[u1,u3]
   ·have:=(h.ge j _ ej2).2;omega
  ·rcases ho j c ej with ⟨u3,u4⟩ | ⟨_,ej2⟩
   ·have:=(h.ge i _ ei2).2;omega
   ·exact h.inj i j c ei2 ej2
 ·rcases ho _ c e with ⟨e3,rfl⟩ | ⟨hne,e⟩
  ·exact h3 e3.symm
  ·rw[ht (Ne.symm hne)];exact h'.k3 c e
 ·rcases ho _ c e with ⟨e3,rfl⟩ | ⟨hne,e⟩
  ·exact h4 e3.symm
  ·exact h'.k4 c e
 ·rcases ho _ c e with ⟨e3,rfl⟩ | ⟨hne,e⟩
  ·exact h6 e3.symm
  ·exact h'.k6 c e
 ·rcases ho _ c e with ⟨e3,rfl⟩ | ⟨hne,e⟩
  ·exact h8 (.inl e3.symm)
  ·exact h'.k8 c e
 ·rcases ho _ c e with ⟨e3,rfl⟩ | ⟨hne,e⟩
  ·exact h8 (.inr (.inl e3.symm))
  ·exact h'.k10 c e
 ·rcases ho _ c e with ⟨e3,rfl⟩ | ⟨hne,e⟩
  ·exact h8 (.inr (.inr e3.symm))
  ·exact h'.k12 c e
theorem irow_made (w:World) (n:Nat):IRow (w.alloc (.cells (madeI n) 3)) w.heap.size n (fun _=>0):=fun j hj=>by
 have:(w.alloc (.cells (madeI n) 3)).cell? ⟨w.heap.size,j,none⟩=(madeI n)[j]?:=by simp[go_sem]
 rw[this];exact⟨madeI_get n j hj,by simp[go_sem]⟩
theorem blk_new (w:World) (vs:List Value) (T:TypeId):Blk (w.alloc (.cells vs.toArray T)) w.heap.size vs:=fun j v hj=>by
 have:(w.alloc (.cells vs.toArray T)).cell? ⟨w.heap.size,j,none⟩=vs.toArray[j]?:=by simp[go_sem]
 rw[this];exact⟨by simpa using hj,by simp[go_sem]⟩
def fxOf (x:Farm) (t:List Int) (N base f b3 b4 b6 b8 b10 b12 c:Nat):FX:=⟨x,t,fpOf x (ordOf t N),base,f,b4,b3,b6,b8,b10,b12,c⟩
theorem open_end {x:Farm} {xb N:Nat} {w0:World} {o:Nat→Option Nat} {t:List Int} {wr W9 W:World} {b3 b4 b6 b8 b10 b12 c:Nat} (hJ:PJ x xb N w0 o t wr) (hxb:w0.heap.size=xb) (hN:x.works.n=N) (g3:o 3=some b3) (g4:o 4=some b4) (g6:o 6=some b6) (g8:o 8=some b8) (g10:o 10=some b10) (g12:o 12=some b12)
  (h9:wr.alloc (.cells (FX.cells (fxOf x t N w0.heap.size wr.heap.size b3 b4 b6 b8 b10 b12 c) 0 (.slice none 0 0) (.slice none 0 0)).toArray 61)=W9) (hg:W9.grownBy W (some b4)) (hm:TMap KLo (fun b:Bool=>Value.bool b) W b4 (fun l=>if l∈x.lost.l then some true else none) c) :
  FA (fxOf x t N w0.heap.size wr.heap.size b3 b4 b6 b8 b10 b12 c) KLo (.slice none 0 0) (.slice none 0 0) p0 w0 W:=by
 have hb9:Below wr.heap.size wr W9:=by rw[← h9];exact(Below.refl _ _).alloc (Nat.le_refl _) _
 have hJ9:=hJ.keep hb9;have hsz:W9.heap.size=wr.heap.size+1:=by rw[← h9];simp
 have hbk:Blk W9 wr.heap.size (FX.cells (fxOf x t N w0.heap.size wr.heap.size b3 b4 b6 b8 b10 b12 c) 0 (.slice none 0 0) (.slice none 0 0)):=by rw[← h9];exact blk_new _ _ _
 have hk:∀ b,b<W9.heap.size→b≠b4→W.heap[b]? = W9.heap[b]?:=fun b hb hne=>hg.block b hb (fun e=>hne (Option.some.inj e));have ne:∀ i j b b',o i=some b→o j=some b'→i≠j→b≠b':=fun i j b b' e1 e2 hij e=>hij (hJ.inj i j b e1 (by rw[e2,e]));have l3:=hJ.ge 3 b3 g3;have l4:=hJ.ge 4 b4 g4;have l6:=hJ.ge 6 b6 g6;have l8:=hJ.ge 8 b8 g8;have l10:=hJ.ge 10 b10 g10;have l12:=hJ.ge 12 b12 g12;have hXN:(fxOf x t N w0.heap.size wr.heap.size b3 b4 b6 b8 b10 b12 c).N=N:=hN;have n34:=ne 3 4 b3 b4 g3 g4 (by decide);have n36:=ne 3 6 b3 b6 g3 g6 (by decide);have n38:=ne 3 8 b3 b8 g3 g8 (by decide);have n3a:=ne 3 10 b3 b10 g3 g10 (by decide);have n3c:=ne 3 12 b3 b12 g3 g12 (by decide);have n46:=ne 4 6 b4 b6 g4 g6 (by decide);have n48:=ne 4 8 b4 b8 g4 g8 (by decide);have n4a:=ne 4 10 b4 b10 g4 g10 (by decide);have n4c:=ne 4 12 b4 b12 g4 g12 (by decide);have n68:=ne 6 8 b6 b8 g6 g8 (by decide);have n6a:=ne 6 10 b6 b10 g6 g10 (by decide);have n6c:=ne 6 12 b6 b12 g6 g12 (by decide);have n8a:=ne 8 10 b8 b10 g8 g10 (by decide);have n8c:=ne 8 12 b8 b12 g8 g12 (by decide);have nac:=ne 10 12 b10 b12 g10 g12 (by decide);refine⟨⟨?_,?_,?_,?_,?_,?_,hm,Own.nil _ _,?_,?_,?_,(fun b _ e=>by cases e),rfl,?_⟩,Own.nil _ _,(fun b _ e=>by cases e),(fun b e=>by cases e)⟩
 ·exact hbk.keep (hk wr.heap.size (by omega) (by omega))
 ·rw[hXN];exact(hJ9.k3 b3 g3).1.keep (hk b3 (by omega) n34)
 ·rw[hXN];exact brow_kp (hJ9.k6 b6 g6) (hk b6 (by omega) (Ne.symm n46))
 ·rw[hXN];exact(hJ9.k8 b8 g8).keep (hk b8 (by omega) (Ne.symm n48))
 ·rw[hXN];exact(hJ9.k10 b10 g10).keep (hk b10 (by omega) (Ne.symm n4a))
 ·rw[hXN];exact(hJ9.k12 b12 g12).keep (hk b12 (by omega) (Ne.symm n4c))
 ·simp only[FX.bl,fxOf,List.nodup_cons,List.mem_cons,List.not_mem_nil,or_false,not_or,not_false_eq_true,List.nodup_nil,and_true];refine⟨⟨?_,?_,?_,?_,?_,?_⟩,⟨Ne.symm n34,n46,n48,n4a,n4c⟩,⟨n36,n38,n3a,n3c⟩,⟨n68,n6a,n6c⟩,⟨n8a,n8c⟩,nac⟩ <;> omega
 ·intro b hb;simp only[FX.bl,fxOf,List.mem_cons,List.not_mem_nil,or_false]at hb;show w0.heap.size≤b
  rcases hb with rfl | rfl | rfl | rfl | rfl | rfl | rfl <;> omega
 ·intro b hb;simp only[FX.bl,fxOf,List.mem_cons,List.not_mem_nil,or_false]at hb;have:=hg.size
  rcases hb with rfl | rfl | rfl | rfl | rfl | rfl | rfl <;> omega
 ·exact hJ9.bel.grown hg hJ9.bel.size (fun b hb=>by injection hb with hb;omega)
end Go.Proofs.YtbnkoefljcekbaaGreatDoor.C9
namespace Go.Proofs.YtbnkoefljcekbaaGreatDoor.C9
open Go.ChangeShapes Go.WideShapes Go.Deep Go.RowKit
theorem or_cells2 {w:World} {A:Option Addr} {b:Nat} {x y:Int} (hA:A=some ⟨b,0,none⟩) (h0:w.cell? ⟨b,0,none⟩=some (.int .i64 x)) (h1:w.cell? ⟨b,1,none⟩=some (.int .i64 y)) (i0:I64 x) (i1:I64 y):SlAt RInt w A 2 [x,y]:=by
 subst hA;refine⟨rfl,fun _=>⟨b,0,rfl,fun i z hz j v hv=>?_⟩,fun z hz=>?_⟩
 ·match i,hz with
  | 0,hz=>injection hz with hz;subst hz;cases j with
   | zero=>injection hv with hv;subst hv;exact h0
   | succ j=>cases hv
  | 1,hz=>injection hz with hz;subst hz;cases j with
   | zero=>injection hv with hv;subst hv;exact h1
   | succ j=>cases hv
 ·simp only[List.mem_cons,List.not_mem_nil,or_false]at hz
  rcases hz with rfl | rfl <;> assumption
def lossCmp (a b:Loss):Int:=orF [Lib.compareInt a.at_ b.at_,cmpS a.worker b.worker]
theorem lossCmp_eq (a b:Loss):lossCmp a b=if a.at_=b.at_ then cmpS a.worker b.worker else if a.at_<b.at_ then -1 else 1:=by
 unfold lossCmp;simp only[orF]
 by_cases h:a.at_=b.at_
 ·have h0:Lib.compareInt a.at_ b.at_=0:=by
   unfold Lib.compareInt;rw[if_neg (by omega),if_neg (by omega)]
  rw[if_pos h0,if_pos h]
  split
  ·rename_i h3;exact h3.symm
  ·rfl
 ·rw[if_neg h]
  by_cases h2:a.at_<b.at_
  ·have h0:Lib.compareInt a.at_ b.at_ = -1:=by
    unfold Lib.compareInt;rw[if_pos h2]
   rw[h0,if_pos h2];rfl
  ·have h0:Lib.compareInt a.at_ b.at_=1:=by
    unfold Lib.compareInt;rw[if_neg h2,if_pos (by omega)]
   rw[h0,if_neg h2];rfl
theorem lossCmp_le (a b:Loss):decide (lossCmp a b≤0)=lossLe a b:=by
 rw[lossCmp_eq];unfold lossLe
 by_cases h:a.at_=b.at_
 ·rw[if_pos h,sle_cmp];have h1:decide (a.at_<b.at_)=false:=decide_eq_false (by omega);rw[h1,decide_eq_true h,Bool.false_or,Bool.true_and]
 ·rw[if_neg h,decide_eq_false h,Bool.false_and,Bool.or_false]
  by_cases h2:a.at_<b.at_
  ·rw[if_pos h2,decide_eq_true h2];rfl
  ·rw[if_neg h2,decide_eq_false h2];rfl
def LosRel (ws:List Worker) (l:List Loss) (d:Int) (w0:World) (i:Value) (wr:World):Prop :=
 ∃ k:Nat,k≤l.length∧i = .int .i64 k∧lossErr ws (prevLo l k) (l.drop k)=d∧Below w0.heap.size w0 wr
def CfAns (c:Int) (w:World) (e:Ending) (w':World):Prop:=e = .returned (.int .i64 c)∧Below w.heap.size w w'
abbrev farmV (x:Farm):Value:=.agg #[.slice x.workers.A x.workers.n x.workers.cap,.slice x.works.A x.works.n x.works.cap,.slice x.lost.A x.lost.n x.lost.cap,.int .i64 x.tries,.bool x.doubles]
theorem farm_any (x:Farm) (w:World) (hx:RFarm.ok w x) (c:Int) (hF:farmF x=c) :
  Calls Tryz.prog 12 #[farmV x] w (CfAns c w):=by
 obtain⟨hx0,hx1,hx2,hx3,hx4⟩:=hx;unfold farmV;obtain⟨Z,hZ⟩:∃ Z,CfAns c w=Z:=⟨_,rfl⟩;have hZ':∀ W,Below w.heap.size w W→Z (.returned (.int .i64 c)) W:=fun W h=>by rw[← hZ];exact⟨rfl,h⟩
 rw[hZ];clear hZ;unfold farmF at hF;obtain⟨⟨wA,wn,wc,wsl⟩,⟨xA,xn,xc,xsl⟩,⟨lA,ln,lc,lsl⟩,tr,db⟩:=x;simp only at hx0 hx1 hx2 hx3 hx4 hF ⊢;obtain⟨W1,hW1⟩:∃ Y,w.alloc (.cells #[.slice wA wn wc,.slice xA xn xc,.slice lA ln lc,.int .i64 tr,.bool db] 26)=Y:=⟨_,rfl⟩;obtain⟨xb,hxb⟩:∃ b,w.heap.size=b:=⟨_,rfl⟩;have hba:Below w.heap.size w W1:=by rw[← hW1];exact(Below.refl _ _).alloc (Nat.le_refl _) _
 have c0:W1.cell? ⟨xb,0,none⟩=some (.slice wA wn wc):=by rw[← hW1,← hxb];exact cell_new _ _ _ 0
 have c1:W1.cell? ⟨xb,1,none⟩=some (.slice xA xn xc):=by rw[← hW1,← hxb];exact cell_new _ _ _ 1
 have c2:W1.cell? ⟨xb,2,none⟩=some (.slice lA ln lc):=by rw[← hW1,← hxb];exact cell_new _ _ _ 2
 have c3:W1.cell? ⟨xb,3,none⟩=some (.int .i64 tr):=by rw[← hW1,← hxb];exact cell_new _ _ _ 3
 have hw1:SlAt RWorker W1 wA wn wsl:=hx0.1.below hba;have hw2:SlAt RWork W1 xA xn xsl:=hx1.1.below hba;have hw3:SlAt RLoss W1 lA ln lsl:=hx2.1.below hba;have hm2:ln≤lc∧lc≤maxLen:=⟨hx2.2.1,hx2.2.2.1⟩;have hC:∀ W,Below W1.heap.size W1 W→W.cell? ⟨xb,2,none⟩=some (.slice lA ln lc)∧W.cell? ⟨xb,0,none⟩=some (.slice wA wn wc)∧W.cell? ⟨xb,3,none⟩=some (.int .i64 tr):=fun W h=>⟨keepC h c2,keepC h c0,keepC h c3⟩;have hll:lsl.length=ln:=hw3.1;have hwl:wsl.length=wn:=hw1.1;obtain⟨f1,hf1⟩:∃ f,workersF wsl=f:=⟨_,rfl⟩;obtain⟨f2,hf2⟩:∃ f,worksF xsl=f:=⟨_,rfl⟩;rw[hf1,hf2]at hF;have RZ:∀ W,Below W1.heap.size W1 W→Z (.returned (.int .i64 c)) W:=fun W h=>hZ' W (hba.trans (h.mono hba.size));obtain⟨hCH,hZ'H,hx0H,hx1H,hx2H,hx3H,hx4H,hW1H,hxbH,hbaH,hw1H,hw2H,hw3H,hFH,hf1H,hf2H,hllH,hwlH,RZH⟩:=hq2 hC (hq2 hZ' (hqc hx0 hx1 hx2 hx3 hx4 hW1 hxb hba (hqc hw1 hw2 hw3 hF hf1 hf2 hll hwl (Lib.hid RZ))));clear hC hZ' hx0 hx1 hx2 hx3 hx4 hW1 hxb hba hw1 hw2 hw3 hF hf1 hf2 hll hwl RZ;go_enter Tryz.func12,Tryz.ntmps12;go_wp2_with fail;rw[hW1H.out,hxbH.out];refine(workers_any wA wn wc wsl _ hw1H.out f1 hf1H.out).mono ?_;rintro e w1 ⟨rfl,hb1⟩;have c0:=keepC hb1 c0;have c1:=keepC hb1 c1;have c2:=keepC hb1 c2;have c3:=keepC hb1 c3;have hF:=hFH.out;clear hFH
 by_cases h1:f1=0
 ·subst h1;rw[if_pos rfl]at hF;obtain⟨hb1H,hFH⟩:=hq2 hb1 (Lib.hid hF);clear hb1 hF;go_wp2_with fail;refine(works_any xA xn xc xsl _ (hw2H.out.below hb1H.out) f2 hf2H.out).mono ?_;rintro e w2 ⟨rfl,hb2⟩;have c0:=keepC hb2 c0;have c2:=keepC hb2 c2;have c3:=keepC hb2 c3;have hb2:=hb1H.out.trans (hb2.mono hb1H.out.size);have hF:=hFH.out;clear hFH
  by_cases h2:f2=0
  ·subst h2;rw[if_pos rfl,hllH.out]at hF
   by_cases h3:ln≤200
   ·rw[if_pos h3]at hF;obtain⟨d,hd⟩:∃ d,lossErr wsl none lsl=d:=⟨_,rfl⟩;rw[hd]at hF;have hst:LosRel wsl lsl d W1 (.int .i64 0) w2:=⟨0,Nat.zero_le _,rfl,hd,hb2⟩;have hrise:wsl.length≤50∧wsl.Pairwise fun a b=>cmpS a.name b.name = -1:=by
     have h:=hf1H.out;unfold workersF at h
     by_cases h6:wsl.length≤50
     ·rw[if_pos h6]at h;exact⟨h6,(workersErr_ok _ _ h).2.1⟩
     ·rw[if_neg h6]at h;exact absurd h (by decide)
    have he5:(5:Int)=d→c=5:=fun e=>by rw[← e,if_neg (by decide)]at hF;exact hF.symm
    have he1:(1:Int)=d→c=1:=fun e=>by rw[← e,if_neg (by decide)]at hF;exact hF.symm
    have he8:(8:Int)=d→c=8:=fun e=>by rw[← e,if_neg (by decide)]at hF;exact hF.symm
    have he0:(0:Int)=d→(if inR 1 10 tr=true then 0 else 1)=c:=fun e=>by rw[← e,if_pos rfl]at hF;exact hF
    clear hF;obtain⟨hb2H,hstH,hdH,hriseH,he5H,he1H,he8H,he0H⟩:=hq2 hb2 (hq2 hst (hq2 hd (hqb hrise he5 he1 he8 (Lib.hid he0))));clear hb2 hst hd hrise he5 he1 he8 he0;go_wp2_with fail;clear c0 c1 c2 c3
    go_loopw [28] (fun i w5=>LosRel wsl lsl d W1 i w5) (fun i _=>ln-(intOf i).toNat)
    case atStart=>exact hstH.out
    case round =>
     clear hstH;obtain⟨k,hk,rfl,hck,hb⟩:=hrel;have hkl:k≤ln:=by have:=hllH.out;omega
     have hbs:=hb.size;obtain⟨c2,c0,c3⟩:=hCH.out wr hb
     by_cases hlt:k<ln
     ·have hsl:=hw3H.out.below hb;obtain⟨bl,ol,hA9,_⟩:=hsl.2.1 (by omega);subst hA9;obtain⟨y,hy⟩:∃ y,lsl[k]? = some y:=⟨lsl[k]'(by have:=hllH.out;omega),List.getElem?_eq_getElem _⟩;obtain⟨d0,d1⟩:=cells_Loss hsl hy;have hok:=hsl.2.2 y (List.mem_of_getElem? hy);rw[drop_lo hy,lossErr]at hck;have hkl2:k+1≤lsl.length:=by have:=hllH.out;omega
      have hpn:prevLo lsl (k+1)=some y:=by rw[prevLo,if_neg (by omega),show k+1-1=k from rfl,hy]
      obtain⟨nm,mt⟩:=y;simp only at d0 d1 hck;have hba:=hb.alloc hbs (.cells #[.string nm,.int .i64 mt] 71);have hbas:=hba.size;have c0a:=keepC ((Below.refl wr.heap.size wr).alloc (Nat.le_refl _) (.cells #[.string nm,.int .i64 mt] 71)) c0;have hwk:=(hw1H.out.below hba);have n5:hasNm wsl nm=false→c=5:=fun h=>he5H.out (by rw[h]at hck;rw[if_neg (by decide)]at hck;exact hck);obtain⟨hn,hhn⟩:∃ b,hasNm wsl nm=b:=⟨_,rfl⟩;rw[hhn]at n5;obtain⟨hyH,hckH,hbH,hbaH,hbasH,hokH,hpnH,hkl2H,hwkH,hslH,n5H,hhnH⟩:=hq2 hy (hq2 hck (hq2 hb (hqc hba hbas hok hpn hkl2 hwk hsl n5 (Lib.hid hhn))));clear hy hck hb hba hbas hok hpn hkl2 hwk hsl n5 hhn;go_wp2_with fail;refine(workerAt_any wA wn wc wsl nm _ (by have:=hriseH.out.1;have:=hwlH.out;omega) hwkH.out hriseH.out.2).mono ?_;rintro e w4 ⟨i,rfl,_,hw4⟩;rw[hhnH.out];have q0:w4.cell? ⟨wr.heap.size,0,none⟩=some (.string nm):=(hw4.cell (by simp)).trans (cell_new _ _ _ 0);have q1:w4.cell? ⟨wr.heap.size,1,none⟩=some (.int .i64 mt):=(hw4.cell (by simp)).trans (cell_new _ _ _ 1);have hb4:=hbaH.out.trans (hw4.mono hbasH.out);clear c0 c0a c2 c3 d0 d1;have c2:=(hCH.out w4 hb4).1
      cases hn
      ·obtain rfl:=n5H.out rfl;have R:=RZH.out _ hb4;obtain⟨RH,hb4H,hw4H⟩:=hq2 R (hq2 hb4 (Lib.hid hw4));clear R hb4 hw4;go_wp2;exact RH.out
      ·have hck:=hckH.out;clear hckH;rw[if_pos hhnH.out]at hck
       by_cases i1:inR 0 1000000000 mt=true
       ·rw[if_pos i1]at hck
        by_cases hk0:k=0
        ·subst hk0;have R:∀ nq,LosRel wsl lsl d W1 (.int .i64 1) (w4.drewN nq):=by
          refine fun nq=>⟨1,hkl2H.out,by go_num,?_,bel_drewN hb4 nq⟩;rw[prevLo,if_pos rfl,Option.map_none,if_neg (by decide)]at hck;rw[show prevLo lsl 1=_ from hpnH.out];exact hck
         obtain⟨RH,hckH,hb4H,hw4H⟩:=hq2 R (hq2 hck (hq2 hb4 (Lib.hid hw4)));clear R hck hb4 hw4;go_wp2_with (go_at_call 39;refine(moment_p _ _).mono ?_;rintro e wz ⟨rfl,rfl⟩)
         go_quiet (fail)
         go_wp2;refine⟨?rel,?measure⟩
         case measure=>(simp[intOf];omega)
         case rel=>first | exact(RH.out _) | exact⟨rfl,(RH.out _)⟩
        ·obtain⟨j,rfl⟩:∃ j,k=j+1:=⟨k-1,by omega⟩;obtain⟨y,hy⟩:∃ y,lsl[j]? = some y:=⟨lsl[j]'(by have:=hllH.out;omega),List.getElem?_eq_getElem _⟩;obtain⟨d0,d1⟩:=cells_Loss (hw3H.out.below hb4) hy;have hpr:prevLo lsl (j+1)=some y:=by rw[prevLo,if_neg (by omega),show j+1-1=j from rfl,hy]
         rw[hpr,Option.map_some]at hck;clear hpr;obtain⟨ynm,ymt⟩:=y;simp only at d0 d1;have f0:(0:Int)≤(j:Int):=by omega
         have f1:(j:Int)<(ln:Int):=by omega
         have hln2:ln≤200:=h3;have f2:IntKind.i64.wrap ((j:Int)+1-1)=(j:Int):=by rw[show (j:Int)+1-1=(j:Int) by omega];exact IntWalk.i64_in _ (by omega)
         have f3:(j:Int).toNat=j:=by omega
         have f4:IntKind.i64.wrap (j:Int)=(j:Int):=IntWalk.i64_in _ (by omega);have f5:IntKind.i64.wrap (((j+1:Nat):Int)-1)=(j:Int):=by rw[show ((j+1:Nat):Int)-1=(j:Int) by omega];exact f4
         obtain⟨cc,hcc⟩:∃ cc,lossCmp ⟨nm,mt⟩ ⟨ynm,ymt⟩=cc:=⟨_,rfl⟩;have hle:=lossCmp_le ⟨nm,mt⟩ ⟨ynm,ymt⟩;rw[hcc]at hle;rw[← hle]at hck;unfold lossCmp at hcc;clear hle
         cases hcd:decide (cc≤0)
         ·rw[hcd,if_neg (by decide)]at hck;have R:∀ wx,Below W1.heap.size W1 wx→LosRel wsl lsl d W1 (.int .i64 (j+1+1)) wx:=by
           refine fun wx hbx=>⟨j+1+1,hkl2H.out,by go_num,?_,hbx⟩;rw[hpnH.out];exact hck
          obtain⟨hckH,hccH,hb4H,hw4H,RH,hyH⟩:=hq2 hck (hqb hcc hb4 hw4 R (Lib.hid hy));clear hck hcc hb4 hw4 R hy;go_wp2_with (go_at_call 39;refine(moment_p _ _).mono ?_;rintro e wz ⟨rfl,rfl⟩)
          go_region_held3 (fun w'=>w'.cell? ⟨wr.heap.size,0,none⟩=some (.string nm)∧w'.cell? ⟨wr.heap.size,1,none⟩=some (.int .i64 mt)∧w'.cell? ⟨xb,2,none⟩=some (.slice (some ⟨bl,ol,none⟩) ln lc)∧w'.cell? ⟨bl,ol+j*2,none⟩=some (.string ynm)∧w'.cell? ⟨bl,ol+j*2+1,none⟩=some (.int .i64 ymt)) (go_keep)
           (first
            | (go_at_call 41;refine(Tryz.cmp_Compare_int _ _ _).mono ?_;rintro e w1 ⟨rfl,rfl⟩)
            | (go_at_call 42;refine(Tryz.strings_Compare _ _ _).mono ?_;rintro e w1 ⟨rfl,rfl⟩)
            | (go_at_call 40;refine(or_any _ 2 _ [Lib.compareInt mt ymt,cmpS nm ynm] _ (by omega) (or_cells2 rfl ?_ ?_ (I64_of (cmpI_range _ _)) (I64_of (cmpS_range _ _))) cc (by exact hccH.out)).mono ?_;(simp[go_sem]);(simp[go_sem];rfl);rintro e w1 ⟨rfl,rfl⟩))
          go_wp2;refine⟨?rel,?measure⟩
          case measure=>(simp[intOf];omega)
          case rel=>first | exact(RH.out _ (by first | exact bel_drewN (Below.alloc hb4H.out (by have:=hb4H.out.size;omega) _) _ | exact(Below.alloc hb4H.out (by have:=hb4H.out.size;omega) _).drew)) | exact⟨rfl,(RH.out _ (by first | exact bel_drewN (Below.alloc hb4H.out (by have:=hb4H.out.size;omega) _) _ | exact(Below.alloc hb4H.out (by have:=hb4H.out.size;omega) _).drew))⟩
         ·rw[hcd,if_pos rfl]at hck;obtain rfl:=he8H.out hck;have R:∀ W,Below W1.heap.size W1 W→_:=RZH.out;obtain⟨hckH,hccH,hb4H,hw4H,RH,hyH⟩:=hq2 hck (hqb hcc hb4 hw4 R (Lib.hid hy));clear hck hcc hb4 hw4 R hy;go_wp2_with (go_at_call 39;refine(moment_p _ _).mono ?_;rintro e wz ⟨rfl,rfl⟩)
          go_region_held3 (fun w'=>w'.cell? ⟨wr.heap.size,0,none⟩=some (.string nm)∧w'.cell? ⟨wr.heap.size,1,none⟩=some (.int .i64 mt)∧w'.cell? ⟨xb,2,none⟩=some (.slice (some ⟨bl,ol,none⟩) ln lc)∧w'.cell? ⟨bl,ol+j*2,none⟩=some (.string ynm)∧w'.cell? ⟨bl,ol+j*2+1,none⟩=some (.int .i64 ymt)) (go_keep)
           (first
            | (go_at_call 41;refine(Tryz.cmp_Compare_int _ _ _).mono ?_;rintro e w1 ⟨rfl,rfl⟩)
            | (go_at_call 42;refine(Tryz.strings_Compare _ _ _).mono ?_;rintro e w1 ⟨rfl,rfl⟩)
            | (go_at_call 40;refine(or_any _ 2 _ [Lib.compareInt mt ymt,cmpS nm ynm] _ (by omega) (or_cells2 rfl ?_ ?_ (I64_of (cmpI_range _ _)) (I64_of (cmpS_range _ _))) cc (by exact hccH.out)).mono ?_;(simp[go_sem]);(simp[go_sem];rfl);rintro e w1 ⟨rfl,rfl⟩))
          go_wp2;exact RH.out _ (by first | exact bel_drewN (Below.alloc hb4H.out (by have:=hb4H.out.size;omega) _) _ | exact(Below.alloc hb4H.out (by have:=hb4H.out.size;omega) _).drew)
       ·rw[if_neg i1]at hck;obtain rfl:=he1H.out hck;have R:=RZH.out _ hb4;have i1':inR 0 1000000000 mt=false:=by simpa using i1
        clear i1;obtain⟨RH,hb4H,hw4H,hckH⟩:=hq2 R (hq2 hb4 (hq2 hw4 (Lib.hid hck)));clear R hb4 hw4 hck;go_wp2_with (go_at_call 39;refine(moment_p _ _).mono ?_;rintro e wz ⟨rfl,rfl⟩);exact RH.out
     ·obtain rfl:k=ln:=by omega
      have e:lsl.drop k = []:=List.drop_eq_nil_of_le (by have:=hllH.out;omega);rw[e,lossErr]at hck;have hF:=he0H.out hck;clear e hck
      by_cases i1:inR 1 10 tr=true
      ·rw[if_pos i1]at hF;subst hF;have R:=RZH.out _ hb;obtain⟨RH,hbH⟩:=hq2 R (Lib.hid hb);clear R hb;go_wp2_with (go_at_call 43;refine(within_p _ _ _ _).mono ?_;rintro e wz ⟨rfl,rfl⟩);exact RH.out
      ·rw[if_neg i1]at hF;subst hF;have i1':inR 1 10 tr=false:=by simpa using i1
       clear i1;have R:=RZH.out _ hb;obtain⟨RH,hbH⟩:=hq2 R (Lib.hid hb);clear R hb;go_wp2_with (go_at_call 43;refine(within_p _ _ _ _).mono ?_;rintro e wz ⟨rfl,rfl⟩);exact RH.out
   ·rw[if_neg h3]at hF;subst hF;have R:=RZH.out _ hb2;obtain⟨RH,hb2H⟩:=hq2 R (Lib.hid hb2);clear R hb2;go_wp2;exact RH.out
  ·rw[if_neg h2]at hF;subst hF;have R:=RZH.out _ hb2;have h2':(f2 != 0)=true:=by simpa using h2
   clear h2;obtain⟨RH,hb2H⟩:=hq2 R (Lib.hid hb2);clear R hb2;go_wp2;exact RH.out
 ·rw[if_neg h1]at hF;subst hF;have R:=RZH.out _ hb1;have h1':(f1 != 0)=true:=by simpa using h1
  clear h1;obtain⟨RH,hb1H⟩:=hq2 R (Lib.hid hb1);clear R hb1;go_wp2;exact RH.out
end Go.Proofs.YtbnkoefljcekbaaGreatDoor.C9