/-
 Several texts of mine as one, without what is not wanted here: XPlN, XPlI.
-/
import Derived.Test.YtbnkoefljcekbaaGreatDoorPyGc
set_option linter.unusedVariables false
set_option linter.unusedSimpArgs false
set_option maxRecDepth 100000
set_option maxHeartbeats 8000000
namespace Go.Proofs.YtbnkoefljcekbaaGreatDoor
theorem bestW_none {ok:Nat→Bool} {sp:Nat→Int}:∀ {n:Nat},bestW ok sp n=none↔∀ k,k<n→ok k=false
 | 0=>⟨fun _ k h=>absurd h (Nat.not_lt_zero k),fun _=>rfl⟩
 | n+1=>by
  have ih:=bestW_none (ok:=ok) (sp:=sp) (n:=n)
  constructor
  ·intro h k hk;unfold bestW at h
   split at h
   ·split at h
    ·cases h
    ·split at h <;> cases h
   ·rename_i hn
    by_cases e:k=n
    ·subst e;simpa using hn
    ·exact ih.1 h k (by omega)
  ·intro h;unfold bestW;rw[if_neg (by rw[h n (by omega)];simp)];exact ih.2 fun k hk=>h k (by omega)
theorem bestW_some {ok:Nat→Bool} {sp:Nat→Int}:∀ {n b:Nat},bestW ok sp n=some b→b<n∧ok b=true
 | 0,b,h=>by cases h
 | n+1,b,h=>by
  unfold bestW at h
  split at h
  ·rename_i hk
   split at h
   ·injection h with h;subst h;exact⟨by omega,hk⟩
   ·rename_i b' hb
    have:=bestW_some hb
    split at h
    ·injection h with h;subst h;exact⟨by omega,hk⟩
    ·injection h with h;subst h;exact⟨by omega,this.2⟩
  ·have:=bestW_some h;exact⟨by omega,this.2⟩
theorem busy_app (R X:List RR) (k:Nat):busy R k≤busy (R++X) k:=by
 unfold busy;rw[List.countP_append];omega
theorem canW_app {F:FP} {t:Int} {R X:List RR} {i:Nat} {but:Option Nat} {k:Nat} (h:canW F t R i but k=false):canW F t (R++X) i but k=false:=by
 have hb:=busy_app R X k
 cases hc:canW F t (R++X) i but k
 ·rfl
 ·simp only[canW,Bool.and_eq_true,decide_eq_true_eq]at hc;have:canW F t R i but k=true:=by
   simp only[canW,Bool.and_eq_true,decide_eq_true_eq];exact⟨hc.1,hc.2.1,hc.2.2.1,by omega,hc.2.2.2.2⟩
  rw[h]at this;cases this
theorem runsAny_app (R X:List RR) (i:Nat):runsAny R i=true→runsAny (R++X) i=true:=by
 unfold runsAny;rw[List.any_append];intro h;rw[h];rfl
theorem canS_app {F:FP} {dn:Nat→Bool} {ls:Nat→Int} {R X:List RR} {i:Nat} (h:canS F dn ls (R++X) i=true):canS F dn ls R i=true:=by
 simp only[canS,Bool.and_eq_true,Bool.not_eq_true']at h ⊢;refine⟨h.1,h.2.1,?_,h.2.2.2⟩
 cases hr:runsAny R i
 ·rfl
 ·have:=runsAny_app R X i hr;rw[h.2.2.1]at this;cases this
def NoStart (F:FP) (t:Int) (dn:Nat→Bool) (ls:Nat→Int) (R:List RR) (S:Nat→Prop):Prop:=∀ i,S i→canS F dn ls R i=true→∀ k,k<F.nW→canW F t R i none k=false
def NoDbl (F:FP) (t:Int) (ls:Nat→Int) (R:List RR) (S:Nat→Prop):Prop:=∀ i,S i→∀ r,goingOf R i = [r]→late F r≤t→ls i<F.tries→∀ k,k<F.nW→canW F t R i (some r.worker) k=false
theorem NoStart.app {F:FP} {t:Int} {dn:Nat→Bool} {ls:Nat→Int} {R:List RR} {S:Nat→Prop} (h:NoStart F t dn ls R S) (X:List RR):NoStart F t dn ls (R++X) S :=
 fun i hi hc k hk=>canW_app (h i hi (canS_app hc) k hk)
theorem runsAny_self {R:List RR} {i:Nat} {r:RR} (hg:going r=true) (hw:r.work=i):runsAny (R ++ [r]) i=true:=by
 unfold runsAny;rw[List.any_append];simp[hg,hw]
theorem noStart_fold {F:FP} {q:QS}:∀ (o:List Nat) (R:List RR) (S:Nat→Prop),NoStart F q.at_ q.done q.lost R S→NoStart F q.at_ q.done q.lost (o.foldl (strtR F q) R) (fun i=>S i∨i∈o)
 | [],R,S,h=>fun i hi=>h i (by rcases hi with h | h;exact h;cases h)
 | i::o,R,S,h=>by
  have h1:NoStart F q.at_ q.done q.lost (strtR F q R i) (fun j=>S j∨j=i):=by
   obtain⟨X,e,hX⟩:=strtR_ext F q R i;intro j hj hc k hk
   rcases hj with hj | rfl
   ·rw[e]at hc ⊢;exact canW_app (h j hj (canS_app hc) k hk)
   ·unfold strtR at hc ⊢
    split at hc
    ·rename_i hcs
     rw[if_pos hcs];unfold beginR at hc ⊢
     split at hc
     ·rename_i hn
      exact bestW_none.1 hn k hk
     ·rename_i b hb
      simp only[canS,Bool.and_eq_true,Bool.not_eq_true']at hc;rw[runsAny_self rfl rfl]at hc;exact absurd hc.2.2.1 (by decide)
    ·rename_i hcs
     rw[hc]at hcs;exact absurd rfl hcs
  have h2:=noStart_fold o _ _ h1;intro j hj;exact h2 j (by
   rcases hj with hj | hj
   ·exact .inl (.inl hj)
   ·rcases List.mem_cons.1 hj with rfl | hj
    ·exact .inl (.inr rfl)
    ·exact .inr hj)
theorem goingOf_app (R X:List RR) (i:Nat):goingOf (R++X) i=goingOf R i++goingOf X i:=by unfold goingOf;rw[List.filter_append]
theorem goingOf_other {X:List RR} {i j:Nat} (h:∀ r∈X,r.work=i) (hij:j≠i):goingOf X j = [] :=
 List.filter_eq_nil_iff.2 fun r hr=>by rw[h r hr];simp[Ne.symm hij]
theorem noDbl_fold {F:FP} {t:Int} {ls:Nat→Int}:∀ (o:List Nat) (R:List RR) (S:Nat→Prop),NoDbl F t ls R S→NoDbl F t ls (o.foldl (dblR F t ls) R) (fun i=>S i∨i∈o)
 | [],R,S,h=>fun i hi=>h i (by rcases hi with h | h;exact h;cases h)
 | i::o,R,S,h=>by
  have h1:NoDbl F t ls (dblR F t ls R i) (fun j=>S j∨j=i):=by
   obtain⟨X,e,hX⟩:=dblR_ext F t ls R i;intro j hj r hg hl ht k hk
   by_cases hji:j=i
   ·subst hji;unfold dblR at hg ⊢
    split at hg
    ·rename_i r0 hg0
     split at hg
     ·rename_i hcond
      rw[if_pos hcond];unfold beginR at hg ⊢
      split at hg
      ·rename_i hn
       rw[hg0]at hg;injection hg with hg;subst hg;exact bestW_none.1 hn k hk
      ·rename_i b hb
       rw[goingOf_app,hg0]at hg;simp[goingOf,going]at hg
     ·rename_i hcond
      rw[hg0]at hg;injection hg with hg;subst hg;exact absurd (by simp only[Bool.and_eq_true,decide_eq_true_eq];exact⟨hl,ht⟩) hcond
    ·rename_i hne
     exact absurd hg (hne r)
   ·have hjS:S j:=by rcases hj with h | h;exact h;exact absurd h hji
    rw[e]at hg ⊢;rw[goingOf_app,goingOf_other (fun r hr=>(hX r hr).1) hji,List.append_nil]at hg;exact canW_app (h j hjS r hg hl ht k hk)
  have h2:=noDbl_fold o _ _ h1;intro j hj;exact h2 j (by
   rcases hj with hj | hj
   ·exact .inl (.inl hj)
   ·rcases List.mem_cons.1 hj with rfl | hj
    ·exact .inl (.inr rfl)
    ·exact .inr hj)
structure Quiet (F:FP) (q:QS):Prop where
 st:NoStart F q.at_ q.done q.lost q.runs (·∈F.order)
 db:F.doubles=true→NoDbl F q.at_ q.lost q.runs (· < F.nX)
theorem quiet_step (F:FP) (q:QS):Quiet F (stepQ F q):=by
 obtain⟨q1,hq1⟩:∃ x,loseQ F (finQ F q)=x:=⟨_,rfl⟩;have e:stepQ F q=dblQ F (startQ F q1):=by rw[← hq1];rfl
 rw[e];have hs:NoStart F q1.at_ q1.done q1.lost (startQ F q1).runs (·∈F.order):=by
  have:=noStart_fold (F:=F) (q:=q1) F.order q1.runs (fun _=>False) (fun i h=>h.elim);exact fun i hi=>this i (.inr hi)
 unfold dblQ
 by_cases hd:F.doubles=true
 ·rw[if_pos hd];obtain⟨X,eX,_⟩:=fold_ext (dblR_ext F q1.at_ q1.lost) (List.range F.nX) (startQ F q1).runs;refine⟨?_,fun _=>?_⟩
  ·have:=hs.app X;rw[← eX]at this;exact this
  ·have:=noDbl_fold (F:=F) (t:=q1.at_) (ls:=q1.lost) (List.range F.nX) (startQ F q1).runs (fun _=>False) (fun i h=>h.elim);exact fun i hi=>this i (.inr (List.mem_range.2 hi))
 ·rw[if_neg hd];exact⟨hs,fun h=>absurd h hd⟩
theorem above_some {t:Int}:∀ {l:List Int} {m:Int},above t l=some m→m∈l∧t<m∧∀ x∈l,t<x→m≤x
 | [],m,h=>by cases h
 | x::l,m,h=>by
  unfold above at h
  split at h
  ·rename_i hn
   have hno:∀ y∈l,¬ t<y:=by
    intro y hy hty;have aux:∀ (l:List Int),y∈l→above t l≠none:=by
     intro l
     induction l with
     | nil=>intro h;cases h
     | cons z l ih =>
      intro h hn;unfold above at hn
      split at hn
      ·rename_i h2
       rcases List.mem_cons.1 h with rfl | h
       ·rw[if_pos hty]at hn;cases hn
       ·exact ih h h2
      ·split at hn <;> cases hn
    exact aux l hy hn
   split at h
   ·rename_i hx
    injection h with h;subst h;exact⟨List.mem_cons_self,hx,fun y hy hty=>by
     rcases List.mem_cons.1 hy with rfl | hy
     ·omega
     ·exact absurd hty (hno y hy)⟩
   ·cases h
  ·rename_i m' hm'
   obtain⟨a,b,c⟩:=above_some hm'
   split at h
   ·rename_i hx
    injection h with h;subst h;exact⟨List.mem_cons_self,hx.1,fun y hy hty=>by
     rcases List.mem_cons.1 hy with rfl | hy
     ·omega
     ·have:=c y hy hty;omega⟩
   ·rename_i hx
    injection h with h;subst h;exact⟨List.mem_cons_of_mem _ a,b,fun y hy hty=>by
     rcases List.mem_cons.1 hy with rfl | hy
     ·omega
     ·exact c y hy hty⟩
theorem above_none {t:Int} {l:List Int} (h:above t l=none) {x:Int} (hx:x∈l):x≤t:=by
 induction l with
 | nil=>cases hx
 | cons z l ih =>
  unfold above at h
  split at h
  ·rename_i h2
   split at h
   ·cases h
   ·rcases List.mem_cons.1 hx with rfl | hx
    ·omega
    ·exact ih h2 hx
  ·split at h <;> cases h
theorem above_ex {t:Int} {l:List Int} {x:Int} (hx:x∈l) (ht:t<x):∃ m,above t l=some m∧m≤x:=by
 cases h:above t l with
 | none=>have:=above_none h hx;omega
 | some m=>exact⟨m,rfl,(above_some h).2.2 x hx ht⟩
structure FOk (F:FP):Prop where
 nodup:F.order.Nodup
 lt:∀ i∈F.order,i<F.nX
 loss:∀ k t,k<F.nW→F.loss k t=true→t∈F.lossAt
def Named (F:FP) (R:List RR):Prop:=∀ r∈R,r.worker<F.nW∧r.work<F.nX
theorem mem_candsP {F:FP} {R:List RR} {x:Int}:x∈candsP F R↔(∃ k,k<F.nW∧x=F.wfrom k)∨(∃ r∈R,x=(F.endAt r.worker r.work r.from_).getD (-1)∨x=F.wto r.worker∨(F.doubles=true∧x=late F r))∨x∈F.lossAt:=by
 unfold candsP;rw[List.mem_append,List.mem_append,List.mem_map,List.mem_flatMap]
 constructor
 ·rintro((⟨k,hk,rfl⟩ | ⟨r,hr,hx⟩) | h)
  ·exact .inl ⟨k,List.mem_range.1 hk,rfl⟩
  ·refine .inr (.inl ⟨r,hr,?_⟩)
   rcases List.mem_append.1 hx with hx | hx
   ·rcases List.mem_cons.1 hx with rfl | hx
    ·exact .inl rfl
    ·exact .inr (.inl (List.mem_singleton.1 hx))
   ·split at hx
    ·rename_i hd;exact .inr (.inr ⟨hd,List.mem_singleton.1 hx⟩)
    ·cases hx
  ·exact .inr (.inr h)
 ·rintro(⟨k,hk,rfl⟩ | ⟨r,hr,hx⟩ | h)
  ·exact .inl (.inl ⟨k,List.mem_range.2 hk,rfl⟩)
  ·refine .inl (.inr ⟨r,hr,?_⟩)
   rcases hx with rfl | rfl | ⟨hd,rfl⟩
   ·exact List.mem_append_left _ List.mem_cons_self
   ·exact List.mem_append_left _ (List.mem_cons_of_mem _ List.mem_cons_self)
   ·exact List.mem_append_right _ (by rw[if_pos hd];exact List.mem_cons_self)
  ·exact .inr h
theorem mem_candsQ {F:FP} {R:List RR} {x:Int}:x∈candsQ F R↔(∃ k,k<F.nW∧(x=F.wfrom k∨x=F.wto k))∨x∈F.lossAt∨∃ r∈R,going r=true∧(F.endAt r.worker r.work r.from_=some x∨x=late F r):=by
 unfold candsQ;rw[List.mem_append,List.mem_append,List.mem_flatMap,List.mem_flatMap]
 constructor
 ·rintro((⟨k,hk,hx⟩ | h) | ⟨r,hr,hx⟩)
  ·refine .inl ⟨k,List.mem_range.1 hk,?_⟩
   rcases List.mem_cons.1 hx with rfl | hx
   ·exact .inl rfl
   ·exact .inr (List.mem_singleton.1 hx)
  ·exact .inr (.inl h)
  ·obtain⟨h1,h2⟩:=List.mem_filter.1 hr;refine .inr (.inr ⟨r,h1,h2,?_⟩)
   rcases List.mem_append.1 hx with hx | hx
   ·left
    cases he:F.endAt r.worker r.work r.from_ with
    | none=>rw[he]at hx;cases hx
    | some y=>rw[he]at hx;rw[List.mem_singleton.1 hx]
   ·exact .inr (List.mem_singleton.1 hx)
 ·rintro(⟨k,hk,hx⟩ | h | ⟨r,hr,hg,hx⟩)
  ·refine .inl (.inl ⟨k,List.mem_range.2 hk,?_⟩)
   rcases hx with rfl | rfl
   ·exact List.mem_cons_self
   ·exact List.mem_cons_of_mem _ List.mem_cons_self
  ·exact .inl (.inr h)
  ·refine .inr ⟨r,List.mem_filter.2 ⟨hr,hg⟩,?_⟩
   rcases hx with hx | rfl
   ·exact List.mem_append_left _ (by rw[hx];exact List.mem_cons_self)
   ·exact List.mem_append_right _ List.mem_cons_self
theorem cands_sub {F:FP} {P Q:List RR} (h:SameG P Q) (hN:Named F Q) {x:Int} (hx:x∈candsP F P) (h0:0≤x):x∈candsQ F Q:=by
 rw[mem_candsQ]
 rcases mem_candsP.1 hx with ⟨k,hk,rfl⟩ | ⟨r,hr,hx⟩ | hx
 ·exact .inl ⟨k,hk,.inl rfl⟩
 ·obtain⟨h1,h2⟩:=List.mem_filter.1 (h.mem_iff.1 hr)
  rcases hx with rfl | rfl | ⟨_,rfl⟩
  ·refine .inr (.inr ⟨r,h1,h2,.inl ?_⟩)
   cases he:F.endAt r.worker r.work r.from_ with
   | none=>rw[he]at h0;simp at h0
   | some y=>rfl
  ·exact .inl ⟨_,(hN r h1).1,.inr rfl⟩
  ·exact .inr (.inr ⟨r,h1,h2,.inr rfl⟩)
 ·exact .inr (.inl hx)
theorem still {F:FP} (hF:FOk F) {q:QS} (hQ:Quiet F q) {P:List RR} (hG:SameG P q.runs) (hN:Named F q.runs) {m:Int} (hm:q.at_<m) (hc:∀ c∈candsP F P,q.at_<c→m<c):stepQ F { q with at_:=m } = { q with at_:=m }:=by
 have hmem:∀ r∈q.runs,going r=true→r∈P:=fun r hr hg=>hG.mem_iff.2 (List.mem_filter.2 ⟨hr,hg⟩);have hD:∀ k,hasDone F m q.runs k=false:=by
  intro k;unfold hasDone;rw[List.any_eq_false];intro r hr h;simp only[Bool.and_eq_true,cand,beq_iff_eq]at h;have hx:m∈candsP F P:=mem_candsP.2 (.inr (.inl ⟨r,hmem r hr h.2.1,.inl (by rw[h.2.2];rfl)⟩));have:=hc m hx hm;omega
 have hL:∀ r∈q.runs,going r=true→goes F r.worker m=false:=by
  intro r hr hg;unfold goes;rw[Bool.or_eq_false_iff]
  constructor
  ·cases he:F.wto r.worker==m
   ·rfl
   ·have hx:m∈candsP F P:=mem_candsP.2 (.inr (.inl ⟨r,hmem r hr hg,.inr (.inl (eq_of_beq he).symm)⟩));have:=hc m hx hm;omega
  ·cases he:F.loss r.worker m
   ·rfl
   ·have hx:m∈candsP F P:=mem_candsP.2 (.inr (.inr (hF.loss _ _ (hN r hr).1 he)));have:=hc m hx hm;omega
 have e1:finQ F { q with at_:=m } = { q with at_:=m }:=by
  unfold finQ;have a:q.runs.map (finRun F m q.runs)=q.runs:=by
   exact(List.map_congr_left (f:=finRun F m q.runs) (g:=id) (fun r hr=>finRun_no (by rw[hD];simp))).trans (List.map_id _)
  simp only[a,hD,Bool.or_false]
 have e2:loseQ F { q with at_:=m } = { q with at_:=m }:=by
  unfold loseQ;have a:q.runs.map (loseRun F m)=q.runs:=by
   refine(List.map_congr_left (f:=loseRun F m) (g:=id) (fun r hr=>loseRun_no ?_)).trans (List.map_id _)
   cases hg:going r
   ·rfl
   ·rw[hL r hr hg];rfl
  have b:∀ k,lostNow F m q.runs k=0:=by
   intro k;unfold lostNow;rw[List.countP_eq_zero];intro r hr h;simp only[Bool.and_eq_true]at h;rw[hL r hr h.2.1]at h;exact absurd h.2.2 (by decide)
  simp only[a,b,Int.natCast_zero,Int.add_zero]
 have hcW:∀ i but k,k<F.nW→canW F q.at_ q.runs i but k=false→canW F m q.runs i but k=false:=by
  intro i but k hk h
  cases hcm:canW F m q.runs i but k
  ·rfl
  ·simp only[canW,Bool.and_eq_true,decide_eq_true_eq]at hcm;have:canW F q.at_ q.runs i but k=true:=by
    simp only[canW,Bool.and_eq_true,decide_eq_true_eq];refine⟨hcm.1,?_,by have:=hcm.2.2.1;omega,hcm.2.2.2⟩
    rcases Int.lt_or_le q.at_ (F.wfrom k) with hlt | hle
    ·have hx:F.wfrom k∈candsP F P:=mem_candsP.2 (.inl ⟨k,hk,rfl⟩);have:=hc _ hx hlt;have:=hcm.2.1;omega
    ·exact hle
   rw[h]at this;cases this
 have e3:startQ F { q with at_:=m } = { q with at_:=m }:=by
  have key:∀ o:List Nat,(∀ i∈o,i∈F.order)→o.foldl (strtR F { q with at_:=m }) q.runs=q.runs:=by
   intro o
   induction o with
   | nil=>intro _;rfl
   | cons i o ih =>
    intro ho;rw[List.foldl_cons];have:strtR F { q with at_:=m } q.runs i=q.runs:=by
     unfold strtR
     by_cases hcs:canS F q.done q.lost q.runs i=true
     ·rw[if_pos hcs];have hno:bestW (canW F m q.runs i none) F.speed F.nW=none:=bestW_none.2 fun k hk=>hcW i none k hk (hQ.st i (ho i List.mem_cons_self) hcs k hk);unfold beginR;simp only[hno]
     ·rw[if_neg hcs]
    rw[this];exact ih fun j hj=>ho j (List.mem_cons_of_mem _ hj)
  unfold startQ;have:=key F.order (fun _ h=>h);simp only[this]
 have e4:dblQ F { q with at_:=m } = { q with at_:=m }:=by
  unfold dblQ
  by_cases hd:F.doubles=true
  ·rw[if_pos hd];have key:∀ o:List Nat,(∀ i∈o,i<F.nX)→o.foldl (dblR F m q.lost) q.runs=q.runs:=by
    intro o
    induction o with
    | nil=>intro _;rfl
    | cons i o ih =>
     intro ho;rw[List.foldl_cons];have:dblR F m q.lost q.runs i=q.runs:=by
      unfold dblR
      split
      ·rename_i r hg
       split
       ·rename_i hcond
        simp only[Bool.and_eq_true,decide_eq_true_eq]at hcond;have hr:r∈q.runs∧going r=true:=by
         have:r∈goingOf q.runs i:=by rw[hg];exact List.mem_cons_self
         obtain⟨h1,h2⟩:=List.mem_filter.1 this;simp only[Bool.and_eq_true]at h2;exact⟨h1,h2.1⟩
        have hla:late F r≤q.at_:=by
         rcases Int.lt_or_le q.at_ (late F r) with hlt | hle
         ·have hx:late F r∈candsP F P:=mem_candsP.2 (.inr (.inl ⟨r,hmem r hr.1 hr.2,.inr (.inr ⟨hd,rfl⟩)⟩));have:=hc _ hx hlt;omega
         ·exact hle
        have hno:bestW (canW F m q.runs i (some r.worker)) F.speed F.nW=none:=bestW_none.2 fun k hk=>hcW i _ k hk (hQ.db hd i (ho i List.mem_cons_self) r hg hla hcond.2 k hk);unfold beginR;simp only[hno]
       ·rfl
      ·rfl
     rw[this];exact ih fun j hj=>ho j (List.mem_cons_of_mem _ hj)
   have:=key (List.range F.nX) (fun _ h=>List.mem_range.1 h);simp only[this]
  ·rw[if_neg hd]
 unfold stepQ;rw[e1,e2,e3,e4]
theorem named_app {F:FP} {R X:List RR} (h:Named F R) (hX:Named F X):Named F (R++X):=fun r hr=>by
 rcases List.mem_append.1 hr with hr | hr
 ·exact h r hr
 ·exact hX r hr
theorem named_begin {F:FP} {t:Int} {i:Nat} {but:Option Nat} {R:List RR} (h:Named F R) (hi:i<F.nX):Named F (beginR F t i but R):=by
 unfold beginR
 split
 ·exact h
 ·rename_i k hk
  exact named_app h fun r hr=>by rw[List.mem_singleton.1 hr];exact⟨(bestW_some hk).1,hi⟩
theorem named_fold {F:FP} {f:List RR→Nat→List RR} (hf:∀ R i,i<F.nX→Named F R→Named F (f R i)):∀ (o:List Nat),(∀ i∈o,i<F.nX)→∀ R,Named F R→Named F (o.foldl f R)
 | [],_,R,h=>h
 | i::o,ho,R,h=>named_fold hf o (fun j hj=>ho j (List.mem_cons_of_mem _ hj)) _ (hf R i (ho i List.mem_cons_self) h)
theorem named_step {F:FP} (hF:FOk F) {q:QS} (h:Named F q.runs):Named F (stepQ F q).runs:=by
 have h1:Named F (finQ F q).runs:=fun r hr=>by
  obtain⟨r0,h0,rfl⟩:=List.mem_map.1 hr;rw[(finRun_work r0).1,(finRun_work r0).2.1];exact h r0 h0
 have h2:Named F (loseQ F (finQ F q)).runs:=fun r hr=>by
  obtain⟨r0,h0,rfl⟩:=List.mem_map.1 hr;rw[(loseRun_work r0).1,(loseRun_work r0).2.1];exact h1 r0 h0
 have h3:Named F (startQ F (loseQ F (finQ F q))).runs:=named_fold (fun R i hi hR=>by
  unfold strtR;split
  ·exact named_begin hR hi
  ·exact hR) F.order hF.lt _ h2
 unfold stepQ dblQ
 split
 ·refine named_fold (fun R i hi hR=>?_) (List.range F.nX) (fun i hi=>List.mem_range.1 hi) _ h3;unfold dblR;split
  ·split
   ·exact named_begin hR hi
   ·exact hR
  ·exact hR
 ·exact h3
theorem stepQ_at (F:FP) (q:QS):(stepQ F q).at_=q.at_:=by
 unfold stepQ dblQ
 split <;> rfl
theorem PStep.now {F:FP} {p p':PS} (h:PStep F p p'):p'.now=p.now:=by
 obtain⟨rs,_,rfl⟩:=h;unfold dblP
 split <;> rfl
theorem tail_none {F:FP} (hF:FOk F) {q1:QS} (hQ:Quiet F q1) {P:List RR} (hG:SameG P q1.runs) (hN:Named F q1.runs) (hc:∀ c∈candsP F P,c≤q1.at_) {q q':QS} (h:QTrace F q q') :
  ∀ m,q1.at_<m→q = { q1 with at_:=m }→q'.runs=q1.runs∧q'.done=q1.done∧q'.lost=q1.lost:=by
 induction h with
 | last q hn =>
  intro m hm e;subst e;rw[still hF hQ hG hN hm (fun c h1 h2=>by have:=hc c h1;omega)];exact⟨rfl,rfl,rfl⟩
 | more q n q' hn _ ih =>
  intro m hm e;subst e;have hs:=still hF hQ hG hN hm (fun c h1 h2=>by have:=hc c h1;omega);rw[hs]at hn ih;have:=(above_some hn).2.1;exact ih n (by show q1.at_<n;have:m<n:=this;omega) rfl
theorem walk_up {F:FP} (hF:FOk F) {q1:QS} (hQ:Quiet F q1) {P:List RR} (hG:SameG P q1.runs) (hN:Named F q1.runs) (h0:0≤q1.at_) {n:Int} (hn:above q1.at_ (candsP F P)=some n) {q q':QS} (h:QTrace F q q') :
  ∀ m,q1.at_<m→m≤n→q = { q1 with at_:=m }→QTrace F { q1 with at_:=n } q':=by
 obtain⟨n1,n2,n3⟩:=above_some hn;have hnQ:=cands_sub hG hN n1 (by omega)
 induction h with
 | last q hl =>
  intro m hm hmn e
  by_cases hmn':m=n
  ·subst hmn' e;exact QTrace.last _ hl
  ·subst e;have hs:=still hF hQ hG hN hm (fun c h1 h2=>by have:=n3 c h1 h2;omega);rw[hs]at hl;have:n≤m:=above_none hl hnQ;omega
 | more q k q' hk hrest ih =>
  intro m hm hmn e
  by_cases hmn':m=n
  ·subst hmn' e;exact QTrace.more _ k _ hk hrest
  ·subst e;have hs:=still hF hQ hG hN hm (fun c h1 h2=>by have:=n3 c h1 h2;omega);rw[hs]at hk ih;obtain⟨k1,k2,k3⟩:=above_some hk;have:k≤n:=k3 n hnQ (by show m<n;omega);exact ih k (by have:m<k:=k2;omega) this rfl
theorem Sim.at {p:PS} {q:QS} (h:Sim p q) (n m:Int):Sim { p with now:=n } { q with at_:=m }:=⟨h.runs,h.out,h.done,h.lost,h.begun⟩
theorem traces {F:FP} (hF:FOk F) {p p':PS} (hp:PTrace F p p'):∀ {q q':QS},QTrace F q q'→Sim p q→p.now=q.at_→0≤q.at_→Named F q.runs→Sim p' q':=by
 induction hp with
 | last p p' hs hn =>
  intro q q' hq h ht h0 hN;have h1:=h.step ht hF.nodup hs;have ht1:p'.now=(stepQ F q).at_:=by rw[hs.now,stepQ_at];exact ht
  have hN1:=named_step hF hN
  cases hq with
  | last _ _=>exact h1
  | more _ n _ hn2 hrest =>
   have hc:∀ c∈candsP F p'.runs,c≤(stepQ F q).at_:=fun c hc=>by have:=above_none hn hc;omega
   obtain⟨a,b,c⟩:=tail_none hF (quiet_step F q) h1.runs hN1 hc hrest n (above_some hn2).2.1 rfl;exact⟨by rw[a];exact h1.runs,by rw[a];exact h1.out,by rw[b];exact h1.done,by rw[c];exact h1.lost,by rw[a];exact h1.begun⟩
 | more p p1 n p' hs hn _ ih =>
  intro q q' hq h ht h0 hN;have h1:=h.step ht hF.nodup hs;have ht1:p1.now=(stepQ F q).at_:=by rw[hs.now,stepQ_at];exact ht
  have hN1:=named_step hF hN;have h01:0≤(stepQ F q).at_:=by rw[stepQ_at];exact h0
  have hn':above (stepQ F q).at_ (candsP F p1.runs)=some n:=by rw[← ht1];exact hn
  obtain⟨n1,n2,n3⟩:=above_some hn';have hnQ:=cands_sub h1.runs hN1 n1 (by omega)
  cases hq with
  | last _ hl=>have:n≤_:=above_none hl hnQ;omega
  | more _ m _ hm hrest =>
   obtain⟨m1,m2,m3⟩:=above_some hm;have hmn:=m3 n hnQ n2;have hup:=walk_up hF (quiet_step F q) h1.runs hN1 h01 hn' hrest m m2 hmn rfl;exact ih hup (h1.at n n) rfl (by show 0≤n;omega) hN1
structure FFine (F:FP):Prop extends FOk F where
 secs:∀ k i,k<F.nW→i<F.nX→1≤F.secs k i
 wf0:∀ k,k<F.nW→0≤F.wfrom k
 slot:∀ k,k<F.nW→0≤F.slots k
 tri:1≤F.tries
def isEnd (e:Int) (k:Nat) (r:RR):Bool:=r.work==k&&r.end_==e
def onWork (k:Nat) (r:RR):Bool:=r.work==k
def cntAt (R:List RR) (t:Int) (k:Nat):Nat:=R.countP fun r=>r.worker==k&&(decide (r.from_≤t)&&(going r||decide (t<r.to_)))
def DoneBy (R:List RR) (t:Int) (s:Nat):Prop:=∃ d∈R,d.work=s∧d.end_=1∧d.to_≤t
def LostBy (R:List RR) (t:Int) (i:Nat):Nat:=R.countP fun r=>isEnd 2 i r&&decide (r.to_≤t)
def RunsAt (R:List RR) (t:Int) (i:Nat):Prop:=∃ r∈R,r.work=i∧r.from_≤t∧(going r=true∨t<r.to_)
def WaitsAt (F:FP) (R:List RR) (t:Int) (i:Nat):Prop:=(∀ s∈F.after i,DoneBy R t s)∧¬ DoneBy R t i∧¬ RunsAt R t i∧(LostBy R t i:Int)<F.tries
def FreeAt (F:FP) (R:List RR) (t:Int) (k:Nat):Prop:=F.wfrom k≤t∧t<F.wto k∧(cntAt R t k:Int)<F.slots k
def NoneWaits (F:FP) (R:List RR) (t:Int):Prop:=∀ i,i<F.nX→WaitsAt F R t i→∀ k,k<F.nW→FreeAt F R t k→F.fit k i=false
def Seen (F:FP) (R:List RR) (t:Int):Prop:=t=0∨(∃ k,k<F.nW∧t=F.wfrom k)∨∃ r∈R,going r=false∧t=r.to_
structure Inv (F:FP) (lo:Int) (hi:Int) (q:QS):Prop where
 named:Named F q.runs
 t0:0≤q.at_
 fr:∀ r∈q.runs,F.wfrom r.worker≤r.from_∧0≤r.from_∧r.from_<F.wto r.worker∧F.fit r.worker r.work=true
 go:∀ r∈q.runs,going r=true→r.from_≤lo∧hi≤F.wto r.worker∧r.to_=0
 en:∀ r∈q.runs,going r=false→r.from_<r.to_∧r.to_≤q.at_∧r.to_≤F.wto r.worker∧1≤r.end_∧r.end_≤3
 e1:∀ r∈q.runs,r.end_=1→F.endAt r.worker r.work r.from_=some r.to_
 two:∀ i,(goingOf q.runs i).length≤2∧((goingOf q.runs i).Pairwise fun a b=>a.worker≠b.worker)
 don:∀ k,q.done k=true↔∃ r∈q.runs,r.work=k∧r.end_=1
 don1:∀ k,q.runs.countP (isEnd 1 k)≤1
 dong:∀ k,q.done k=true→goingOf q.runs k = []
 doni:∀ k,q.done k=true→∀ r∈q.runs,r.work=k→∀ d∈q.runs,d.work=k→d.end_=1→r.to_≤d.to_
 los:∀ k,q.lost k=(q.runs.countP (isEnd 2 k):Nat)
 cnt:∀ k,(q.runs.countP (onWork k):Int)≤F.tries+1
 cnt0:∀ k,q.done k=false→∀ r∈q.runs,r.work=k→going r=true∨r.end_=2
 ord:∀ r∈q.runs,∀ s∈F.after r.work,DoneBy q.runs r.from_ s
 dis:q.runs.Pairwise fun a b=>¬ (a.from_=b.from_∧a.work=b.work∧a.worker=b.worker)
 hist:∀ t,t≤lo→∀ k,k<F.nW→(cntAt q.runs t k:Int)≤F.slots k
 bus:∀ k,k<F.nW→(busy q.runs k:Int)≤F.slots k
/-! ### ends: a map over all runs -/
theorem countP_le_of {α:Type} {p p':α→Bool}:∀ {l:List α},(∀ x∈l,p x=true→p' x=true)→l.countP p≤l.countP p'
 | [],_=>Nat.le_refl _
 | x::l,h=>by
  have ih:=countP_le_of (l:=l) fun y hy=>h y (List.mem_cons_of_mem _ hy);rw[List.countP_cons,List.countP_cons];have:=h x List.mem_cons_self
  by_cases e:p x=true
  ·rw[if_pos e,if_pos (this e)];omega
  ·rw[if_neg e];split <;> omega
theorem countP_eq_of {α:Type} {p p':α→Bool} {l:List α} (h:∀ x∈l,p x=p' x):l.countP p=l.countP p' :=
 Nat.le_antisymm (countP_le_of fun x hx e=>by rw[← h x hx];exact e) (countP_le_of fun x hx e=>by rw[h x hx];exact e)
theorem countP_or {α:Type} {p p1 p2:α→Bool}:∀ {l:List α},(∀ x∈l,p x=(p1 x||p2 x))→(∀ x∈l,¬ (p1 x=true∧p2 x=true))→l.countP p=l.countP p1+l.countP p2
 | [],_,_=>rfl
 | x::l,h,hd=>by
  have ih:=countP_or (l:=l) (fun y hy=>h y (List.mem_cons_of_mem _ hy)) fun y hy=>hd y (List.mem_cons_of_mem _ hy);rw[List.countP_cons,List.countP_cons,List.countP_cons,ih,h x List.mem_cons_self];have:=hd x List.mem_cons_self
  cases h1:p1 x <;> cases h2:p2 x
  ·simp
  ·simp;omega
  ·simp;omega
  ·exact absurd ⟨h1,h2⟩ this
theorem countP_goingOf (R:List RR) (k:Nat) (p:RR→Bool):(goingOf R k).countP p=R.countP fun r=>p r&&(going r&&r.work==k):=by
 unfold goingOf;rw[List.countP_filter]
theorem goingOf_map {g:RR→RR} {c:RR→Bool} (hn:∀ r,(going r&&c r)=false→g r=r) (hy:∀ r,going r=true→c r=true→going (g r)=false) (hw:∀ r,(g r).work=r.work) (k:Nat) :
  ∀ R:List RR,goingOf (R.map g) k=(goingOf R k).filter fun r=>!c r
 | []=>rfl
 | r::R=>by
  have ih:=goingOf_map hn hy hw k R;unfold goingOf at ih ⊢;rw[List.map_cons]
  cases hg:going r
  ·rw[hn r (by simp[hg]),List.filter_cons_of_neg (by simp[hg]),List.filter_cons_of_neg (by simp[hg]),ih]
  ·cases hk:r.work==k
   ·rw[List.filter_cons_of_neg (by rw[hw,hk];simp),List.filter_cons_of_neg (by rw[hk];simp),ih]
   ·cases hc:c r
    ·rw[hn r (by simp[hc]),List.filter_cons_of_pos (by rw[hg,hk];rfl),List.filter_cons_of_pos (by rw[hg,hk];rfl),List.filter_cons_of_pos (by simp[hc]),ih]
    ·rw[List.filter_cons_of_neg (by rw[hy r hg hc];simp),List.filter_cons_of_pos (by rw[hg,hk];rfl),List.filter_cons_of_neg (by simp[hc]),ih]
theorem hasDone_ex {F:FP} {t:Int} {R:List RR} {k:Nat} (h:hasDone F t R k=true):∃ r∈R,r.work=k∧isBest F t R r=true:=by
 unfold hasDone at h;rw[List.any_eq_true]at h;obtain⟨r0,h0,hc0⟩:=h;have aux:∀ (n:Nat) (r:RR),r∈R→r.work=k→cand F t r=true→r.worker≤n→∃ b∈R,b.work=k∧isBest F t R b=true:=by
  intro n
  induction n with
  | zero =>
   intro r hr hw hc hn;refine⟨r,hr,hw,?_⟩;unfold isBest;rw[hc,Bool.true_and,List.all_eq_true];intro x hx;have:decide (r.worker≤x.worker)=true:=by simp;omega
   rw[this,Bool.or_true]
  | succ n ih =>
   intro r hr hw hc hn
   by_cases hb:isBest F t R r=true
   ·exact⟨r,hr,hw,hb⟩
   ·unfold isBest at hb;rw[hc,Bool.true_and,List.all_eq_true]at hb;have:∃ x∈R,(x.work==r.work&&cand F t x)=true∧¬ r.worker≤x.worker:=by
     apply Classical.byContradiction;intro hno;apply hb;intro x hx
     cases hcx:(x.work==r.work&&cand F t x)
     ·rfl
     ·have:r.worker≤x.worker:=Classical.byContradiction fun h=>hno ⟨x,hx,hcx,h⟩;simp[this]
    obtain⟨x,hx,hcx,hlt⟩:=this;simp only[Bool.and_eq_true,beq_iff_eq]at hcx;exact ih x hx (by rw[hcx.1,hw]) hcx.2 (by omega)
 simp only[Bool.and_eq_true,beq_iff_eq]at hc0;exact aux r0.worker r0 h0 hc0.1 hc0.2 (Nat.le_refl _)
theorem isBest_cand {F:FP} {t:Int} {R:List RR} {r:RR} (h:isBest F t R r=true):cand F t r=true:=by
 unfold isBest at h;simp only[Bool.and_eq_true]at h;exact h.1
theorem cand_going {F:FP} {t:Int} {r:RR} (h:cand F t r=true):going r=true∧F.endAt r.worker r.work r.from_=some t:=by
 unfold cand at h;simp only[Bool.and_eq_true,beq_iff_eq]at h;exact h
theorem best_unique {F:FP} {t:Int} {R:List RR} {k:Nat} (h2:(goingOf R k).Pairwise fun a b=>a.worker≠b.worker):(goingOf R k).countP (isBest F t R)≤1:=by
 have hb:∀ a∈goingOf R k,∀ b∈goingOf R k,isBest F t R a=true→isBest F t R b=true→a.worker≤b.worker:=by
  intro a ha b hb hA hB;unfold isBest at hA;simp only[Bool.and_eq_true,List.all_eq_true]at hA;obtain⟨b1,b2⟩:=List.mem_filter.1 hb;obtain⟨a1,a2⟩:=List.mem_filter.1 ha;simp only[Bool.and_eq_true,beq_iff_eq]at a2 b2;have:=hA.2 b b1;rw[b2.2,a2.2,isBest_cand hB]at this
  simpa using this
 have aux:∀ l:List RR,(l.Pairwise fun a b=>a.worker≠b.worker)→(∀ a∈l,∀ b∈l,isBest F t R a=true→isBest F t R b=true→a.worker≤b.worker)→l.countP (isBest F t R)≤1:=by
  intro l
  induction l with
  | nil=>intro _ _;exact Nat.zero_le _
  | cons x l ih =>
   intro hp hq;obtain⟨p1,p2⟩:=List.pairwise_cons.1 hp;rw[List.countP_cons]
   by_cases hx:isBest F t R x=true
   ·rw[if_pos hx];have:l.countP (isBest F t R)=0:=by
     rw[List.countP_eq_zero];intro y hy hyb;have a:=hq x List.mem_cons_self y (List.mem_cons_of_mem _ hy) hx hyb;have b:=hq y (List.mem_cons_of_mem _ hy) x List.mem_cons_self hyb hx;exact p1 y hy (by omega)
    omega
   ·rw[if_neg hx];exact ih p2 fun a ha b hb'=>hq a (List.mem_cons_of_mem _ ha) b (List.mem_cons_of_mem _ hb')
 exact aux _ h2 hb
theorem finRun_cases {F:FP} {t:Int} {R:List RR} (r:RR):finRun F t R r=r∨(going r=true∧hasDone F t R r.work=true∧finRun F t R r = { r with to_:=t,end_:=if isBest F t R r=true then 1 else 3 }):=by
 by_cases h:(going r&&hasDone F t R r.work)=true
 ·simp only[Bool.and_eq_true]at h;exact .inr ⟨h.1,h.2,finRun_yes (by rw[h.1,h.2];rfl)⟩
 ·exact .inl (finRun_no (by simpa using h))
theorem loseRun_cases {F:FP} {t:Int} (r:RR):loseRun F t r=r∨(going r=true∧goes F r.worker t=true∧loseRun F t r = { r with to_:=t,end_:=2 }):=by
 by_cases h:(going r&&goes F r.worker t)=true
 ·simp only[Bool.and_eq_true]at h;exact .inr ⟨h.1,h.2,loseRun_yes (by rw[h.1,h.2];rfl)⟩
 ·exact .inl (loseRun_no (by simpa using h))
theorem end1_not_going {r:RR} (h:r.end_=1):going r=false:=by unfold going;rw[h];rfl
theorem end2_not_going {r:RR} (h:r.end_=2):going r=false:=by unfold going;rw[h];rfl
theorem going_end {r:RR} (h:going r=true):r.end_=0:=by unfold going at h;simpa using h
theorem pairwise_map_key {g:RR→RR} (hg:∀ r,(g r).work=r.work∧(g r).worker=r.worker∧(g r).from_=r.from_) {R:List RR} (h:R.Pairwise fun a b=>¬ (a.from_=b.from_∧a.work=b.work∧a.worker=b.worker)) :
  (R.map g).Pairwise fun a b=>¬ (a.from_=b.from_∧a.work=b.work∧a.worker=b.worker):=by
 rw[List.pairwise_map];refine h.imp fun {a b} hab=>?_;rw[(hg a).1,(hg a).2.1,(hg a).2.2,(hg b).1,(hg b).2.1,(hg b).2.2];exact hab
structure Turn (t:Int) (g:RR→RR):Prop where
 key:∀ r,(g r).work=r.work∧(g r).worker=r.worker∧(g r).from_=r.from_
 old:∀ r,g r=r∨(going r=true∧going (g r)=false∧(g r).to_=t)
theorem fin_turn (F:FP) (t:Int) (R:List RR):Turn t (finRun F t R):=⟨finRun_work,fun r=>by
 rcases finRun_cases (F:=F) (t:=t) (R:=R) r with h | ⟨h1,h2,h3⟩
 ·exact .inl h
 ·exact .inr ⟨h1,finRun_ended h1 h2,by rw[h3]⟩⟩
theorem lose_turn (F:FP) (t:Int):Turn t (loseRun F t):=⟨loseRun_work,fun r=>by
 rcases loseRun_cases (F:=F) (t:=t) r with h | ⟨h1,h2,h3⟩
 ·exact .inl h
 ·exact .inr ⟨h1,loseRun_ended h1 h2,by rw[h3]⟩⟩
theorem Turn.cnt {t:Int} {g:RR→RR} (h:Turn t g) {s:Int} (hs:s<t) (R:List RR) (k:Nat):cntAt (R.map g) s k=cntAt R s k:=by
 unfold cntAt;rw[List.countP_map];refine countP_eq_of fun r _=>?_;simp only[Function.comp];rw[(h.key r).2.1,(h.key r).2.2]
 rcases h.old r with e | ⟨h1,h2,h3⟩
 ·rw[e]
 ·rw[h1,h2,h3];simp[hs]
theorem Turn.busy_le {t:Int} {g:RR→RR} (h:Turn t g) (R:List RR) (k:Nat):busy (R.map g) k≤busy R k:=by
 unfold busy;rw[List.countP_map];refine countP_le_of fun r _ hx=>?_;simp only[Function.comp]at hx;rw[(h.key r).2.1]at hx
 rcases h.old r with e | ⟨h1,h2,h3⟩
 ·rw[e]at hx;exact hx
 ·rw[h2]at hx;simp at hx
theorem Turn.doneBy {t:Int} {g:RR→RR} (h:Turn t g) {R:List RR} {s:Int} {i:Nat} (hd:DoneBy R s i):DoneBy (R.map g) s i:=by
 obtain⟨d,hd,h1,h2,h3⟩:=hd;refine⟨g d,List.mem_map_of_mem hd,(h.key d).1.trans h1,?_,?_⟩ <;>
 ·rcases h.old d with e | ⟨a,_,_⟩
  ·rw[e];assumption
  ·rw[end1_not_going h2]at a;cases a
end Go.Proofs.YtbnkoefljcekbaaGreatDoor