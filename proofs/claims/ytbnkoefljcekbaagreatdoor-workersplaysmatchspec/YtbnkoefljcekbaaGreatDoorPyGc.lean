/-
 Several texts of mine as one, without what is not wanted here: XPlS.
-/
import Derived.Test.YtbnkoefljcekbaaGreatDoorPyGb
set_option linter.unusedVariables false
set_option linter.unusedSimpArgs false
set_option maxRecDepth 100000
set_option maxHeartbeats 8000000
namespace Go.Proofs.YtbnkoefljcekbaaGreatDoor
theorem perm_any {α:Type} {l m:List α} (h:l.Perm m) (p:α→Bool):l.any p=m.any p:=by
 rw[Bool.eq_iff_iff,List.any_eq_true,List.any_eq_true];exact⟨fun ⟨x,hx,e⟩=>⟨x,h.mem_iff.1 hx,e⟩,fun ⟨x,hx,e⟩=>⟨x,h.mem_iff.2 hx,e⟩⟩
theorem filter_any {α:Type} (l:List α) (c p:α→Bool) (h:∀ x,p x=true→c x=true):(l.filter c).any p=l.any p:=by
 rw[Bool.eq_iff_iff,List.any_eq_true,List.any_eq_true];exact⟨fun ⟨x,hx,e⟩=>⟨x,(List.mem_filter.1 hx).1,e⟩,fun ⟨x,hx,e⟩=>⟨x,List.mem_filter.2 ⟨hx,h x e⟩,e⟩⟩
def SameG (P Q:List RR):Prop:=P.Perm (Q.filter going)
section
variable {F:FP} {P Q:List RR} {t:Int}
theorem SameG.any (h:SameG P Q) (p:RR→Bool) (hp:∀ x,p x=true→going x=true):P.any p=Q.any p:=by
 rw[perm_any h,filter_any _ _ _ hp]
theorem SameG.countP (h:SameG P Q) (p:RR→Bool) (hp:∀ x,p x=true→going x=true):P.countP p=Q.countP p:=by
 rw[List.Perm.countP_eq p h,List.countP_filter]
 congr 1
 funext x
 cases hx:p x
 ·rfl
 ·rw[hp x hx];rfl
theorem SameG.hasDone (h:SameG P Q) (k:Nat):hasDone F t P k=hasDone F t Q k:=h.any _ fun x hx=>by
 simp only[cand,Bool.and_eq_true]at hx;exact hx.2.1
theorem all_eq_not_any {α:Type} (l:List α) (p:α→Bool):l.all p = !l.any fun x=>!p x:=by
 rw[List.not_any_eq_all_not];simp
theorem SameG.isBest (h:SameG P Q) (r:RR):isBest F t P r=isBest F t Q r:=by
 unfold Go.Proofs.YtbnkoefljcekbaaGreatDoor.isBest;rw[all_eq_not_any,all_eq_not_any,h.any];intro x hx;simp only[Bool.not_or,Bool.not_not,Bool.and_eq_true,cand]at hx;exact hx.1.2.1
theorem SameG.finRun (h:SameG P Q) (r:RR):finRun F t P r=finRun F t Q r:=by
 unfold Go.Proofs.YtbnkoefljcekbaaGreatDoor.finRun;rw[h.hasDone,h.isBest]
theorem SameG.lostNow (h:SameG P Q) (k:Nat):lostNow F t P k=lostNow F t Q k:=h.countP _ fun x hx=>by
 simp only[Bool.and_eq_true]at hx;exact hx.2.1
theorem SameG.busy (h:SameG P Q) (k:Nat):busy P k=busy Q k:=h.countP _ fun x hx=>by
 simp only[Bool.and_eq_true]at hx;exact hx.1
theorem SameG.canW (h:SameG P Q) (i:Nat) (but:Option Nat):canW F t P i but=canW F t Q i but:=by
 funext k
 unfold Go.Proofs.YtbnkoefljcekbaaGreatDoor.canW;rw[h.busy]
theorem SameG.runsAny (h:SameG P Q) (i:Nat):runsAny P i=runsAny Q i:=h.any _ fun x hx=>by
 simp only[Bool.and_eq_true]at hx;exact hx.1
theorem SameG.snoc (h:SameG P Q) {r:RR} (hr:going r=true):SameG (P ++ [r]) (Q ++ [r]):=by
 unfold SameG at h ⊢;rw[List.filter_append,List.filter_cons_of_pos hr,List.filter_nil];exact h.append_right _
theorem SameG.goingOf (h:SameG P Q) (i:Nat):(goingOf P i).Perm (goingOf Q i):=by
 unfold Go.Proofs.YtbnkoefljcekbaaGreatDoor.goingOf;have h2:=h.filter (fun r=>going r&&r.work==i);rw[List.filter_filter]at h2;have e:(fun r:RR=>going r&&r.work==i&&going r)=fun r:RR=>going r&&r.work==i:=by
  funext r;cases going r <;> simp
 rw[e]at h2;exact h2
theorem SameG.perm {P':List RR} (h:SameG P Q) (hp:P'.Perm P):SameG P' Q:=hp.trans h
end
theorem map_going (c:RR→Bool) (g:RR→RR) (hn:∀ r,(going r&&c r)=false→g r=r) (hy:∀ r,going r=true→c r=true→going (g r)=false) :
  ∀ L:List RR,(L.map g).filter going=(L.filter going).filter fun r=>!c r
 | []=>rfl
 | r::L=>by
  have ih:=map_going c g hn hy L;rw[List.map_cons]
  cases hg:going r
  ·rw[hn r (by simp[hg]),List.filter_cons_of_neg (by simp[hg]),List.filter_cons_of_neg (by simp[hg]),ih]
  ·cases hc:c r
   ·rw[hn r (by simp[hc]),List.filter_cons_of_pos hg,List.filter_cons_of_pos hg,List.filter_cons_of_pos (by simp[hc]),ih]
   ·rw[List.filter_cons_of_neg (by rw[hy r hg hc];simp),List.filter_cons_of_pos hg,List.filter_cons_of_neg (by simp[hc]),ih]
theorem map_ended (c:RR→Bool) (g:RR→RR) (hn:∀ r,(going r&&c r)=false→g r=r) (hy:∀ r,going r=true→c r=true→going (g r)=false) :
  ∀ L:List RR,((L.map g).filter fun r=>!going r).Perm ((L.filter fun r=>!going r)++((L.filter going).filter c).map g)
 | []=>List.Perm.refl _
 | r::L=>by
  have ih:=map_ended c g hn hy L;rw[List.map_cons]
  cases hg:going r
  ·rw[hn r (by simp[hg]),List.filter_cons_of_pos (by simp[hg]),List.filter_cons_of_pos (by simp[hg]),List.filter_cons_of_neg (by simp[hg]),List.cons_append];exact ih.cons r
  ·cases hc:c r
   ·rw[hn r (by simp[hc]),List.filter_cons_of_neg (by simp[hg]),List.filter_cons_of_neg (by simp[hg]),List.filter_cons_of_pos hg,List.filter_cons_of_neg (by simp[hc])];exact ih
   ·rw[List.filter_cons_of_pos (by rw[hy r hg hc];rfl),List.filter_cons_of_neg (by simp[hg]),List.filter_cons_of_pos hg,List.filter_cons_of_pos hc,List.map_cons];exact(ih.cons (g r)).trans List.perm_middle.symm
structure Sim (p:PS) (q:QS):Prop where
 runs:SameG p.runs q.runs
 out:p.out.Perm (q.runs.filter fun r=>!going r)
 done:∀ k,p.done k=q.done k
 lost:∀ k,p.lost k=q.lost k
 begun:∀ k,p.begun k=(q.runs.countP fun r=>r.work==k:Nat)
def IsLast (R:List RR) (k:Nat) (v:Int):Prop :=
 (∀ r∈R,r.work=k→(r.end_=1∨r.end_=2)→r.to_≤v)∧(v=0∨∃ r∈R,r.work=k∧(r.end_=1∨r.end_=2)∧r.to_=v)
theorem finRun_no {F:FP} {t:Int} {R:List RR} {r:RR} (h:(going r&&hasDone F t R r.work)=false):finRun F t R r=r:=by
 unfold finRun;rw[h];rfl
theorem finRun_yes {F:FP} {t:Int} {R:List RR} {r:RR} (h:(going r&&hasDone F t R r.work)=true):finRun F t R r = { r with to_:=t,end_:=if isBest F t R r=true then 1 else 3 }:=by
 unfold finRun;rw[if_pos h]
theorem finRun_work {F:FP} {t:Int} {R:List RR} (r:RR):(finRun F t R r).work=r.work∧(finRun F t R r).worker=r.worker∧(finRun F t R r).from_=r.from_:=by
 unfold finRun;split <;> exact⟨rfl,rfl,rfl⟩
theorem finRun_ended {F:FP} {t:Int} {R:List RR} {r:RR} (h1:going r=true) (h2:hasDone F t R r.work=true):going (finRun F t R r)=false:=by
 rw[finRun_yes (by rw[h1,h2];rfl)];unfold going
 by_cases h:isBest F t R r=true
 ·simp[h]
 ·simp[h]
theorem loseRun_no {F:FP} {t:Int} {r:RR} (h:(going r&&goes F r.worker t)=false):loseRun F t r=r:=by
 unfold loseRun;rw[h];rfl
theorem loseRun_yes {F:FP} {t:Int} {r:RR} (h:(going r&&goes F r.worker t)=true):loseRun F t r = { r with to_:=t,end_:=2 }:=by
 unfold loseRun;rw[if_pos h]
theorem loseRun_work {F:FP} {t:Int} (r:RR):(loseRun F t r).work=r.work∧(loseRun F t r).worker=r.worker∧(loseRun F t r).from_=r.from_:=by
 unfold loseRun;split <;> exact⟨rfl,rfl,rfl⟩
theorem loseRun_ended {F:FP} {t:Int} {r:RR} (h1:going r=true) (h2:goes F r.worker t=true):going (loseRun F t r)=false:=by
 rw[loseRun_yes (by rw[h1,h2];rfl)];rfl
theorem countP_map_work {g:RR→RR} (hg:∀ r,(g r).work=r.work) (k:Nat) (L:List RR):(L.map g).countP (fun r=>r.work==k)=L.countP fun r=>r.work==k:=by
 rw[List.countP_map]
 congr 1
 funext r
 simp[hg r]
theorem filter_all {α:Type} {l:List α} {p:α→Bool} (h:∀ x∈l,p x=true):l.filter p=l:=List.filter_eq_self.2 h
theorem Sim.fin {F:FP} {p:PS} {q:QS} (h:Sim p q) (ht:p.now=q.at_):Sim (finP F p) (finQ F q):=by
 have hD:∀ k,hasDone F p.now p.runs k=hasDone F q.at_ q.runs k:=fun k=>by rw[ht];exact h.runs.hasDone k
 have hR:∀ r,finRun F p.now p.runs r=finRun F q.at_ q.runs r:=fun r=>by rw[ht];exact h.runs.finRun r
 have e1:(fun r:RR=>hasDone F p.now p.runs r.work)=fun r=>hasDone F q.at_ q.runs r.work:=by funext r;exact hD _
 have e2:(fun r:RR=>!hasDone F p.now p.runs r.work)=fun r=>!hasDone F q.at_ q.runs r.work:=by funext r;rw[hD]
 have e3:finRun F p.now p.runs=finRun F q.at_ q.runs:=by funext r;exact hR r
 have hg:=map_going (fun r=>hasDone F q.at_ q.runs r.work) (finRun F q.at_ q.runs) (fun r h=>finRun_no h) (fun r h1 h2=>finRun_ended h1 h2) q.runs;have hE:=map_ended (fun r=>hasDone F q.at_ q.runs r.work) (finRun F q.at_ q.runs) (fun r h=>finRun_no h) (fun r h1 h2=>finRun_ended h1 h2) q.runs;refine⟨?_,?_,fun k=>?_,h.lost,fun k=>?_⟩
 ·show SameG (p.runs.filter _) (q.runs.map _);unfold SameG;rw[hg,e2];exact h.runs.filter _
 ·show (p.out++_).Perm ((q.runs.map _).filter _);rw[e1,e3];exact(h.out.append ((h.runs.filter _).map _)).trans hE.symm
 ·show (p.done k||_)=(q.done k||_);rw[hD,h.done]
 ·show p.begun k=_;rw[h.begun]
  congr 1
  exact(countP_map_work (fun r=>(finRun_work r).1) k _).symm
theorem Sim.lose {F:FP} {p:PS} {q:QS} (h:Sim p q) (ht:p.now=q.at_):Sim (loseP F p) (loseQ F q):=by
 have hg:=map_going (fun r=>goes F r.worker q.at_) (loseRun F q.at_) (fun r h=>loseRun_no h) (fun r h1 h2=>loseRun_ended h1 h2) q.runs;have hE:=map_ended (fun r=>goes F r.worker q.at_) (loseRun F q.at_) (fun r h=>loseRun_no h) (fun r h1 h2=>loseRun_ended h1 h2) q.runs;refine⟨?_,?_,h.done,fun k=>?_,fun k=>?_⟩
 ·show SameG (p.runs.filter _) (q.runs.map _);unfold SameG;rw[hg,ht];exact h.runs.filter _
 ·show (p.out++_).Perm ((q.runs.map _).filter _);rw[ht];exact(h.out.append ((h.runs.filter _).map _)).trans hE.symm
 ·show p.lost k+_=q.lost k+_;rw[h.lost,ht,h.runs.lostNow]
 ·show p.begun k=_;rw[h.begun]
  congr 1
  exact(countP_map_work (fun r=>(loseRun_work r).1) k _).symm
def SimX (x:List RR × (Nat→Int)) (R:List RR):Prop:=SameG x.1 R∧∀ k,x.2 k=(R.countP fun r=>r.work==k:Nat)
theorem SimX.begin {F:FP} {t:Int} {x:List RR × (Nat→Int)} {R:List RR} (h:SimX x R) (i:Nat) (but:Option Nat):SimX (beginP F t i but x) (beginR F t i but R):=by
 unfold beginP beginR;rw[h.1.canW]
 cases hb:bestW (canW F t R i but) F.speed F.nW with
 | none=>exact h
 | some k =>
  refine⟨h.1.snoc rfl,fun j=>?_⟩;simp only[List.countP_append,List.countP_singleton]
  by_cases e:j=i
  ·subst e;rw[if_pos rfl,h.2];simp
  ·rw[if_neg e,h.2];have:(i==j)=false:=by simpa using fun h=>e h.symm
   simp[this]
theorem beginR_ext (F:FP) (t:Int) (i:Nat) (but:Option Nat) (R:List RR):∃ X,beginR F t i but R=R++X∧∀ r∈X,r.work=i∧r.from_=t∧r.to_=0∧r.end_=0:=by
 unfold beginR
 split
 ·exact⟨[],by simp,fun r h=>by cases h⟩
 ·exact⟨_,rfl,fun r h=>by rw[List.mem_singleton.1 h];exact⟨rfl,rfl,rfl,rfl⟩⟩
theorem runsAny_begin {F:FP} {t:Int} {i j:Nat} {but:Option Nat} {R:List RR} (h:j≠i):runsAny (beginR F t i but R) j=runsAny R j:=by
 obtain⟨X,e,hX⟩:=beginR_ext F t i but R;rw[e];unfold runsAny;rw[List.any_append];have:X.any (fun r=>going r&&r.work==j)=false:=by
  rw[List.any_eq_false];intro r hr;rw[(hX r hr).1];simp[Ne.symm h]
 rw[this,Bool.or_false]
theorem canS_begin {F:FP} {t:Int} {dn:Nat→Bool} {ls:Nat→Int} {i j:Nat} {but:Option Nat} {R:List RR} (h:j≠i):canS F dn ls (beginR F t i but R) j=canS F dn ls R j:=by
 unfold canS;rw[runsAny_begin h]
theorem start_filter (F:FP) (q:QS):∀ (o:List Nat) (R0 R:List RR),o.Nodup→(∀ i∈o,canS F q.done q.lost R i=canS F q.done q.lost R0 i) →
  o.foldl (strtR F q) R=(o.filter fun i=>canS F q.done q.lost R0 i).foldl (fun R i=>beginR F q.at_ i none R) R
 | [],_,_,_,_=>rfl
 | i::o,R0,R,hn,hc=>by
  obtain⟨hn1,hn2⟩:=List.nodup_cons.1 hn;have hi:=hc i (List.mem_cons_self);rw[List.foldl_cons];unfold strtR;rw[hi]
  cases hq:canS F q.done q.lost R0 i
  ·rw[List.filter_cons_of_neg (by simp[hq])];exact start_filter F q o R0 R hn2 fun j hj=>hc j (List.mem_cons_of_mem _ hj)
  ·rw[List.filter_cons_of_pos hq,List.foldl_cons,if_pos rfl];refine start_filter F q o R0 _ hn2 fun j hj=>?_;rw[canS_begin (by intro e;subst e;exact hn1 hj)];exact hc j (List.mem_cons_of_mem _ hj)
theorem SimX.fold {F:FP} {t:Int}:∀ (o:List Nat) (x:List RR × (Nat→Int)) (R:List RR),SimX x R→SimX (o.foldl (fun x i=>beginP F t i none x) x) (o.foldl (fun R i=>beginR F t i none R) R)
 | [],x,R,h=>h
 | i::o,x,R,h=>SimX.fold o _ _ (h.begin i none)
theorem Sim.start {F:FP} {p:PS} {q:QS} (h:Sim p q) (ht:p.now=q.at_) (hn:F.order.Nodup):Sim (startP F p) (startQ F q):=by
 have hc:(fun i=>canS F p.done p.lost p.runs i)=fun i=>canS F q.done q.lost q.runs i:=by
  funext i
  unfold canS readyB;rw[h.done,h.lost,h.runs.runsAny,show p.done=q.done from funext h.done]
 have hX:SimX (p.runs,p.begun) q.runs:=⟨h.runs,h.begun⟩;have hf:=hX.fold (F:=F) (t:=q.at_) (F.order.filter fun i=>canS F q.done q.lost q.runs i);have hs:=start_filter F q F.order q.runs q.runs hn (fun _ _=>rfl);rw[← hs]at hf;have hp:startP F p = { p with runs:=((F.order.filter fun i=>canS F q.done q.lost q.runs i).foldl (fun x i=>beginP F q.at_ i none x) (p.runs,p.begun)).1,begun:=((F.order.filter fun i=>canS F q.done q.lost q.runs i).foldl (fun x i=>beginP F q.at_ i none x) (p.runs,p.begun)).2 }:=by
  unfold startP;simp only[hc,ht]
 rw[hp];refine⟨hf.1,?_,h.done,h.lost,hf.2⟩;refine h.out.trans ?_;show (q.runs.filter _).Perm ((F.order.foldl (strtR F q) q.runs).filter _);rw[hs];have key:∀ (o:List Nat) (R:List RR),(o.foldl (fun R i=>beginR F q.at_ i none R) R).filter (fun r=>!going r)=R.filter fun r=>!going r:=by
  intro o
  induction o with
  | nil=>intro R;rfl
  | cons i o ih =>
   intro R;rw[List.foldl_cons,ih];obtain⟨X,e,hX⟩:=beginR_ext F q.at_ i none R;rw[e,List.filter_append];have:X.filter (fun r=>!going r) = []:=List.filter_eq_nil_iff.2 fun r hr=>by simp[going,(hX r hr).2.2.2]
   rw[this,List.append_nil]
 rw[key]
theorem SimX.dbl1 {F:FP} {t:Int} {l1 l2:Nat→Int} {x:List RR × (Nat→Int)} {R:List RR} (h:SimX x R) (hl:∀ k,l1 k=l2 k) (i:Nat):SimX (dblX F t l1 x i) (dblR F t l2 R i):=by
 have hp:=h.1.goingOf i;unfold dblX dblR;rw[hl]
 match e1:goingOf x.1 i,e2:goingOf R i with
 | [],[]=>exact h
 | [],_::_=>rw[e1,e2]at hp;have:=hp.length_eq;simp at this
 | _::_,[]=>rw[e1,e2]at hp;have:=hp.length_eq;simp at this
 | [a],[b] =>
  rw[e1,e2]at hp;obtain rfl:a=b:=by have:=hp.mem_iff (a:=a);simpa using this
  simp only
  split
  ·exact h.begin i _
  ·exact h
 | [a],b::c::d=>rw[e1,e2]at hp;have:=hp.length_eq;simp at this
 | b::c::d,[a]=>rw[e1,e2]at hp;have:=hp.length_eq;simp at this
 | b::c::d,b'::c'::d'=>exact h
theorem SimX.dbls {F:FP} {t:Int} {l1 l2:Nat→Int} (hl:∀ k,l1 k=l2 k):∀ (o:List Nat) (x:List RR × (Nat→Int)) (R:List RR),SimX x R→SimX (o.foldl (dblX F t l1) x) (o.foldl (dblR F t l2) R)
 | [],x,R,h=>h
 | i::o,x,R,h=>SimX.dbls hl o _ _ (h.dbl1 hl i)
theorem dblR_ext (F:FP) (t:Int) (ls:Nat→Int) (R:List RR) (i:Nat):∃ X,dblR F t ls R i=R++X∧∀ r∈X,r.work=i∧r.from_=t∧r.to_=0∧r.end_=0:=by
 unfold dblR
 split
 ·split
  ·exact beginR_ext _ _ _ _ _
  ·exact⟨[],by simp,fun r h=>by cases h⟩
 ·exact⟨[],by simp,fun r h=>by cases h⟩
theorem strtR_ext (F:FP) (q:QS) (R:List RR) (i:Nat):∃ X,strtR F q R i=R++X∧∀ r∈X,r.work=i∧r.from_=q.at_∧r.to_=0∧r.end_=0:=by
 unfold strtR
 split
 ·exact beginR_ext _ _ _ _ _
 ·exact⟨[],by simp,fun r h=>by cases h⟩
theorem fold_ext {f:List RR→Nat→List RR} {t:Int} (hf:∀ R i,∃ X,f R i=R++X∧∀ r∈X,r.work=i∧r.from_=t∧r.to_=0∧r.end_=0) :
  ∀ (o:List Nat) (R:List RR),∃ X,o.foldl f R=R++X∧∀ r∈X,r.work∈o∧r.from_=t∧r.to_=0∧r.end_=0
 | [],R=>⟨[],by simp,fun r h=>by cases h⟩
 | i::o,R=>by
  obtain⟨X,e,hX⟩:=hf R i;obtain⟨Y,e2,hY⟩:=fold_ext hf o (R++X);refine⟨X++Y,?_,fun r hr=>?_⟩
  ·rw[List.foldl_cons,e,e2,List.append_assoc]
  ·rcases List.mem_append.1 hr with h | h
   ·obtain⟨a,b⟩:=hX r h;exact⟨by rw[a];exact List.mem_cons_self,b⟩
   ·obtain⟨a,b⟩:=hY r h;exact⟨List.mem_cons_of_mem _ a,b⟩
theorem Sim.dbl {F:FP} {p:PS} {q:QS} (h:Sim p q) (ht:p.now=q.at_):Sim (dblP F p) (dblQ F q):=by
 unfold dblP dblQ
 by_cases hd:F.doubles=true
 ·rw[if_pos hd,if_pos hd,ht];have hX:SimX (p.runs,p.begun) q.runs:=⟨h.runs,h.begun⟩;have hf:=hX.dbls (F:=F) (t:=q.at_) h.lost (List.range F.nX);refine⟨hf.1,?_,h.done,h.lost,hf.2⟩;obtain⟨X,e,hX⟩:=fold_ext (dblR_ext F q.at_ q.lost) (List.range F.nX) q.runs;show p.out.Perm (((List.range F.nX).foldl (dblR F q.at_ q.lost) q.runs).filter _);rw[e,List.filter_append];have:X.filter (fun r=>!going r) = []:=List.filter_eq_nil_iff.2 fun r hr=>by simp[going,(hX r hr).2.2.2]
  rw[this,List.append_nil];exact h.out
 ·rw[if_neg hd,if_neg hd];exact h
theorem Sim.step {F:FP} {p p':PS} {q:QS} (h:Sim p q) (ht:p.now=q.at_) (hn:F.order.Nodup) (hs:PStep F p p'):Sim p' (stepQ F q):=by
 obtain⟨rs,hp,rfl⟩:=hs;have h0:Sim { p with runs:=rs } q:=⟨h.runs.perm hp,h.out,h.done,h.lost,h.begun⟩;have e1:(startP F (loseP F (finP F { p with runs:=rs }))).now=(startQ F (loseQ F (finQ F q))).at_:=ht;exact(((h0.fin (F:=F) ht).lose (F:=F) ht).start ht hn).dbl e1
end Go.Proofs.YtbnkoefljcekbaaGreatDoor