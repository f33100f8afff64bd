/-
 Several texts of mine as one, without what is not wanted here: XPlK, XGraph, XSets, XOrd, XCrD.
-/
import Derived.Test.YtbnkoefljcekbaaGreatDoorPyGe
import Derived.Lib.SlTrimSet
import Derived.Lib.Bytealg
import Derived.Lib.Small
set_option linter.unusedVariables false
set_option linter.unusedSimpArgs false
set_option maxRecDepth 100000
set_option maxHeartbeats 8000000
namespace Go.Proofs.YtbnkoefljcekbaaGreatDoor
/-! ### moments that lie behind are not changed -/
theorem Turn.doneBy_inv {t:Int} {g:RR→RR} (h:Turn t g) {R:List RR} {s:Int} (hs:s<t) {i:Nat} (hd:DoneBy (R.map g) s i):DoneBy R s i:=by
 obtain⟨d,hd,a,b,c⟩:=hd;obtain⟨r,hr,rfl⟩:=List.mem_map.1 hd
 rcases h.old r with e | ⟨_,_,e⟩
 ·rw[e]at a b c;exact⟨r,hr,a,b,c⟩
 ·omega
theorem Turn.runsAt {t:Int} {g:RR→RR} (h:Turn t g) {R:List RR} {s:Int} (hs:s<t) {i:Nat} (hd:RunsAt R s i):RunsAt (R.map g) s i:=by
 obtain⟨r,hr,a,b,c⟩:=hd;refine⟨g r,List.mem_map_of_mem hr,(h.key r).1.trans a,by rw[(h.key r).2.2];exact b,?_⟩
 rcases h.old r with e | ⟨_,_,e⟩
 ·rw[e];exact c
 ·right;omega
theorem Turn.lostBy {t:Int} {g:RR→RR} (h:Turn t g) {R:List RR} {s:Int} (hs:s<t) (i:Nat):LostBy (R.map g) s i=LostBy R s i:=by
 unfold LostBy;rw[List.countP_map];refine countP_eq_of fun r _=>?_;simp only[Function.comp]
 rcases h.old r with e | ⟨h1,h2,h3⟩
 ·rw[e]
 ·have e1:(isEnd 2 i (g r)&&decide ((g r).to_≤s))=false:=by
   rw[h3];have:decide (t≤s)=false:=by simp;omega
   rw[this,Bool.and_false]
  have e2:isEnd 2 i r=false:=by
   unfold isEnd;rw[going_end h1];simp
  rw[e1,e2];rfl
theorem Turn.none {F:FP} {t:Int} {g:RR→RR} (h:Turn t g) {R:List RR} {s:Int} (hs:s<t) (hn:NoneWaits F R s):NoneWaits F (R.map g) s:=by
 intro i hi ⟨a,b,c,d⟩ k hk ⟨e1,e2,e3⟩;refine hn i hi ⟨fun s' hs'=>h.doneBy_inv hs (a s' hs'),fun hd=>b (h.doneBy hd),fun hd=>c (h.runsAt hs hd),by rw[← h.lostBy hs];exact d⟩ k hk ⟨e1,e2,by rw[← h.cnt hs];exact e3⟩
theorem Turn.seen {F:FP} {t:Int} {g:RR→RR} (h:Turn t g) {R:List RR} {s:Int} (hs:s<t) (hn:Seen F (R.map g) s):Seen F R s:=by
 rcases hn with e | e | ⟨r',hr',hg,e⟩
 ·exact .inl e
 ·exact .inr (.inl e)
 ·obtain⟨r,hr,rfl⟩:=List.mem_map.1 hr'
  rcases h.old r with e2 | ⟨_,_,e2⟩
  ·rw[e2]at hg e;exact .inr (.inr ⟨r,hr,hg,e⟩)
  ·omega
def Begun (t:Int) (X:List RR):Prop:=∀ r∈X,r.from_=t∧r.end_=0
theorem none_app {F:FP} {t:Int} {R X:List RR} (hX:Begun t X) {s:Int} (hs:s<t) (hn:NoneWaits F R s):NoneWaits F (R++X) s:=by
 have hdi:∀ i,DoneBy (R++X) s i→DoneBy R s i:=fun i ⟨d,hd,a,b,c⟩=>by
  rcases List.mem_append.1 hd with hd | hd
  ·exact⟨d,hd,a,b,c⟩
  ·have:=(hX d hd).2;omega
 have hd:∀ i,DoneBy R s i→DoneBy (R++X) s i:=fun i ⟨d,hd,a⟩=>⟨d,List.mem_append_left _ hd,a⟩;have hl:∀ i,LostBy (R++X) s i=LostBy R s i:=fun i=>by
  unfold LostBy;rw[List.countP_append];have:X.countP (fun r=>isEnd 2 i r&&decide (r.to_≤s))=0:=by
   rw[List.countP_eq_zero];intro r hr h;have:=(hX r hr).2;simp[isEnd,this]at h
  omega
 have hc:∀ k,cntAt (R++X) s k=cntAt R s k:=fun k=>by
  unfold cntAt;rw[List.countP_append];have:X.countP (fun r=>r.worker==k&&(decide (r.from_≤s)&&(going r||decide (s<r.to_))))=0:=by
   rw[List.countP_eq_zero];intro r hr h;have:=(hX r hr).1;simp only[Bool.and_eq_true,decide_eq_true_eq]at h;omega
  omega
 intro i hi ⟨a,b,c,d⟩ k hk ⟨e1,e2,e3⟩;refine hn i hi ⟨fun s' hs'=>hdi _ (a s' hs'),fun h=>b (hd _ h),fun ⟨r,hr,h⟩=>c ⟨r,List.mem_append_left _ hr,h⟩,by rw[← hl];exact d⟩ k hk ⟨e1,e2,by rw[← hc];exact e3⟩
theorem seen_app {F:FP} {t:Int} {R X:List RR} (hX:Begun t X) {s:Int} (hn:Seen F (R++X) s):Seen F R s:=by
 rcases hn with e | e | ⟨r,hr,hg,e⟩
 ·exact .inl e
 ·exact .inr (.inl e)
 ·rcases List.mem_append.1 hr with hr | hr
  ·exact .inr (.inr ⟨r,hr,hg,e⟩)
  ·have:=(hX r hr).2;unfold going at hg;rw[this]at hg;exact absurd hg (by decide)
theorem step_form (F:FP) (q:QS):∃ X,(stepQ F q).runs=((q.runs.map (finRun F q.at_ q.runs)).map (loseRun F q.at_))++X∧Begun q.at_ X:=by
 obtain⟨X,e,hX⟩:=fold_ext (t:=q.at_) (strtR_ext F (loseQ F (finQ F q))) F.order (loseQ F (finQ F q)).runs;have hs:(startQ F (loseQ F (finQ F q))).runs=((q.runs.map (finRun F q.at_ q.runs)).map (loseRun F q.at_))++X:=e;unfold stepQ dblQ
 split
 ·obtain⟨Y,e2,hY⟩:=fold_ext (dblR_ext F q.at_ (startQ F (loseQ F (finQ F q))).lost) (List.range F.nX) (startQ F (loseQ F (finQ F q))).runs;refine⟨X++Y,?_,fun r hr=>?_⟩
  ·rw[← List.append_assoc,← hs];exact e2
  ·rcases List.mem_append.1 hr with h | h
   ·exact⟨(hX r h).2.1,(hX r h).2.2.2⟩
   ·exact⟨(hY r h).2.1,(hY r h).2.2.2⟩
 ·exact⟨X,hs,fun r h=>⟨(hX r h).2.1,(hX r h).2.2.2⟩⟩
def NW (F:FP) (t:Int) (R:List RR):Prop:=∀ s,0≤s→s≤t→Seen F R s→NoneWaits F R s
theorem busy_cnt {F:FP} {q:QS} {hi:Int} (h:Inv F q.at_ hi q) (k:Nat):busy q.runs k≤cntAt q.runs q.at_ k:=by
 unfold busy cntAt;refine countP_le_of fun r hr hx=>?_;simp only[Bool.and_eq_true]at hx;rw[hx.1,hx.2];have:=(h.go r hr hx.1).1;simp[this]
theorem none_now {F:FP} (hcov:∀ i,i<F.nX→i∈F.order) {q:QS} (h:Inv F q.at_ (q.at_+1) q) (hQ:Quiet F q):NoneWaits F q.runs q.at_:=by
 intro i hi ⟨a,b,c,d⟩ k hk ⟨e1,e2,e3⟩;have hdn:q.done i=false:=by
  cases hd:q.done i
  ·rfl
  ·obtain⟨r,hr,h1,h2⟩:=(h.don i).1 hd;exact absurd ⟨r,hr,h1,h2,(h.en r hr (end1_not_going h2)).2.1⟩ b
 have hra:runsAny q.runs i=false:=by
  cases hra:runsAny q.runs i
  ·rfl
  ·unfold runsAny at hra;rw[List.any_eq_true]at hra;obtain⟨r,hr,h1⟩:=hra;simp only[Bool.and_eq_true,beq_iff_eq]at h1;exact absurd ⟨r,hr,h1.2,(h.go r hr h1.1).1,.inl h1.1⟩ c
 have hrd:readyB F q.done i=true:=List.all_eq_true.2 fun s hs=>by
  obtain⟨r,hr,h1,h2,_⟩:=a s hs;exact(h.don s).2 ⟨r,hr,h1,h2⟩
 have hls:q.lost i<F.tries:=by
  rw[h.los i];have:LostBy q.runs q.at_ i=q.runs.countP (isEnd 2 i):=countP_eq_of fun r hr=>by
   cases he:isEnd 2 i r
   ·rfl
   ·simp only[isEnd,Bool.and_eq_true,beq_iff_eq]at he;have:=(h.en r hr (end2_not_going he.2)).2.1;simp[this]
  rw[← this];exact d
 have hcs:canS F q.done q.lost q.runs i=true:=by
  unfold canS;rw[hdn,hra,hrd];simp[hls]
 have hcw:=hQ.st i (hcov i hi) hcs k hk
 cases hf:F.fit k i
 ·rfl
 ·have hb:=busy_cnt h k;have:canW F q.at_ q.runs i none k=true:=by
   simp only[canW,Bool.and_eq_true,decide_eq_true_eq];exact⟨by simp,e1,e2,by omega,hf⟩
  rw[hcw]at this;cases this
theorem NW.step {F:FP} (hF:FFine F) (hcov:∀ i,i<F.nX→i∈F.order) {q:QS} (hI:Inv F (q.at_-1) q.at_ q) (h:NW F (q.at_-1) q.runs):NW F q.at_ (stepQ F q).runs:=by
 intro s h0 hs hseen
 rcases Int.lt_or_le s q.at_ with hlt | hle
 ·obtain⟨X,e,hX⟩:=step_form F q;rw[e]at hseen ⊢;have hT1:=fin_turn F q.at_ q.runs;have hT2:=lose_turn F q.at_;have hse:=hT1.seen hlt (hT2.seen hlt (seen_app hX hseen));exact none_app hX hlt (hT2.none hlt (hT1.none hlt (h s h0 (by omega) hse)))
 ·have:s=q.at_:=by omega
  subst this;have:=none_now hcov (q:=stepQ F q) (by rw[stepQ_at];exact hI.step hF) (quiet_step F q);rw[stepQ_at]at this;exact this
theorem NW.at {F:FP} {q:QS} (hI:Inv F q.at_ (q.at_+1) q) (h:NW F q.at_ q.runs) {n:Int} (hn:nextQ F q=some n):NW F (n-1) q.runs:=by
 obtain⟨n1,n2,n3⟩:=above_some hn;intro s h0 hs hseen
 rcases Int.lt_or_le q.at_ s with hlt | hle
 ·rcases hseen with e | ⟨k,hk,e⟩ | ⟨r,hr,hg,e⟩
  ·have:=hI.t0;omega
  ·have:=n3 _ (mem_candsQ.2 (.inl ⟨k,hk,.inl e⟩)) hlt;omega
  ·have:=(hI.en r hr hg).2.1;omega
 ·exact h s h0 hle hseen
structure FinQ (F:FP) (q:QS):Prop where
 inv:Inv F q.at_ (q.at_+1) q
 ended:∀ r∈q.runs,going r=false
 nw:NW F q.at_ q.runs
 from_:∀ k,k<F.nW→F.wfrom k≤q.at_
theorem trace_fin {F:FP} (hF:FFine F) (hcov:∀ i,i<F.nX→i∈F.order) {q q':QS} (h:QTrace F q q'):Inv F (q.at_-1) q.at_ q→NW F (q.at_-1) q.runs→FinQ F q':=by
 induction h with
 | last q hn =>
  intro hI hW;have h1:=hI.step hF;have h2:=hW.step hF hcov hI;rw[← stepQ_at F q]at h1 h2;refine⟨h1,fun r hr=>?_,h2,fun k hk=>above_none hn (mem_candsQ.2 (.inl ⟨k,hk,.inl rfl⟩))⟩
  cases hg:going r
  ·rfl
  ·have h3:=(h1.go r hr hg).2.1;have h4:=above_none hn (mem_candsQ.2 (.inl ⟨_,(h1.named r hr).1,.inr rfl⟩));omega
 | more q n q' hn _ ih =>
  intro hI hW;have h1:=hI.step hF;have h2:=hW.step hF hcov hI;rw[← stepQ_at F q]at h1 h2;exact ih (h1.at hn) (NW.at h1 h2 hn)
def q0:QS:=⟨0,[],fun _=>false,fun _=>0⟩
def p0:PS:=⟨0,[],[],fun _=>false,fun _=>0,fun _=>0,fun _=>0⟩
theorem inv0 {F:FP} (hF:FFine F):Inv F (q0.at_-1) q0.at_ q0:=by
 have ht:=hF.tri;have hs:=hF.slot;refine⟨(fun r hr=>by cases hr),Int.le_refl _,?_,?_,?_,?_,?_,?_,?_,?_,?_,?_,?_,?_,?_,?_,?_,?_⟩
 all_goals (intros;simp_all [q0,goingOf,cntAt,busy])
 all_goals first | omega | (exact hs _ (by assumption)) | skip
theorem nw0 (F:FP):NW F (q0.at_-1) q0.runs:=fun s h0 h1 _=>by
 have:s≤-1:=h1;omega
theorem sim0:Sim p0 q0:=⟨List.Perm.refl _,List.Perm.refl _,fun _=>rfl,fun _=>rfl,fun _=>rfl⟩
theorem fin_of {F:FP} (hF:FFine F) (hcov:∀ i,i<F.nX→i∈F.order) {q':QS} (h:QTrace F q0 q'):FinQ F q':=trace_fin hF hcov h (inv0 hF) (nw0 F)
theorem both_end {F:FP} (hF:FFine F) (hcov:∀ i,i<F.nX→i∈F.order) {p':PS} {q':QS} (hp:PTrace F p0 p') (hq:QTrace F q0 q'):Sim p' q'∧p'.out.Perm q'.runs:=by
 have h:=traces hF.toFOk hp hq sim0 rfl (Int.le_refl _) (fun r hr=>by cases hr);refine⟨h,?_⟩;have:=h.out
 rwa [filter_all (l:=q'.runs) (fun r hr=>by rw[(fin_of hF hcov hq).ended r hr];rfl)]at this
/-! ### the program's 'last' -/
structure PInv (F:FP) (p:PS):Prop where
 t0:0≤p.now
 go:∀ r∈p.runs,going r=true
 out:∀ r∈p.out,r.to_≤p.now
 last:∀ k,IsLast p.out k (p.last k)
theorem PInv.fin {F:FP} {p:PS} (h:PInv F p):PInv F (finP F p):=by
 have hnew:∀ r'∈(p.runs.filter fun r=>hasDone F p.now p.runs r.work).map (finRun F p.now p.runs),r'.to_=p.now∧hasDone F p.now p.runs r'.work=true:=by
  intro r' hr';obtain⟨r,hr,rfl⟩:=List.mem_map.1 hr';obtain⟨h1,h2⟩:=List.mem_filter.1 hr;rw[finRun_yes (by rw[h.go r h1,h2];rfl)];exact⟨rfl,h2⟩
 refine⟨h.t0,fun r hr=>h.go r (List.mem_filter.1 hr).1,fun r hr=>?_,fun k=>?_⟩
 ·rcases List.mem_append.1 hr with hr | hr
  ·exact h.out r hr
  ·exact Int.le_of_eq (hnew r hr).1
 ·show IsLast (p.out++_) k (if hasDone F p.now p.runs k=true then p.now else p.last k);obtain⟨l1,l2⟩:=h.last k
  split
  ·rename_i hk
   refine⟨fun r hr _ _=>?_,?_⟩
   ·rcases List.mem_append.1 hr with hr | hr
    ·exact h.out r hr
    ·exact Int.le_of_eq (hnew r hr).1
   ·obtain⟨r,hr,hw,hb⟩:=hasDone_ex hk;have e:=finRun_yes (F:=F) (t:=p.now) (R:=p.runs) (r:=r) (by rw[h.go r hr,hw,hk];rfl);refine .inr ⟨finRun F p.now p.runs r,List.mem_append_right _ (List.mem_map_of_mem (List.mem_filter.2 ⟨hr,by rw[hw];exact hk⟩)),(finRun_work r).1.trans hw,.inl ?_,?_⟩
    ·rw[e];simp[hb]
    ·rw[e]
  ·rename_i hk
   refine⟨fun r hr hw he=>?_,?_⟩
   ·rcases List.mem_append.1 hr with hr | hr
    ·exact l1 r hr hw he
    ·have:=(hnew r hr).2;rw[hw]at this;exact absurd this hk
   ·rcases l2 with l2 | ⟨r,hr,l2⟩
    ·exact .inl l2
    ·exact .inr ⟨r,List.mem_append_left _ hr,l2⟩
theorem PInv.lose {F:FP} {p:PS} (h:PInv F p):PInv F (loseP F p):=by
 have hnew:∀ r'∈(p.runs.filter fun r=>goes F r.worker p.now).map (loseRun F p.now),r'.to_=p.now∧lostNow F p.now p.runs r'.work≠0:=by
  intro r' hr';obtain⟨r,hr,rfl⟩:=List.mem_map.1 hr';obtain⟨h1,h2⟩:=List.mem_filter.1 hr;rw[loseRun_yes (by rw[h.go r h1,h2];rfl)];refine⟨rfl,fun h0=>?_⟩;unfold lostNow at h0;rw[List.countP_eq_zero]at h0;exact h0 r h1 (by simp[h.go r h1,h2])
 refine⟨h.t0,fun r hr=>h.go r (List.mem_filter.1 hr).1,fun r hr=>?_,fun k=>?_⟩
 ·rcases List.mem_append.1 hr with hr | hr
  ·exact h.out r hr
  ·exact Int.le_of_eq (hnew r hr).1
 ·show IsLast (p.out++_) k (if lostNow F p.now p.runs k=0 then p.last k else p.now);obtain⟨l1,l2⟩:=h.last k
  split
  ·rename_i hk
   refine⟨fun r hr hw he=>?_,?_⟩
   ·rcases List.mem_append.1 hr with hr | hr
    ·exact l1 r hr hw he
    ·have:=(hnew r hr).2;rw[hw]at this;exact absurd hk this
   ·rcases l2 with l2 | ⟨r,hr,l2⟩
    ·exact .inl l2
    ·exact .inr ⟨r,List.mem_append_left _ hr,l2⟩
  ·rename_i hk
   refine⟨fun r hr _ _=>?_,?_⟩
   ·rcases List.mem_append.1 hr with hr | hr
    ·exact h.out r hr
    ·exact Int.le_of_eq (hnew r hr).1
   ·have:0<lostNow F p.now p.runs k:=Nat.pos_of_ne_zero hk;unfold lostNow at this;rw[List.countP_pos_iff]at this;obtain⟨r,hr,hc⟩:=this;simp only[Bool.and_eq_true,beq_iff_eq]at hc;have e:=loseRun_yes (F:=F) (t:=p.now) (r:=r) (by rw[hc.2.1,hc.2.2];rfl);refine .inr ⟨loseRun F p.now r,List.mem_append_right _ (List.mem_map_of_mem (List.mem_filter.2 ⟨hr,hc.2.2⟩)),(loseRun_work r).1.trans hc.1,.inr ?_,?_⟩ <;> rw[e]
theorem begins_going {F:FP} {t:Int} {i:Nat} {but:Option Nat} {x:List RR × (Nat→Int)} (h:∀ r∈x.1,going r=true):∀ r∈(beginP F t i but x).1,going r=true:=by
 unfold beginP
 split
 ·exact h
 ·intro r hr
  rcases List.mem_append.1 hr with hr | hr
  ·exact h r hr
  ·rw[List.mem_singleton.1 hr];rfl
theorem fold_going {f:List RR × (Nat→Int)→Nat→List RR × (Nat→Int)} (hf:∀ x i,(∀ r∈x.1,going r=true)→∀ r∈(f x i).1,going r=true):∀ (o:List Nat) (x:List RR × (Nat→Int)),(∀ r∈x.1,going r=true)→∀ r∈(o.foldl f x).1,going r=true
 | [],x,h=>h
 | i::o,x,h=>fold_going hf o _ (hf x i h)
theorem PInv.step {F:FP} {p p':PS} (h:PInv F p) (hs:PStep F p p'):PInv F p':=by
 obtain⟨rs,hp,rfl⟩:=hs;have h0:PInv F { p with runs:=rs }:=⟨h.t0,fun r hr=>h.go r (hp.mem_iff.1 hr),h.out,h.last⟩;have h2:=h0.fin.lose;have h3:PInv F (startP F (loseP F (finP F { p with runs:=rs }))):=⟨h2.t0,fold_going (fun x i hx=>begins_going hx) _ _ h2.go,h2.out,h2.last⟩;unfold dblP
 split
 ·refine⟨h3.t0,fold_going (fun x i hx=>?_) _ _ h3.go,h3.out,h3.last⟩;unfold dblX
  split
  ·split
   ·exact begins_going hx
   ·exact hx
  ·exact hx
 ·exact h3
theorem PTrace.inv {F:FP} {p p':PS} (ht:PTrace F p p'):PInv F p→PInv F p':=by
 induction ht with
 | last p p' hs _=>exact fun h=>h.step hs
 | more p p1 n p' hs hn _ ih =>
  intro h;have h1:=h.step hs;have:=(above_some hn).2.1;have t0:=h1.t0;exact ih ⟨by show 0≤n;omega,h1.go,fun r hr=>by have:=h1.out r hr;show r.to_≤n;omega,h1.last⟩
theorem pinv0 (F:FP):PInv F p0:=⟨Int.le_refl _,fun r hr=>(by cases hr),fun r hr=>(by cases hr),fun k=>⟨fun r hr=>(by cases hr),.inl rfl⟩⟩
theorem isLast_perm {R R':List RR} {k:Nat} {v:Int} (h:R.Perm R') (hl:IsLast R k v):IsLast R' k v :=
 ⟨fun r hr=>hl.1 r (h.mem_iff.2 hr),hl.2.imp id fun ⟨r,hr,e⟩=>⟨r,h.mem_iff.1 hr,e⟩⟩
theorem nodup_le:∀ (l m:List Nat),l.Nodup→(∀ x∈l,x∈m)→l.length≤m.length
 | [],m,_,_=>Nat.zero_le _
 | x::l,m,hd,hs=>by
  rw[List.nodup_cons]at hd;have h:=nodup_le l (m.erase x) hd.2 (fun y hy=>(List.mem_erase_of_ne (by rintro rfl;exact hd.1 hy)).2 (hs y (List.mem_cons_of_mem _ hy)));have hx:=hs x List.mem_cons_self;rw[List.length_erase_of_mem hx]at h;have:=List.length_pos_of_mem hx;rw[List.length_cons];omega
theorem nodup_lt {n:Nat} {l:List Nat} (hd:l.Nodup) (hl:∀ x∈l,x<n):l.length≤n:=by
 have:=nodup_le l (List.range n) hd (fun x hx=>List.mem_range.2 (hl x hx))
 rwa [List.length_range]at this
inductive Way (g:Nat→List Nat) (i:Nat):Nat→Prop
 | one {k:Nat}:k∈g i→Way g i k
 | more {j k:Nat}:Way g i j→k∈g j→Way g i k
def Cyc (g:Nat→List Nat) (n:Nat):Prop:=∃ i,i<n∧Way g i i
structure Topo (g:Nat→List Nat) (n:Nat) (out:List Nat):Prop where
 nodup:out.Nodup
 lt:∀ i∈out,i<n
 pre:∀ (a b:List Nat) (i:Nat),out=a++i::b→∀ k∈g i,k∈a
def Most (g:Nat→List Nat) (n:Nat) (out:List Nat):Prop:=∀ i,i<n→i ∉ out→∃ k∈g i,k ∉ out
theorem Topo.nil (g:Nat→List Nat) (n:Nat):Topo g n []:=⟨List.nodup_nil,(fun _ h=>nomatch h),fun a b i h=>(by cases a <;> cases h)⟩
theorem Topo.snoc {g:Nat→List Nat} {n:Nat} {out:List Nat} (h:Topo g n out) {i:Nat} (hi:i<n) (hn:i ∉ out) (hk:∀ k∈g i,k∈out):Topo g n (out ++ [i]):=by
 refine⟨?_,fun j hj=>?_,fun a b j e k hkj=>?_⟩
 ·rw[List.nodup_append];refine⟨h.nodup,by simp,fun a ha b hb=>?_⟩;rw[List.mem_singleton]at hb;subst hb;rintro rfl;exact hn ha
 ·rcases List.mem_append.1 hj with hj | hj
  ·exact h.lt j hj
  ·rw[List.mem_singleton]at hj;subst hj;exact hi
 ·rcases List.eq_nil_or_concat b with rfl | ⟨b',x,rfl⟩
  ·have e':=List.append_inj' e rfl;obtain⟨rfl,e2⟩:=e';injection e2 with e2;subst e2;exact hk k hkj
  ·have e3:out ++ [i]=(a++j::b') ++ [x]:=by rw[e];simp
   have e':=List.append_inj' e3 rfl;exact h.pre a b' j e'.1 k hkj
theorem Topo.way {g:Nat→List Nat} {n:Nat} {out:List Nat} (h:Topo g n out) {a b:List Nat} {i k:Nat} (e:out=a++i::b) (hw:Way g i k):k∈a:=by
 induction hw with
 | one hk=>exact h.pre a b i e _ hk
 | more _ hk ih =>
  obtain⟨a1,a2,rfl⟩:=List.append_of_mem ih;have:=h.pre a1 (a2++i::b) _ (by rw[e];simp) _ hk;exact List.mem_append.2 (.inl this)
theorem Topo.all {g:Nat→List Nat} {n:Nat} {out:List Nat} (h:Topo g n out) (hl:out.length=n) {i:Nat} (hi:i<n):i∈out:=by
 by_cases hm:i∈out
 ·exact hm
 ·have:=nodup_lt (n:=n) (l:=i::out) (List.nodup_cons.2 ⟨hm,h.nodup⟩) (fun x hx=>by
   rcases List.mem_cons.1 hx with rfl | hx
   ·exact hi
   ·exact h.lt x hx)
  rw[List.length_cons]at this;omega
theorem Topo.no_cyc {g:Nat→List Nat} {n:Nat} {out:List Nat} (h:Topo g n out) (hl:out.length=n):¬ Cyc g n:=by
 rintro⟨i,hi,hw⟩;obtain⟨a,b,e⟩:=List.append_of_mem (h.all hl hi);have hia:=h.way e hw;have:=h.nodup;rw[e,List.nodup_append]at this;exact this.2.2 i hia i List.mem_cons_self rfl
theorem chain {g:Nat→List Nat} {n:Nat} {out:List Nat} (hg:∀ i,i<n→∀ k∈g i,k<n) (hm:Most g n out) (hno:¬ Cyc g n) {i0:Nat} (h0:i0<n) (h1:i0 ∉ out) :
  ∀ t:Nat,∃ (h:Nat) (c:List Nat),c.length=t∧(h::c).Nodup∧(∀ x∈h::c,x<n)∧h ∉ out∧∀ x∈c,Way g x h
 | 0=>⟨i0,[],rfl,by simp,fun x hx=>by rw[List.mem_singleton]at hx;subst hx;exact h0,h1,fun x hx=>by cases hx⟩
 | t+1=>by
  obtain⟨h,c,hl,hd,hlt,hh,hw⟩:=chain hg hm hno h0 h1 t;have hhn:=hlt h List.mem_cons_self;obtain⟨k,hk,hko⟩:=hm h hhn hh;have hkn:=hg h hhn k hk;have hw2:∀ x∈h::c,Way g x k:=fun x hx=>by
   rcases List.mem_cons.1 hx with rfl | hx
   ·exact .one hk
   ·exact .more (hw x hx) hk
  refine⟨k,h::c,by rw[List.length_cons,hl],List.nodup_cons.2 ⟨fun hin=>hno ⟨k,hkn,hw2 k hin⟩,hd⟩,fun x hx=>?_,hko,hw2⟩
  rcases List.mem_cons.1 hx with rfl | hx
  ·exact hkn
  ·exact hlt x hx
theorem most_cyc {g:Nat→List Nat} {n:Nat} {out:List Nat} (hg:∀ i,i<n→∀ k∈g i,k<n) (h:Topo g n out) (hm:Most g n out) (hl:out.length≠n):Cyc g n:=by
 apply Classical.byContradiction;intro hno;have:∃ i0,i0<n∧i0 ∉ out:=by
  apply Classical.byContradiction;intro hall;have h1:=nodup_le (List.range n) out List.nodup_range (fun x hx=>by
   apply Classical.byContradiction;intro hx2;exact hall ⟨x,List.mem_range.1 hx,hx2⟩)
  rw[List.length_range]at h1;have:=nodup_lt h.nodup h.lt;omega
 obtain⟨i0,h0,h1⟩:=this;obtain⟨x,c,hlc,hd,hlt,_⟩:=chain hg hm hno h0 h1 n;have:=nodup_lt hd hlt;rw[List.length_cons]at this;omega
theorem topo_iff {g:Nat→List Nat} {n:Nat} {out:List Nat} (hg:∀ i,i<n→∀ k∈g i,k<n) (h:Topo g n out) (hm:Most g n out):out.length=n↔¬ Cyc g n :=
 ⟨h.no_cyc,fun hno=>Classical.byContradiction fun hl=>hno (most_cyc hg h hm hl)⟩
theorem no_way {g:Nat→List Nat} {i:Nat} {seen:Nat→Prop} (hc:∀ x,x=i∨seen x→∀ k∈g x,k≠i∧seen k):¬ Way g i i:=by
 have:∀ k,Way g i k→k≠i∧seen k:=by
  intro k hw
  induction hw with
  | one hk=>exact hc i (.inl rfl) _ hk
  | more _ hk ih=>exact hc _ (.inr ih.2) _ hk
 exact fun hw=>(this i hw).1 rfl
theorem dropWhile_nil_iff {α:Type} (p:α→Bool):∀ l:List α,(l.dropWhile p = [])↔l.all p=true
 | []=>by simp
 | x::r=>by
  have ih:=dropWhile_nil_iff p r
  cases hx:p x
  ·simp[hx]
  ·simp[hx,ih]
theorem dropWhile_head {α:Type} (p:α→Bool):∀ (l:List α) (x:α) (r:List α),l.dropWhile p=x::r→p x=false
 | [],x,r,h=>by cases h
 | y::l,x,r,h=>by
  rw[List.dropWhile_cons]at h
  split at h
  ·exact dropWhile_head p l x r h
  ·rename_i hy
   simp only[List.cons.injEq]at h;rw[← h.1]
   simpa using hy
theorem trimS_nil (l cs:List UInt8):(Lib.trimS l cs = [])↔l.all (cs.contains ·)=true:=by
 unfold Lib.trimS Lib.trimLeftS Lib.trimRightS;rw[dropWhile_nil_iff]
 constructor
 ·intro h;rw[List.all_reverse]at h;have:l.reverse.dropWhile (cs.contains ·) = []:=by
   cases hd:l.reverse.dropWhile (cs.contains ·) with
   | nil=>rfl
   | cons x r =>
    have hx:=dropWhile_head _ _ _ _ hd;rw[hd]at h;simp only[List.all_cons,Bool.and_eq_true]at h;rw[h.1]at hx
    cases hx
  rw[dropWhile_nil_iff,List.all_reverse]at this;exact this
 ·intro h;rw[← List.all_reverse,← dropWhile_nil_iff]at h;rw[h];rfl
theorem byte_all {p:UInt8→Bool} (h:(List.range 256).all (fun n=>p (UInt8.ofNat n))=true) (b:UInt8):p b=true:=by
 have hb:b.toNat<256:=b.toNat_lt;have:=List.all_eq_true.1 h b.toNat (List.mem_range.2 hb)
 rwa [UInt8.ofNat_toNat]at this
end Go.Proofs.YtbnkoefljcekbaaGreatDoor
namespace Go.Proofs.YtbnkoefljcekbaaGreatDoor
open Go.RowKit
def cmpB:List UInt8→List UInt8→Int:=Lib.compareBytes
theorem cmpB_zero:∀ a b:List UInt8,cmpB a b=0↔a=b
 | [],[]=>by simp[cmpB,Lib.compareBytes]
 | [],_::_=>by simp[cmpB,Lib.compareBytes]
 | _::_,[]=>by simp[cmpB,Lib.compareBytes]
 | x::r,y::s=>by
  have ih:=cmpB_zero r s;unfold cmpB at ih ⊢;unfold Lib.compareBytes
  by_cases h:x<y
  ·simp only[if_pos h,List.cons.injEq];exact⟨fun h=>(by cases h),fun h'=>by rw[h'.1]at h;exact absurd h (by simp)⟩
  ·by_cases h2:y<x
   ·simp only[if_neg h,if_pos h2,List.cons.injEq];exact⟨fun h=>(by cases h),fun h'=>by rw[h'.1]at h2;exact absurd h2 (by simp)⟩
   ·rw[if_neg h,if_neg h2,ih];have:x=y:=by
     have h1:y≤x:=UInt8.not_lt.1 h;have h3:x≤y:=UInt8.not_lt.1 h2;exact UInt8.le_antisymm h3 h1
    simp[this]
theorem cmpB_swap:∀ a b:List UInt8,cmpB b a = - cmpB a b
 | [],[]=>by simp[cmpB,Lib.compareBytes]
 | [],_::_=>by simp[cmpB,Lib.compareBytes]
 | _::_,[]=>by simp[cmpB,Lib.compareBytes]
 | x::r,y::s=>by
  have ih:=cmpB_swap r s;unfold cmpB at ih ⊢;unfold Lib.compareBytes
  by_cases h:x<y
  ·have h2:¬ y<x:=fun h2=>by have:=UInt8.lt_trans h h2;simp at this
   rw[if_pos h,if_neg h2,if_pos h];rfl
  ·by_cases h2:y<x
   ·rw[if_pos h2,if_neg h,if_pos h2]
   ·rw[if_neg h2,if_neg h,if_neg h,if_neg h2,ih]
theorem cmpB_range:∀ a b:List UInt8,cmpB a b = -1∨cmpB a b=0∨cmpB a b=1
 | [],[]=>by simp[cmpB,Lib.compareBytes]
 | [],_::_=>by simp[cmpB,Lib.compareBytes]
 | _::_,[]=>by simp[cmpB,Lib.compareBytes]
 | x::r,y::s=>by
  have ih:=cmpB_range r s;unfold cmpB at ih ⊢;unfold Lib.compareBytes
  split
  ·exact Or.inl rfl
  ·split
   ·exact Or.inr (Or.inr rfl)
   ·exact ih
theorem cmpB_trans:∀ a b c:List UInt8,cmpB a b = -1→cmpB b c = -1→cmpB a c = -1
 | [],[],c,h,_=>by simp[cmpB,Lib.compareBytes]at h
 | [],_::_,[],_,h=>by simp[cmpB,Lib.compareBytes]at h
 | [],_::_,_::_,_,_=>by simp[cmpB,Lib.compareBytes]
 | _::_,[],_,h,_=>by simp[cmpB,Lib.compareBytes]at h
 | _::_,_::_,[],_,h=>by simp[cmpB,Lib.compareBytes]at h
 | x::r,y::s,z::t,h1,h2=>by
  have ih:=cmpB_trans r s t;unfold cmpB at ih h1 h2 ⊢;unfold Lib.compareBytes at h1 h2 ⊢
  by_cases a:x<y
  ·by_cases b:y<z
   ·rw[if_pos (UInt8.lt_trans a b)]
   ·rw[if_neg b]at h2
    by_cases b2:z<y
    ·rw[if_pos b2]at h2;cases h2
    ·have:y=z:=UInt8.le_antisymm (UInt8.not_lt.1 b2) (UInt8.not_lt.1 b);subst this;rw[if_pos a]
  ·rw[if_neg a]at h1
   by_cases a2:y<x
   ·rw[if_pos a2]at h1;cases h1
   ·have:x=y:=UInt8.le_antisymm (UInt8.not_lt.1 a2) (UInt8.not_lt.1 a);subst this;rw[if_neg a2]at h1
    by_cases b:x<z
    ·rw[if_pos b]
    ·rw[if_neg b]at h2 ⊢
     by_cases b2:z<x
     ·rw[if_pos b2]at h2;cases h2
     ·rw[if_neg b2]at h2 ⊢;exact ih h1 h2
theorem less_cmpB:∀ a b:List UInt8,Op.bytesLess a b=decide (cmpB a b = -1)
 | [],[]=>by simp[cmpB,Lib.compareBytes,Op.bytesLess]
 | [],_::_=>by simp[cmpB,Lib.compareBytes,Op.bytesLess]
 | _::_,[]=>by simp[cmpB,Lib.compareBytes,Op.bytesLess]
 | x::r,y::s=>by
  have ih:=less_cmpB r s;unfold cmpB at ih ⊢;unfold Lib.compareBytes;rw[Op.bytesLess,ih]
  by_cases h:x<y
  ·simp[h]
  ·by_cases h2:y<x
   ·have hne:(x==y)=false:=by
     rw[beq_eq_false_iff_ne];intro e;rw[e]at h2;simp at h2
    simp[h,h2,hne]
   ·have:x=y:=UInt8.le_antisymm (UInt8.not_lt.1 h2) (UInt8.not_lt.1 h);subst this;simp
def sle (a b:ByteArray):Bool:=Op.bytesLess a.toList b.toList||a.toList==b.toList
theorem cell_new (w:World) (cs:Array Value) (t:TypeId) (j:Nat):(w.alloc (.cells cs t)).cell? ⟨w.heap.size,j,none⟩=cs[j]?:=by
 simp[go_sem]
def cmpS (a b:ByteArray):Int:=cmpB a.data.toList b.data.toList
def ltS (a b:ByteArray):Bool:=Op.bytesLess a.toList b.toList
theorem ltS_cmp (a b:ByteArray):ltS a b=decide (cmpS a b = -1):=by rw[ltS,Lib.toList_data,Lib.toList_data,less_cmpB];rfl
theorem cmpS_zero (a b:ByteArray):cmpS a b=0↔a=b:=by
 rw[cmpS,cmpB_zero]
 constructor
 ·intro h
  cases a;cases b
  simpa using h
 ·rintro rfl;rfl
theorem cmpS_swap (a b:ByteArray):cmpS b a = - cmpS a b:=cmpB_swap _ _
theorem cmpS_range (a b:ByteArray):cmpS a b = -1∨cmpS a b=0∨cmpS a b=1:=cmpB_range _ _
theorem cmpS_trans {a b c:ByteArray}:cmpS a b = -1→cmpS b c = -1→cmpS a c = -1:=cmpB_trans _ _ _
theorem sle_cmp (a b:ByteArray):sle a b=decide (cmpS a b≤0):=by
 have h1:(a.toList==b.toList)=decide (cmpS a b=0):=by
  rw[Bool.eq_iff_iff,beq_iff_eq,decide_eq_true_iff,Lib.toList_data,Lib.toList_data,cmpS,cmpB_zero]
 have h2:=ltS_cmp a b;unfold ltS at h2;rw[sle,h1,h2]
 rcases cmpS_range a b with h | h | h <;> rw[h] <;> decide
theorem beq_data (a b:ByteArray):(a.toList==b.toList)=decide (a=b):=by
 rw[Bool.eq_iff_iff,beq_iff_eq,decide_eq_true_iff,Lib.toList_data,Lib.toList_data]
 constructor
 ·intro h
  cases a;cases b
  simpa using h
 ·rintro rfl;rfl
theorem bne_data {a b:ByteArray} (h:¬ a=b):(!a.toList==b.toList)=true:=by rw[beq_data,decide_eq_false h];rfl
theorem nbne_data {a b:ByteArray} (h:a=b):(!a.toList==b.toList)=false:=by rw[beq_data,decide_eq_true h];rfl
end Go.Proofs.YtbnkoefljcekbaaGreatDoor
namespace Go.Proofs.YtbnkoefljcekbaaGreatDoor
section
variable (g:Nat→List Nat) (sz:Nat→Int)
structure MaxOf (P:Nat→Prop) (C:Nat→Int) (j:Nat) (m:Int):Prop where
 nn:0≤m
 up:∀ k,P k→j∈g k→C k≤m
 at_:m=0∨∃ k,P k∧j∈g k∧m=C k
def Crit (N:Nat) (C:Nat→Int):Prop:=∀ j,j<N→∃ m,MaxOf g (· < N) C j m∧C j=sz j+m
variable {g sz}
theorem MaxOf.uniq {P:Nat→Prop} {C:Nat→Int} {j:Nat} {m m':Int} (h:MaxOf g P C j m) (h':MaxOf g P C j m'):m=m':=by
 have key:∀ {m m':Int},MaxOf g P C j m→MaxOf g P C j m'→m≤m':=fun h h'=>by
  rcases h.at_ with e | ⟨k,a,b,e⟩
  ·rw[e];exact h'.nn
  ·rw[e];exact h'.up k a b
 exact Int.le_antisymm (key h h') (key h' h)
theorem MaxOf.congr {P Q:Nat→Prop} {C D:Nat→Int} {j:Nat} {m:Int} (h:MaxOf g P C j m) (hP:∀ k,j∈g k→(P k↔Q k)) (hC:∀ k,P k→j∈g k→C k=D k):MaxOf g Q D j m :=
 ⟨h.nn,fun k hk hj=>by have hp:=(hP k hj).2 hk;rw[← hC k hp hj];exact h.up k hp hj,h.at_.imp id fun ⟨k,a,b,e⟩=>⟨k,(hP k b).1 a,b,by rw[e];exact hC k a b⟩⟩
theorem max_ex (C:Nat→Int) (j:Nat):∀ b:List Nat,∃ m,MaxOf g (·∈b) C j m
 | []=>⟨0,Int.le_refl _,fun k hk=>(by cases hk),.inl rfl⟩
 | x::r=>by
  obtain⟨m,h1,h2,h3⟩:=max_ex C j r
  by_cases hx:j∈g x
  ·by_cases hm:m≤C x
   ·refine⟨C x,by omega,fun k hk hj=>?_,.inr ⟨x,List.mem_cons_self,hx,rfl⟩⟩
    rcases List.mem_cons.1 hk with rfl | hk
    ·exact Int.le_refl _
    ·have:=h2 k hk hj;omega
   ·refine⟨m,h1,fun k hk hj=>?_,h3.imp id fun ⟨k,a,b,e⟩=>⟨k,List.mem_cons_of_mem _ a,b,e⟩⟩
    rcases List.mem_cons.1 hk with rfl | hk
    ·omega
    ·exact h2 k hk hj
  ·refine⟨m,h1,fun k hk hj=>?_,h3.imp id fun ⟨k,a,b,e⟩=>⟨k,List.mem_cons_of_mem _ a,b,e⟩⟩
   rcases List.mem_cons.1 hk with rfl | hk
   ·exact absurd hj hx
   ·exact h2 k hk hj
theorem topo_behind {N:Nat} {out a b:List Nat} {i k:Nat} (h:Topo g N out) (hl:out.length=N) (e:out=a++i::b) (hk:k<N) (hi:i∈g k):k∈b:=by
 have hko:=h.all hl hk;obtain⟨c,d,e2⟩:=List.append_of_mem hko;have hic:i∈c:=h.way e2 (.one hi);have hnd:=h.nodup;rw[e]at hko
 rcases List.mem_append.1 hko with hka | hkb
 ·-- k stands ahead of i: then i would stand twice
  exfalso;obtain⟨a1,a2,ea⟩:=List.append_of_mem hka;have e3:out=a1++k::(a2++i::b):=by rw[e,ea];simp
  have hia:i∈a1:=h.way e3 (.one hi);rw[e3]at hnd;have:=(List.nodup_append.1 hnd).2.2 i hia i (by simp);exact this rfl
 ·rcases List.mem_cons.1 hkb with rfl | hkb
  ·exfalso;have hia:k∈a:=h.way e (.one hi);rw[e]at hnd;exact(List.nodup_append.1 hnd).2.2 k hia k (by simp) rfl
  ·exact hkb
theorem crit_uniq {N:Nat} {out:List Nat} (h:Topo g N out) (hl:out.length=N) {C D:Nat→Int} (hC:Crit g sz N C) (hD:Crit g sz N D):∀ j,j<N→C j=D j:=by
 have key:∀ (b a:List Nat),out=a++b→∀ j∈b,C j=D j:=by
  intro b
  induction b with
  | nil=>intro a _ j hj;cases hj
  | cons i b ih =>
   intro a e j hj;have ihb:=ih (a ++ [i]) (by rw[e];simp)
   rcases List.mem_cons.1 hj with rfl | hj
   ·have hjN:j<N:=h.lt j (by rw[e];simp);obtain⟨m,h1,h2⟩:=hC j hjN;obtain⟨m',h3,h4⟩:=hD j hjN;have:=(h1.congr (Q:=(· < N)) (D:=D) (fun _ _=>Iff.rfl) fun k hk hjk=>ihb k (topo_behind h hl e hk hjk)).uniq h3;rw[h2,h4,this]
   ·exact ihb j hj
 exact fun j hj=>key out [] rfl j (h.all hl hj)
theorem crit_ex {N:Nat} {out:List Nat} (h:Topo g N out) (hl:out.length=N) {B:Int} (hs:∀ i,i<N→0≤sz i∧sz i≤B) (hB:0≤B):∃ C,Crit g sz N C∧∀ j,j<N→0≤C j∧C j≤B*(N:Int):=by
 have key:∀ (b a:List Nat),out=a++b→∃ C:Nat→Int,(∀ j∈b,∃ m,MaxOf g (·∈b) C j m∧C j=sz j+m)∧∀ j∈b,0≤C j∧C j≤B*(b.length:Int):=by
  intro b
  induction b with
  | nil=>exact fun a _=>⟨fun _=>0,fun j hj=>(by cases hj),fun j hj=>(by cases hj)⟩
  | cons i b ih =>
   intro a e;obtain⟨C,hC,hCb⟩:=ih (a ++ [i]) (by rw[e];simp);obtain⟨m,hm⟩:=max_ex (g:=g) C i b;have hiN:i<N:=h.lt i (by rw[e];simp);have hib:i ∉ b:=fun hi=>by
    have hnd:=h.nodup;rw[e]at hnd;exact(List.nodup_cons.1 (List.nodup_append.1 hnd).2.1).1 hi
   have hlen:B*((i::b).length:Int)=B*(b.length:Int)+B:=by rw[List.length_cons,Int.natCast_add,Int.mul_add];simp
   have hmb:m≤B*(b.length:Int):=by
    rcases hm.at_ with e0 | ⟨k,hk,_,e0⟩
    ·rw[e0];exact Int.mul_nonneg hB (by omega)
    ·rw[e0];exact(hCb k hk).2
   have hno:∀ j∈i::b,∀ k,j∈g k→(k∈i::b→j=i∨k∈b):=fun j hj k hk hkb=>by
    rcases List.mem_cons.1 hkb with rfl | hkb
    ·exfalso;have hja:j∈a:=h.pre a b k e j hk;have hnd:=h.nodup;rw[e]at hnd;exact(List.nodup_append.1 hnd).2.2 j hja j hj rfl
    ·exact .inr hkb
   obtain⟨C',hi,ho⟩:∃ C':Nat→Int,C' i=sz i+m∧∀ j,j≠i→C' j=C j:=⟨fun j=>if j=i then sz i+m else C j,by simp,fun j h=>by simp[h]⟩;have hbC:∀ k,k∈b→C k=C' k:=fun k hk=>(ho k (fun e2=>hib (by rw[← e2];exact hk))).symm;refine⟨C',fun j hj=>?_,fun j hj=>?_⟩
   ·by_cases hji:j=i
    ·subst hji;refine⟨m,hm.congr (fun k hk=>⟨fun hb=>List.mem_cons_of_mem _ hb,fun hb=>?_⟩) (fun k hk _=>hbC k hk),hi⟩
     rcases List.mem_cons.1 hb with rfl | hb
     ·exact topo_behind h hl e hiN hk
     ·exact hb
    ·have hjb:j∈b:=(List.mem_cons.1 hj).resolve_left hji;obtain⟨m2,h1,h2⟩:=hC j hjb;exact⟨m2,h1.congr (fun k hk=>⟨fun hb=>List.mem_cons_of_mem _ hb,fun hb=>(hno j hj k hk hb).resolve_left hji⟩) (fun k hk _=>hbC k hk),by rw[ho j hji];exact h2⟩
   ·rw[hlen];have h5:=hs i hiN
    by_cases hji:j=i
    ·subst hji;rw[hi];have:=hm.nn;omega
    ·rw[ho j hji];have:=hCb j ((List.mem_cons.1 hj).resolve_left hji);omega
 obtain⟨C,h1,h2⟩:=key out [] rfl;refine⟨C,fun j hj=>?_,fun j hj=>by have:=h2 j (h.all hl hj);rw[hl]at this;exact this⟩;obtain⟨m,a,b⟩:=h1 j (h.all hl hj);exact⟨m,a.congr (fun k _=>⟨fun hk=>h.lt k hk,fun hk=>h.all hl hk⟩) (fun _ _ _=>rfl),b⟩
end
end Go.Proofs.YtbnkoefljcekbaaGreatDoor