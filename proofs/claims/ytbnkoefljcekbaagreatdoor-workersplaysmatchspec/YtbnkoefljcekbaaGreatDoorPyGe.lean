/-
 Several texts of mine as one, without what is not wanted here: XPlJ.
-/
import Derived.Test.YtbnkoefljcekbaaGreatDoorPyGd
set_option linter.unusedVariables false
set_option linter.unusedSimpArgs false
set_option maxRecDepth 100000
set_option maxHeartbeats 8000000
namespace Go.Proofs.YtbnkoefljcekbaaGreatDoor
theorem Inv.fin {F:FP} (hF:FFine F) {lo hi:Int} {q:QS} (h:Inv F lo hi q) (hlo:lo<q.at_) (hhi:q.at_≤hi):Inv F lo hi (finQ F q):=by
 have hT:=fin_turn F q.at_ q.runs;have hgo:∀ k,goingOf (q.runs.map (finRun F q.at_ q.runs)) k=if hasDone F q.at_ q.runs k=true then [] else goingOf q.runs k:=by
  intro k;rw[goingOf_map (c:=fun r=>hasDone F q.at_ q.runs r.work) (fun r h=>finRun_no h) (fun r a b=>finRun_ended a b) (fun r=>(finRun_work r).1)]
  split
  ·rename_i hd
   exact List.filter_eq_nil_iff.2 fun r hr=>by
    have:=(List.mem_filter.1 hr).2;simp only[Bool.and_eq_true,beq_iff_eq]at this;rw[this.2,hd];simp
  ·rename_i hd
   refine filter_all fun r hr=>?_;have:=(List.mem_filter.1 hr).2;simp only[Bool.and_eq_true,beq_iff_eq]at this;rw[this.2];simpa using hd
 have mem:∀ r'∈q.runs.map (finRun F q.at_ q.runs),∃ r∈q.runs,(r'=r∨(going r=true∧hasDone F q.at_ q.runs r.work=true∧r' = { r with to_:=q.at_,end_:=if isBest F q.at_ q.runs r=true then 1 else 3 })):=by
  intro r' hr';obtain⟨r,hr,rfl⟩:=List.mem_map.1 hr';exact⟨r,hr,finRun_cases r⟩
 have h13:∀ b:Bool,going { work:=0,worker:=0,from_:=0,to_:=0,end_:=if b=true then 1 else 3 }=false:=by intro b;cases b <;> rfl
 have hend:∀ r:RR,going { r with to_:=q.at_,end_:=if isBest F q.at_ q.runs r=true then 1 else 3 }=false:=fun r=>h13 _;have hdoneof:∀ k,q.done k=true→hasDone F q.at_ q.runs k=false:=by
  intro k hk
  cases hd:hasDone F q.at_ q.runs k
  ·rfl
  ·obtain⟨r,hr,hw,hb⟩:=hasDone_ex hd;have:r∈goingOf q.runs k:=List.mem_filter.2 ⟨hr,by rw[(cand_going (isBest_cand hb)).1,hw];simp⟩;rw[h.dong k hk]at this;cases this
 have hcount1:∀ k,hasDone F q.at_ q.runs k=true→(q.runs.map (finRun F q.at_ q.runs)).countP (isEnd 1 k)≤1:=by
  intro k hk;have hnd:q.done k=false:=by
   cases hd:q.done k
   ·rfl
   ·rw[hdoneof k hd]at hk;cases hk
  have e:(q.runs.map (finRun F q.at_ q.runs)).countP (isEnd 1 k)=(goingOf q.runs k).countP (isBest F q.at_ q.runs):=by
   rw[List.countP_map,countP_goingOf];refine countP_eq_of fun r hr=>?_;simp only[Function.comp,isEnd];rw[(finRun_work r).1]
   by_cases hw:r.work=k
   ·rcases h.cnt0 k hnd r hr hw with hg | h2
    ·rw[finRun_yes (by rw[hg,hw,hk];rfl)];simp only[hw,hg,beq_self_eq_true,Bool.true_and,Bool.and_true]
     cases hb:isBest F q.at_ q.runs r <;> simp
    ·rw[finRun_no (by rw[end2_not_going h2];rfl),end2_not_going h2,h2];simp
   ·have:(r.work==k)=false:=by simpa using hw
    rw[this];simp
  rw[e];exact best_unique (h.two k).2
 have hcountN:∀ k,hasDone F q.at_ q.runs k=false→∀ r∈q.runs,r.work=k→finRun F q.at_ q.runs r=r:=fun k hk r hr hw=>finRun_no (by rw[hw,hk];simp);refine⟨?_,h.t0,?_,?_,?_,?_,?_,?_,?_,?_,?_,?_,?_,?_,?_,?_,?_,?_⟩
 ·intro r' hr';obtain⟨r,hr,rfl | ⟨_,_,rfl⟩⟩:=mem r' hr'
  ·exact h.named _ hr
  ·exact h.named r hr
 ·intro r' hr';obtain⟨r,hr,rfl | ⟨_,_,rfl⟩⟩:=mem r' hr'
  ·exact h.fr _ hr
  ·exact h.fr r hr
 ·intro r' hr' hg;obtain⟨r,hr,rfl | ⟨_,_,rfl⟩⟩:=mem r' hr'
  ·exact h.go _ hr hg
  ·rw[hend]at hg;cases hg
 ·intro r' hr' hg;obtain⟨r,hr,rfl | ⟨h1,h2,rfl⟩⟩:=mem r' hr'
  ·exact h.en _ hr hg
  ·obtain⟨a,b,c⟩:=h.go r hr h1;refine⟨by show r.from_<q.at_;omega,Int.le_refl _,by show q.at_≤F.wto r.worker;omega,?_,?_⟩ <;> (simp only;split <;> omega)
 ·intro r' hr' he;obtain⟨r,hr,rfl | ⟨h1,h2,rfl⟩⟩:=mem r' hr'
  ·exact h.e1 _ hr he
  ·simp only at he ⊢
   by_cases hb:isBest F q.at_ q.runs r=true
   ·exact(cand_going (isBest_cand hb)).2
   ·rw[if_neg hb]at he;cases he
 ·intro i;show (goingOf (q.runs.map _) i).length≤2∧(goingOf (q.runs.map _) i).Pairwise _;rw[hgo]
  split
  ·exact⟨Nat.zero_le _,List.Pairwise.nil⟩
  ·exact h.two i
 ·intro k;show (q.done k||hasDone F q.at_ q.runs k)=true↔_;rw[Bool.or_eq_true]
  constructor
  ·rintro(hk | hk)
   ·obtain⟨r,hr,hw,he⟩:=(h.don k).1 hk;refine⟨r,List.mem_map.2 ⟨r,hr,finRun_no (by rw[end1_not_going he];rfl)⟩,hw,he⟩
   ·obtain⟨r,hr,hw,hb⟩:=hasDone_ex hk;refine⟨_,List.mem_map_of_mem hr,(finRun_work r).1.trans hw,?_⟩;rw[finRun_yes (by rw[(cand_going (isBest_cand hb)).1,hw,hk];rfl)];simp[hb]
  ·rintro⟨r',hr',hw,he⟩;obtain⟨r,hr,rfl | ⟨h1,h2,rfl⟩⟩:=mem r' hr'
   ·exact .inl ((h.don k).2 ⟨_,hr,hw,he⟩)
   ·right;rw[← hw];exact h2
 ·intro k
  by_cases hk:hasDone F q.at_ q.runs k=true
  ·exact hcount1 k hk
  ·have hk:hasDone F q.at_ q.runs k=false:=by simpa using hk
   show (q.runs.map _).countP _≤1;rw[List.countP_map];refine Nat.le_trans (Nat.le_of_eq (countP_eq_of fun r hr=>?_)) (h.don1 k);simp only[Function.comp]
   by_cases hw:r.work=k
   ·rw[hcountN k hk r hr hw]
   ·unfold isEnd;rw[(finRun_work r).1];have:(r.work==k)=false:=by simpa using hw
    rw[this];rfl
 ·intro k hk;show goingOf (q.runs.map _) k = [];rw[hgo]
  split
  ·rfl
  ·rename_i hd
   refine h.dong k ?_;have hk:(q.done k||hasDone F q.at_ q.runs k)=true:=hk;rw[Bool.or_eq_true]at hk
   rcases hk with hk | hk
   ·exact hk
   ·exact absurd hk hd
 ·intro k hk r' hr' hw d' hd' hdw he;obtain⟨r,hr,hrc⟩:=mem r' hr';obtain⟨d,hd,hdc⟩:=mem d' hd';have hk:(q.done k||hasDone F q.at_ q.runs k)=true:=hk;rw[Bool.or_eq_true]at hk
  rcases hdc with rfl | ⟨d1,d2,rfl⟩
  ·have hqk:=(h.don k).2 ⟨_,hd,hdw,he⟩;have hno:=hdoneof k hqk
   rcases hrc with rfl | ⟨r1,r2,rfl⟩
   ·exact h.doni k hqk _ hr hw _ hd hdw he
   ·rw[show r.work=k from hw,hno]at r2;cases r2
  ·show r'.to_≤q.at_
   rcases hrc with rfl | ⟨r1,r2,rfl⟩
   ·cases hg:going r'
    ·exact(h.en _ hr hg).2.1
    ·obtain⟨_,_,h0⟩:=h.go _ hr hg;have:=h.t0;omega
   ·exact Int.le_refl _
 ·intro k;show q.lost k=_;rw[h.los k]
  congr 1
  show _=(q.runs.map _).countP _;rw[List.countP_map];refine countP_eq_of fun r hr=>?_;simp only[Function.comp]
  rcases finRun_cases (F:=F) (t:=q.at_) (R:=q.runs) r with e | ⟨h1,_,e⟩
  ·rw[e]
  ·rw[e];unfold isEnd;rw[going_end h1];simp only
   cases isBest F q.at_ q.runs r <;> simp
 ·intro k;have:(finQ F q).runs.countP (onWork k)=q.runs.countP (onWork k):=countP_map_work (fun r=>(finRun_work r).1) k q.runs;rw[this];exact h.cnt k
 ·intro k hk r' hr' hw;have hk:(q.done k||hasDone F q.at_ q.runs k)=false:=hk;rw[Bool.or_eq_false_iff]at hk;obtain⟨r,hr,rfl | ⟨h1,h2,rfl⟩⟩:=mem r' hr'
  ·exact h.cnt0 k hk.1 _ hr hw
  ·rw[show r.work=k from hw,hk.2]at h2;cases h2
 ·intro r' hr' s hs;obtain⟨r,hr,hrc⟩:=mem r' hr';have hsr:s∈F.after r.work:=by rcases hrc with rfl | ⟨_,_,rfl⟩ <;> exact hs
  have:=hT.doneBy (h.ord r hr s hsr);have e:r'.from_=r.from_:=by rcases hrc with rfl | ⟨_,_,rfl⟩ <;> rfl
  rw[e];exact this
 ·exact pairwise_map_key (fun r=>finRun_work r) h.dis
 ·intro t ht k hk;have:=h.hist t ht k hk;rw[show cntAt (finQ F q).runs t k=cntAt q.runs t k from hT.cnt (by omega) q.runs k];exact this
 ·intro k hk;have:=h.bus k hk;have h2:busy (finQ F q).runs k≤busy q.runs k:=hT.busy_le q.runs k;omega
theorem Inv.lose {F:FP} (hF:FFine F) {lo:Int} {q:QS} (h:Inv F lo q.at_ q) (hlo:lo<q.at_):Inv F lo (q.at_+1) (loseQ F q):=by
 have hT:=lose_turn F q.at_;have hgo:∀ k,goingOf (q.runs.map (loseRun F q.at_)) k=(goingOf q.runs k).filter fun r=>!goes F r.worker q.at_:=fun k =>
  goingOf_map (c:=fun r=>goes F r.worker q.at_) (fun r h=>loseRun_no h) (fun r a b=>loseRun_ended a b) (fun r=>(loseRun_work r).1) k q.runs
 have mem:∀ r'∈q.runs.map (loseRun F q.at_),∃ r∈q.runs,(r'=r∧(going r=true→goes F r.worker q.at_=false))∨(going r=true∧goes F r.worker q.at_=true∧r' = { r with to_:=q.at_,end_:=2 }):=by
  intro r' hr';obtain⟨r,hr,rfl⟩:=List.mem_map.1 hr';refine⟨r,hr,?_⟩
  by_cases hc:(going r&&goes F r.worker q.at_)=true
  ·simp only[Bool.and_eq_true]at hc;exact .inr ⟨hc.1,hc.2,loseRun_yes (by rw[hc.1,hc.2];rfl)⟩
  ·have hc:(going r&&goes F r.worker q.at_)=false:=by simpa using hc
   exact .inl ⟨loseRun_no hc,fun hg=>by rw[hg]at hc;simpa using hc⟩
 refine⟨?_,h.t0,?_,?_,?_,?_,?_,?_,?_,?_,?_,?_,?_,?_,?_,?_,?_,?_⟩
 ·intro r' hr';obtain⟨r,hr,⟨rfl,_⟩ | ⟨_,_,rfl⟩⟩:=mem r' hr'
  ·exact h.named _ hr
  ·exact h.named r hr
 ·intro r' hr';obtain⟨r,hr,⟨rfl,_⟩ | ⟨_,_,rfl⟩⟩:=mem r' hr'
  ·exact h.fr _ hr
  ·exact h.fr r hr
 ·intro r' hr' hg;obtain⟨r,hr,⟨rfl,hn⟩ | ⟨_,_,rfl⟩⟩:=mem r' hr'
  ·obtain⟨a,b,c⟩:=h.go _ hr hg;have:=hn hg;unfold goes at this;rw[Bool.or_eq_false_iff]at this;have hne:F.wto r'.worker≠q.at_:=by simpa using this.1
   exact⟨a,by omega,c⟩
  ·exact absurd hg (by simp[going])
 ·intro r' hr' hg;obtain⟨r,hr,⟨rfl,_⟩ | ⟨h1,h2,rfl⟩⟩:=mem r' hr'
  ·exact h.en _ hr hg
  ·obtain⟨a,b,c⟩:=h.go r hr h1;exact⟨by show r.from_<q.at_;omega,Int.le_refl _,b,by show (1:Int)≤2;omega,by show (2:Int)≤3;omega⟩
 ·intro r' hr' he;obtain⟨r,hr,⟨rfl,_⟩ | ⟨h1,h2,rfl⟩⟩:=mem r' hr'
  ·exact h.e1 _ hr he
  ·exact absurd he (by show ¬ (2:Int)=1;omega)
 ·intro i;show (goingOf (q.runs.map _) i).length≤2∧(goingOf (q.runs.map _) i).Pairwise _;rw[hgo];obtain⟨a,b⟩:=h.two i;exact⟨Nat.le_trans (List.length_filter_le _ _) a,b.filter _⟩
 ·intro k;show q.done k=true↔_;rw[h.don k]
  constructor
  ·rintro⟨r,hr,hw,he⟩;exact⟨r,List.mem_map.2 ⟨r,hr,loseRun_no (by rw[end1_not_going he];rfl)⟩,hw,he⟩
  ·rintro⟨r',hr',hw,he⟩;obtain⟨r,hr,⟨rfl,_⟩ | ⟨h1,h2,rfl⟩⟩:=mem r' hr'
   ·exact⟨_,hr,hw,he⟩
   ·exact absurd he (by show ¬ (2:Int)=1;omega)
 ·intro k;show (q.runs.map _).countP _≤1;rw[List.countP_map];refine Nat.le_trans (Nat.le_of_eq (countP_eq_of fun r hr=>?_)) (h.don1 k);simp only[Function.comp]
  rcases loseRun_cases (F:=F) (t:=q.at_) r with e | ⟨h1,_,e⟩
  ·rw[e]
  ·rw[e];unfold isEnd;rw[going_end h1];simp
 ·intro k hk;show goingOf (q.runs.map _) k = [];rw[hgo,h.dong k hk];rfl
 ·intro k hk r' hr' hw d' hd' hdw he;obtain⟨r,hr,hrc⟩:=mem r' hr';obtain⟨d,hd,⟨rfl,_⟩ | ⟨d1,d2,rfl⟩⟩:=mem d' hd'
  ·rcases hrc with ⟨rfl,_⟩ | ⟨r1,r2,rfl⟩
   ·exact h.doni k hk _ hr hw _ hd hdw he
   ·have:r∈goingOf q.runs k:=List.mem_filter.2 ⟨hr,by rw[r1,show r.work=k from hw];simp⟩;rw[h.dong k hk]at this;cases this
  ·exact absurd he (by show ¬ (2:Int)=1;omega)
 ·intro k;show q.lost k+(lostNow F q.at_ q.runs k:Nat)=_;rw[h.los k];have:((loseQ F q).runs.countP (isEnd 2 k))=q.runs.countP (isEnd 2 k)+lostNow F q.at_ q.runs k:=by
   show (q.runs.map _).countP _=_;rw[List.countP_map];unfold lostNow;refine countP_or (fun r hr=>?_) (fun r hr=>?_)
   ·simp only[Function.comp];unfold isEnd;rw[(loseRun_work r).1]
    rcases loseRun_cases (F:=F) (t:=q.at_) r with e | ⟨h1,h2,e⟩
    ·rw[e]
     cases hc:(going r&&goes F r.worker q.at_)
     ·simp
     ·rw[loseRun_yes hc]at e;have:=congrArg RR.end_ e;simp only at this;simp only[Bool.and_eq_true]at hc;rw[going_end hc.1]at this;omega
    ·rw[e,h1,h2,going_end h1];simp
   ·rintro⟨a,b⟩;simp only[isEnd,Bool.and_eq_true,beq_iff_eq]at a b;rw[end2_not_going a.2]at b;exact absurd b.2.1 (by decide)
  rw[this];omega
 ·intro k;have:(loseQ F q).runs.countP (onWork k)=q.runs.countP (onWork k):=countP_map_work (fun r=>(loseRun_work r).1) k q.runs;rw[this];exact h.cnt k
 ·intro k hk r' hr' hw;obtain⟨r,hr,⟨rfl,_⟩ | ⟨h1,h2,rfl⟩⟩:=mem r' hr'
  ·exact h.cnt0 k hk _ hr hw
  ·exact .inr rfl
 ·intro r' hr' s hs;obtain⟨r,hr,hrc⟩:=mem r' hr';have hsr:s∈F.after r.work:=by rcases hrc with ⟨rfl,_⟩ | ⟨_,_,rfl⟩ <;> exact hs
  have:=hT.doneBy (h.ord r hr s hsr);have e:r'.from_=r.from_:=by rcases hrc with ⟨rfl,_⟩ | ⟨_,_,rfl⟩ <;> rfl
  rw[e];exact this
 ·exact pairwise_map_key (fun r=>loseRun_work r) h.dis
 ·intro t ht k hk;have:=h.hist t ht k hk;rw[show cntAt (loseQ F q).runs t k=cntAt q.runs t k from hT.cnt (by omega) q.runs k];exact this
 ·intro k hk;have:=h.bus k hk;have h2:busy (loseQ F q).runs k≤busy q.runs k:=hT.busy_le q.runs k;omega
theorem cnt_busy {F:FP} {lo hi:Int} {q:QS} (h:Inv F lo hi q) {t:Int} (ht:q.at_≤t) (k:Nat):cntAt q.runs t k≤busy q.runs k:=by
 unfold cntAt busy;refine countP_le_of fun r hr hx=>?_;simp only[Bool.and_eq_true,Bool.or_eq_true,decide_eq_true_eq]at hx ⊢
 cases hg:going r
 ·rw[hg]at hx;have:=(h.en r hr hg).2.1
  rcases hx.2.2 with h | h
  ·cases h
  ·omega
 ·exact⟨rfl,hx.1⟩
theorem Inv.now {F:FP} {q:QS} (h:Inv F (q.at_-1) (q.at_+1) q):Inv F q.at_ (q.at_+1) q:=by
 refine⟨h.named,h.t0,h.fr,fun r hr hg=>?_,h.en,h.e1,h.two,h.don,h.don1,h.dong,h.doni,h.los,h.cnt,h.cnt0,h.ord,h.dis,fun t ht k hk=>?_,h.bus⟩
 ·obtain⟨a,b,c⟩:=h.go r hr hg;exact⟨by omega,b,c⟩
 ·rcases Int.lt_or_le (q.at_-1) t with hlt | hle
  ·have:=cnt_busy h (t:=t) (by omega) k;have:=h.bus k hk;omega
  ·exact h.hist t hle k hk
theorem Inv.at {F:FP} {q:QS} (h:Inv F q.at_ (q.at_+1) q) {n:Int} (hn:nextQ F q=some n):Inv F (n-1) n { q with at_:=n }:=by
 obtain⟨n1,n2,n3⟩:=above_some hn;have h0:=h.t0;refine⟨h.named,by show 0≤n;omega,h.fr,fun r hr hg=>?_,fun r hr hg=>?_,h.e1,h.two,h.don,h.don1,h.dong,h.doni,h.los,h.cnt,h.cnt0,h.ord,h.dis,fun t ht k hk=>?_,h.bus⟩
 ·obtain⟨a,b,c⟩:=h.go r hr hg;refine⟨by omega,?_,c⟩;exact n3 _ (mem_candsQ.2 (.inl ⟨_,(h.named r hr).1,.inr rfl⟩)) (by omega)
 ·obtain⟨a,b,c⟩:=h.en r hr hg;exact⟨a,by show r.to_≤n;omega,c⟩
 ·rcases Int.lt_or_le q.at_ t with hlt | hle
  ·have:=cnt_busy h (t:=t) (by omega) k;have:=h.bus k hk;show (cntAt q.runs t k:Int)≤_;omega
  ·exact h.hist t hle k hk
theorem Inv.begin {F:FP} (hF:FFine F) {q:QS} (h:Inv F q.at_ (q.at_+1) q) {i:Nat} (hi:i<F.nX) {but:Option Nat} (hd:q.done i=false) (hl:q.lost i<F.tries)
  (hrd:∀ s∈F.after i,q.done s=true) (hg:goingOf q.runs i = []∨∃ r,goingOf q.runs i = [r]∧r.from_<q.at_∧but=some r.worker):Inv F q.at_ (q.at_+1) { q with runs:=beginR F q.at_ i but q.runs }:=by
 unfold beginR
 split
 ·exact h
 ·rename_i k hk
  obtain⟨hkW,hc⟩:=bestW_some hk;simp only[canW,Bool.and_eq_true,decide_eq_true_eq,Bool.not_eq_true',beq_eq_false_iff_ne]at hc;obtain⟨c0,c1,c2,c3,c4⟩:=hc;have hmem:∀ r,r∈q.runs ++ [(⟨i,k,q.at_,0,0⟩:RR)]↔r∈q.runs∨r=⟨i,k,q.at_,0,0⟩:=by intro r;simp
  have hold:∀ r∈q.runs,r.work=i→r.from_<q.at_:=by
   intro r hr hw
   cases hgr:going r
   ·have:=h.en r hr hgr;omega
   ·have hm:r∈goingOf q.runs i:=List.mem_filter.2 ⟨hr,by rw[hgr,hw];simp⟩
    rcases hg with hg | ⟨r0,hg,hlt,_⟩
    ·rw[hg]at hm;cases hm
    ·rw[hg]at hm;rw[List.mem_singleton.1 hm];exact hlt
  have happ:∀ j,goingOf (q.runs ++ [(⟨i,k,q.at_,0,0⟩:RR)]) j=if j=i then goingOf q.runs i ++ [⟨i,k,q.at_,0,0⟩] else goingOf q.runs j:=by
   intro j;rw[goingOf_app]
   by_cases e:j=i
   ·subst e;rw[if_pos rfl];simp[goingOf,going]
   ·have h0:goingOf [(⟨i,k,q.at_,0,0⟩:RR)] j = []:=goingOf_other (i:=i) (fun r hr=>by rw[List.mem_singleton.1 hr]) e;rw[if_neg e,h0,List.append_nil]
  have hdb:∀ t s,DoneBy q.runs t s→DoneBy (q.runs ++ [(⟨i,k,q.at_,0,0⟩:RR)]) t s:=fun t s ⟨d,a,b⟩=>⟨d,(hmem d).2 (.inl a),b⟩;refine⟨?_,h.t0,?_,?_,?_,?_,?_,?_,?_,?_,?_,?_,?_,?_,?_,?_,?_,?_⟩
  ·intro r hr
   rcases(hmem r).1 hr with hr | rfl
   ·exact h.named r hr
   ·exact⟨hkW,hi⟩
  ·intro r hr
   rcases(hmem r).1 hr with hr | rfl
   ·exact h.fr r hr
   ·exact⟨c1,h.t0,c2,c4⟩
  ·intro r hr hgr
   rcases(hmem r).1 hr with hr | rfl
   ·exact h.go r hr hgr
   ·exact⟨Int.le_refl _,by show q.at_+1≤F.wto k;omega,rfl⟩
  ·intro r hr hgr
   rcases(hmem r).1 hr with hr | rfl
   ·exact h.en r hr hgr
   ·cases hgr
  ·intro r hr he
   rcases(hmem r).1 hr with hr | rfl
   ·exact h.e1 r hr he
   ·cases he
  ·intro j;show (goingOf (q.runs++_) j).length≤2∧_;rw[happ]
   split
   ·rcases hg with hg | ⟨r,hg,_,hb⟩
    ·rw[hg];exact⟨by simp,by simp⟩
    ·rw[hg];refine⟨by simp,?_⟩;simp only[List.singleton_append,List.pairwise_cons,List.mem_singleton,List.not_mem_nil,false_imp_iff,implies_true,List.Pairwise.nil,and_true];intro a ha;subst ha;intro e;exact c0 (by rw[hb,e])
   ·exact h.two j
  ·intro j;rw[show ({ q with runs:=q.runs ++ [(⟨i,k,q.at_,0,0⟩:RR)] }:QS).done j=q.done j from rfl,h.don j]
   constructor
   ·rintro⟨r,hr,a,b⟩;exact⟨r,(hmem r).2 (.inl hr),a,b⟩
   ·rintro⟨r,hr,a,b⟩
    rcases(hmem r).1 hr with hr | rfl
    ·exact⟨r,hr,a,b⟩
    ·cases b
  ·intro j;show (q.runs++_).countP _≤1;rw[List.countP_append];have:=h.don1 j
   simpa[isEnd]using this
  ·intro j hj;show goingOf (q.runs++_) j = [];rw[happ,if_neg (by intro e;subst e;rw[show q.done j=true from hj]at hd;cases hd)];exact h.dong j hj
  ·intro j hj r hr hw d hd' hdw he
   rcases(hmem d).1 hd' with hd' | rfl
   ·rcases(hmem r).1 hr with hr | rfl
    ·exact h.doni j hj r hr hw d hd' hdw he
    ·have e:j=i:=hw.symm;subst e;rw[show q.done j=true from hj]at hd;cases hd
   ·cases he
  ·intro j;show q.lost j=_;rw[h.los j]
   congr 1
   show _=(q.runs++_).countP _;rw[List.countP_append];simp[isEnd]
  ·intro j;show ((q.runs ++ [(⟨i,k,q.at_,0,0⟩:RR)]).countP _:Nat)≤F.tries+1;rw[List.countP_append];have hc:=h.cnt j
   by_cases e:j=i
   ·subst e;have hsum:q.runs.countP (onWork j)=q.runs.countP (fun r=>going r&&r.work==j)+q.runs.countP (isEnd 2 j):=by
     refine countP_or (fun r hr=>?_) (fun r hr=>?_)
     ·unfold onWork isEnd
      by_cases hw:r.work=j
      ·rcases h.cnt0 j hd r hr hw with a | a
       ·rw[a,hw];simp
       ·rw[a,hw];simp
      ·have:(r.work==j)=false:=by simpa using hw
       rw[this];simp
     ·rintro⟨a,b⟩;simp only[isEnd,Bool.and_eq_true,beq_iff_eq]at a b;rw[end2_not_going b.2]at a;exact absurd a.1 (by decide)
    have hgl:q.runs.countP (fun r=>going r&&r.work==j)=(goingOf q.runs j).length:=by
     unfold goingOf;rw[List.countP_eq_length_filter]
    have hl2:=h.los j;have:(goingOf q.runs j).length≤1:=by
     rcases hg with hg | ⟨r,hg,_⟩ <;> rw[hg] <;> simp
    have h1:[(⟨j,k,q.at_,0,0⟩:RR)].countP (onWork j)=1:=by simp[onWork]
    rw[h1];omega
   ·have h1:[(⟨i,k,q.at_,0,0⟩:RR)].countP (onWork j)=0:=by simp[onWork];exact fun e2=>e e2.symm
    rw[h1];omega
  ·intro j hj r hr hw
   rcases(hmem r).1 hr with hr | rfl
   ·exact h.cnt0 j hj r hr hw
   ·exact .inl rfl
  ·intro r hr s hs
   rcases(hmem r).1 hr with hr2 | rfl
   ·exact hdb _ _ (h.ord r hr2 s hs)
   ·obtain⟨d,hd1,hd2,hd3⟩:=(h.don s).1 (hrd s hs);exact⟨d,(hmem d).2 (.inl hd1),hd2,hd3,(h.en d hd1 (end1_not_going hd3)).2.1⟩
  ·refine List.pairwise_append.2 ⟨h.dis,List.pairwise_singleton _ _,fun a ha b hb=>?_⟩;rw[List.mem_singleton.1 hb];rintro⟨e1,e2,_⟩;have:=hold a ha e2;have e1:a.from_=q.at_:=e1;omega
  ·intro t ht k' hk';show (cntAt (q.runs++_) t k':Int)≤_;have hcc:cntAt (q.runs ++ [(⟨i,k,q.at_,0,0⟩:RR)]) t k'=cntAt q.runs t k'+if k=k'∧q.at_≤t then 1 else 0:=by
    unfold cntAt;rw[List.countP_append,List.countP_singleton]
    congr 1
    simp[going]
   rw[hcc];have hh:=h.hist t ht k' hk'
   split
   ·rename_i hc
    obtain⟨rfl,hat⟩:=hc;have:=cnt_busy h hat k;omega
   ·omega
  ·intro k' hk';show (busy (q.runs++_) k':Int)≤_;have hb:busy (q.runs ++ [(⟨i,k,q.at_,0,0⟩:RR)]) k'=busy q.runs k'+if k=k' then 1 else 0:=by
    unfold busy;rw[List.countP_append,List.countP_singleton]
    congr 1
    simp[going]
   rw[hb];have hh:=h.bus k' hk'
   split
   ·rename_i hc;subst hc;omega
   ·omega
theorem runsAny_goingOf {R:List RR} {i:Nat}:runsAny R i=false↔goingOf R i = []:=by
 unfold runsAny goingOf;rw[List.any_eq_false,List.filter_eq_nil_iff]
theorem Inv.strtR {F:FP} (hF:FFine F) {q:QS} {R:List RR} (h:Inv F q.at_ (q.at_+1) { q with runs:=R }) {i:Nat} (hi:i<F.nX):Inv F q.at_ (q.at_+1) { q with runs:=strtR F q R i }:=by
 unfold Go.Proofs.YtbnkoefljcekbaaGreatDoor.strtR
 split
 ·rename_i hc
  simp only[canS,Bool.and_eq_true,decide_eq_true_eq,Bool.not_eq_true']at hc;obtain⟨a,b,c,d⟩:=hc;exact Inv.begin hF (q:={ q with runs:=R }) h hi a b (fun s hs=>List.all_eq_true.1 d s hs) (.inl (runsAny_goingOf.1 c))
 ·exact h
theorem Inv.starts {F:FP} (hF:FFine F) {q:QS}:∀ (o:List Nat),(∀ i∈o,i<F.nX)→∀ R:List RR,Inv F q.at_ (q.at_+1) { q with runs:=R }→Inv F q.at_ (q.at_+1) { q with runs:=o.foldl (Go.Proofs.YtbnkoefljcekbaaGreatDoor.strtR F q) R }
 | [],_,R,h=>h
 | i::o,ho,R,h=>Inv.starts hF o (fun j hj=>ho j (List.mem_cons_of_mem _ hj)) _ (h.strtR hF (ho i List.mem_cons_self))
def RdyG (F:FP) (q:QS):Prop:=∀ r∈q.runs,∀ s∈F.after r.work,q.done s=true
theorem Inv.rdy {F:FP} {lo hi:Int} {q:QS} (h:Inv F lo hi q):RdyG F q:=fun r hr s hs=>by
 obtain⟨d,a,b,c,_⟩:=h.ord r hr s hs;exact(h.don s).2 ⟨d,a,b,c⟩
theorem Inv.dblR {F:FP} (hF:FFine F) {q:QS} {R:List RR} (h:Inv F q.at_ (q.at_+1) { q with runs:=R }) {i:Nat} (hi:i<F.nX):Inv F q.at_ (q.at_+1) { q with runs:=dblR F q.at_ q.lost R i }:=by
 unfold Go.Proofs.YtbnkoefljcekbaaGreatDoor.dblR
 split
 ·rename_i r hg
  split
  ·rename_i hc
   simp only[Bool.and_eq_true,decide_eq_true_eq]at hc;have hm:r∈goingOf R i:=by rw[hg];exact List.mem_cons_self
   obtain⟨hr,hgw⟩:=List.mem_filter.1 hm;simp only[Bool.and_eq_true,beq_iff_eq]at hgw;have hd:q.done i=false:=by
    cases hd:q.done i
    ·rfl
    ·have:=h.dong i hd;rw[show ({ q with runs:=R }:QS).runs=R from rfl,hg]at this;cases this
   refine Inv.begin hF (q:={ q with runs:=R }) h hi hd hc.2 (fun s hs=>h.rdy r hr s (by rw[hgw.2];exact hs)) (.inr ⟨r,hg,?_,rfl⟩);have h1:=hF.secs r.worker r.work (h.named r hr).1 (h.named r hr).2;have h2:=hc.1;unfold late at h2;show r.from_<q.at_;omega
  ·exact h
 ·exact h
theorem Inv.dbls {F:FP} (hF:FFine F) {q:QS}:∀ (o:List Nat),(∀ i∈o,i<F.nX)→∀ R:List RR,Inv F q.at_ (q.at_+1) { q with runs:=R }→Inv F q.at_ (q.at_+1) { q with runs:=o.foldl (Go.Proofs.YtbnkoefljcekbaaGreatDoor.dblR F q.at_ q.lost) R }
 | [],_,R,h=>h
 | i::o,ho,R,h=>Inv.dbls hF o (fun j hj=>ho j (List.mem_cons_of_mem _ hj)) _ (h.dblR hF (ho i List.mem_cons_self))
theorem Inv.step {F:FP} (hF:FFine F) {q:QS} (h:Inv F (q.at_-1) q.at_ q):Inv F q.at_ (q.at_+1) (stepQ F q):=by
 have h1:=h.fin hF (by omega) (Int.le_refl _);have h2:Inv F (q.at_-1) (q.at_+1) (loseQ F (finQ F q)):=Inv.lose hF (q:=finQ F q) h1 (by show q.at_-1<q.at_;omega);have h3:Inv F q.at_ (q.at_+1) (loseQ F (finQ F q)):=Inv.now (q:=loseQ F (finQ F q)) h2;have h4:Inv F q.at_ (q.at_+1) (startQ F (loseQ F (finQ F q))):=Inv.starts hF (q:=loseQ F (finQ F q)) F.order hF.lt _ h3;unfold stepQ dblQ
 split
 ·exact Inv.dbls hF (q:=startQ F (loseQ F (finQ F q))) (List.range F.nX) (fun i hi=>List.mem_range.1 hi) _ h4
 ·exact h4
end Go.Proofs.YtbnkoefljcekbaaGreatDoor