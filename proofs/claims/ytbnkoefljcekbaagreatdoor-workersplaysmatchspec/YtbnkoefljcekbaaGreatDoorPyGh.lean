/-
 Several texts of mine as one, without what is not wanted here: XQl, XTake, XCrB, XTailIn.
-/
import Derived.Test.YtbnkoefljcekbaaGreatDoorPyGg
import Derived.RangeFuncCalls
import Derived.OwnWalkIn
import Derived.OrdersIn
import Derived.StillTailTactics
set_option linter.unusedVariables false
set_option linter.unusedSimpArgs false
set_option maxRecDepth 100000
set_option maxHeartbeats 8000000
namespace Go.Proofs.YtbnkoefljcekbaaGreatDoor
def goI (R:List RR) (k i:Nat):Bool:=(R[i]?).any fun r=>going r&&r.work==k
def gix (R:List RR) (k:Nat):List Nat:=(List.range R.length).filter (goI R k)
theorem goI_get {R:List RR} {k i:Nat} {r:RR} (h:R[i]? = some r):goI R k i=(going r&&r.work==k):=by unfold goI;rw[h];rfl
theorem mem_gix {R:List RR} {k i:Nat}:i∈gix R k↔∃ r,R[i]? = some r∧going r=true∧r.work=k:=by
 unfold gix;rw[List.mem_filter,List.mem_range]
 constructor
 ·rintro⟨h1,h2⟩;rw[goI_get (List.getElem?_eq_getElem h1),Bool.and_eq_true,beq_iff_eq]at h2;exact⟨_,List.getElem?_eq_getElem h1,h2⟩
 ·rintro⟨r,h1,h2,h3⟩;exact⟨(List.getElem?_eq_some_iff.1 h1).1,by rw[goI_get h1,h2,h3];simp⟩
theorem gix_go (R:List RR) (k:Nat):∀ n,n≤R.length→((List.range n).filter (goI R k)).filterMap (R[·]?)=goingOf (R.take n) k
 | 0,_=>by simp[goingOf]
 | n+1,h=>by
  have hn:=List.getElem?_eq_getElem (l:=R) (i:=n) (by omega);rw[List.range_succ,List.filter_append,List.filterMap_append,gix_go R k n (by omega),List.take_add_one,hn,Option.toList_some];unfold goingOf;rw[List.filter_append]
  congr 1
  by_cases e:goI R k n=true
  ·rw[List.filter_cons_of_pos e,List.filter_nil,List.filterMap_cons,hn];rw[goI_get hn]at e;rw[List.filter_cons_of_pos (p:=fun r:RR=>going r&&r.work==k) e];rfl
  ·rw[List.filter_cons_of_neg e,List.filter_nil,List.filterMap_nil];rw[goI_get hn]at e;rw[List.filter_cons_of_neg (p:=fun r:RR=>going r&&r.work==k) e];rfl
theorem gix_map (R:List RR) (k:Nat):(gix R k).filterMap (R[·]?)=goingOf R k:=by
 have:=gix_go R k R.length (Nat.le_refl _)
 rwa [List.take_length]at this
theorem gix_len (R:List RR) (k:Nat):(gix R k).length=(goingOf R k).length:=by
 rw[← gix_map];have:∀ l:List Nat,(∀ i∈l,i<R.length)→l.length=(l.filterMap (R[·]?)).length:=by
  intro l
  induction l with
  | nil=>intro _;rfl
  | cons i l ih =>
   intro h;rw[List.filterMap_cons,List.getElem?_eq_getElem (h i List.mem_cons_self),List.length_cons,List.length_cons,ih (fun j hj=>h j (List.mem_cons_of_mem _ hj))]
 exact this _ (fun i hi=>by obtain⟨r,hr,_⟩:=mem_gix.1 hi;exact(List.getElem?_eq_some_iff.1 hr).1)
theorem gix_nil {R:List RR} {k:Nat}:(gix R k).length=0↔runsAny R k=false:=by
 rw[gix_len,runsAny_goingOf,List.length_eq_zero_iff]
theorem gix_one {R:List RR} {k:Nat} (h:(gix R k).length=1):∃ i r,gix R k = [i]∧R[i]? = some r∧goingOf R k = [r]∧r.work=k∧going r=true:=by
 obtain⟨i,hi⟩:=List.length_eq_one_iff.1 h;obtain⟨r,hr,hg,hw⟩:=mem_gix.1 (show i∈gix R k by rw[hi];exact List.mem_singleton.2 rfl);refine⟨i,r,hi,hr,?_,hw,hg⟩;rw[← gix_map,hi,List.filterMap_cons,hr];rfl
/-! ### the best of those that end -/
def wkI (R:List RR) (i:Nat):Nat:=((R[i]?).map (·.worker)).getD 0
def candI (F:FP) (t:Int) (R:List RR) (i:Nat):Bool:=(R[i]?).any (cand F t)
def bstI (F:FP) (t:Int) (R:List RR) (b:Option Nat) (i:Nat):Option Nat:=if candI F t R i=true then (match b with
 | none=>some i
 | some j=>if wkI R i<wkI R j then some i else some j) else b
structure BstOk (F:FP) (t:Int) (R:List RR) (l:List Nat) (b0 b:Option Nat):Prop where
 non:b=none→b0=none∧∀ i∈l,candI F t R i=false
 som:∀ j,b=some j→(b0=some j∨j∈l∧candI F t R j=true)∧(∀ i,b0=some i→wkI R j≤wkI R i)∧∀ i∈l,candI F t R i=true→wkI R j≤wkI R i
theorem bst_ok (F:FP) (t:Int) (R:List RR):∀ (l:List Nat) (b0:Option Nat),BstOk F t R l b0 (l.foldl (bstI F t R) b0)
 | [],b0=>⟨fun h=>⟨h,fun i hi=>by cases hi⟩,fun j h=>⟨.inl h,fun i hi=>by have:b0=some j:=h;rw[this]at hi;injection hi with hi;rw[hi];exact Nat.le_refl _,fun i hi=>by cases hi⟩⟩
 | x::l,b0=>by
  have ih:=bst_ok F t R l (bstI F t R b0 x);rw[List.foldl_cons];refine⟨fun h=>?_,fun j h=>?_⟩
  ·obtain⟨h1,h2⟩:=ih.non h;unfold bstI at h1
   by_cases hc:candI F t R x=true
   ·rw[if_pos hc]at h1
    cases b0 with
    | none=>cases h1
    | some y=>simp only at h1;split at h1 <;> cases h1
   ·rw[if_neg hc]at h1;refine⟨h1,fun i hi=>?_⟩
    rcases List.mem_cons.1 hi with rfl | hi
    ·simpa using hc
    ·exact h2 i hi
  ·obtain⟨h1,h2,h3⟩:=ih.som j h
   by_cases hc:candI F t R x=true
   ·cases b0 with
    | none =>
     have e:bstI F t R none x=some x:=by unfold bstI;rw[if_pos hc]
     rw[e]at h1 h2;refine⟨?_,(fun i hi=>by cases hi),fun i hi hci=>?_⟩
     ·rcases h1 with h1 | ⟨h1,h4⟩
      ·injection h1 with h1;subst h1;exact .inr ⟨List.mem_cons_self,hc⟩
      ·exact .inr ⟨List.mem_cons_of_mem _ h1,h4⟩
     ·rcases List.mem_cons.1 hi with rfl | hi
      ·exact h2 _ rfl
      ·exact h3 i hi hci
    | some y =>
     by_cases hlt:wkI R x<wkI R y
     ·have e:bstI F t R (some y) x=some x:=by unfold bstI;rw[if_pos hc];simp only;rw[if_pos hlt]
      rw[e]at h1 h2;have hx:=h2 x rfl;refine⟨?_,fun i hi=>by injection hi with hi;subst hi;omega,fun i hi hci=>?_⟩
      ·rcases h1 with h1 | ⟨h1,h4⟩
       ·injection h1 with h1;subst h1;exact .inr ⟨List.mem_cons_self,hc⟩
       ·exact .inr ⟨List.mem_cons_of_mem _ h1,h4⟩
      ·rcases List.mem_cons.1 hi with rfl | hi
       ·exact hx
       ·exact h3 i hi hci
     ·have e:bstI F t R (some y) x=some y:=by unfold bstI;rw[if_pos hc];simp only;rw[if_neg hlt]
      rw[e]at h1 h2;have hy:=h2 y rfl;refine⟨?_,fun i hi=>by injection hi with hi;subst hi;exact hy,fun i hi hci=>?_⟩
      ·rcases h1 with h1 | ⟨h1,h4⟩
       ·exact .inl h1
       ·exact .inr ⟨List.mem_cons_of_mem _ h1,h4⟩
      ·rcases List.mem_cons.1 hi with rfl | hi
       ·omega
       ·exact h3 i hi hci
   ·have e:bstI F t R b0 x=b0:=by unfold bstI;rw[if_neg hc]
    rw[e]at h1 h2;refine⟨?_,h2,fun i hi hci=>?_⟩
    ·rcases h1 with h1 | ⟨h1,h4⟩
     ·exact .inl h1
     ·exact .inr ⟨List.mem_cons_of_mem _ h1,h4⟩
    ·rcases List.mem_cons.1 hi with rfl | hi
     ·exact absurd hci hc
     ·exact h3 i hi hci
/-! ### ending runs,by their numbers -/
def rr0:RR:=⟨0,0,0,0,0⟩
def stopR (t how:Int) (r:RR):RR:={ r with to_:=t,end_:=how }
def stopAt (t how:Int) (R:List RR) (i:Nat):List RR:=R.set i (stopR t how (R.getD i rr0))
theorem stopAt_len (t how:Int) (R:List RR) (i:Nat):(stopAt t how R i).length=R.length:=by unfold stopAt;rw[List.length_set]
theorem stopAt_get (t how:Int) (R:List RR) (i j:Nat):(stopAt t how R i)[j]? = if j=i then R[j]?.map (stopR t how) else R[j]?:=by
 unfold stopAt;rw[List.getElem?_set]
 by_cases e:i=j
 ·subst e;rw[if_pos rfl,if_pos rfl]
  by_cases hi:i<R.length
  ·rw[if_pos hi,List.getD_eq_getElem?_getD,List.getElem?_eq_getElem hi];rfl
  ·rw[if_neg hi,List.getElem?_eq_none (by omega)];rfl
 ·rw[if_neg e,if_neg (fun h=>e h.symm)]
theorem stops_get (t how:Int):∀ (l:List Nat) (R:List RR) (j:Nat),(l.foldl (stopAt t how) R)[j]? = if j∈l then R[j]?.map (stopR t how) else R[j]?
 | [],R,j=>by rw[if_neg (by simp)];rfl
 | i::l,R,j=>by
  rw[List.foldl_cons,stops_get t how l,stopAt_get]
  by_cases e:j=i
  ·subst e;rw[if_pos rfl,if_pos List.mem_cons_self]
   by_cases h:j∈l
   ·rw[if_pos h,Option.map_map];rfl
   ·rw[if_neg h]
  ·rw[if_neg e]
   by_cases h:j∈l
   ·rw[if_pos h,if_pos (List.mem_cons_of_mem _ h)]
   ·rw[if_neg h,if_neg (fun h2=>(List.mem_cons.1 h2).elim e h)]
def finTo (F:FP) (t:Int) (R:List RR) (k:Nat) (r:RR):RR:=if r.work<k then finRun F t R r else r
theorem finTo_work (F:FP) (t:Int) (R:List RR) (k:Nat) (r:RR):(finTo F t R k r).work=r.work∧(finTo F t R k r).worker=r.worker∧(finTo F t R k r).from_=r.from_:=by
 unfold finTo finRun
 split
 ·split <;> exact⟨rfl,rfl,rfl⟩
 ·exact⟨rfl,rfl,rfl⟩
theorem finTo_same (F:FP) (t:Int) (R:List RR) {k:Nat} {r:RR} (h:k≤r.work):finTo F t R k r=r:=by unfold finTo;rw[if_neg (by omega)]
theorem finTo_has {F:FP} {t:Int} {R:List RR} {k:Nat}:hasDone F t (R.map (finTo F t R k)) k=hasDone F t R k:=by
 unfold hasDone;rw[List.any_map,Bool.eq_iff_iff,List.any_eq_true,List.any_eq_true]
 constructor
 ·rintro⟨r,hr,h⟩;refine⟨r,hr,?_⟩;simp only[Function.comp,Bool.and_eq_true,beq_iff_eq]at h ⊢;have hw:r.work=k:=by rw[← h.1];exact(finTo_work F t R k r).1.symm
  rw[finTo_same F t R (by omega)]at h;exact h
 ·rintro⟨r,hr,h⟩;refine⟨r,hr,?_⟩;simp only[Function.comp,Bool.and_eq_true,beq_iff_eq]at h ⊢;rw[finTo_same F t R (by omega)];exact h
theorem finTo_best {F:FP} {t:Int} {R:List RR} {k:Nat} {r:RR} (hk:r.work=k):isBest F t (R.map (finTo F t R k)) r=isBest F t R r:=by
 unfold isBest
 congr 1
 rw[List.all_map,Bool.eq_iff_iff,List.all_eq_true,List.all_eq_true];refine forall_congr' fun x=>imp_congr_right fun _=>?_;simp only[Function.comp]
 by_cases hx:x.work=k
 ·rw[finTo_same F t R (by omega)]
 ·have h1:((finTo F t R k x).work==r.work)=false:=by rw[(finTo_work F t R k x).1,hk];simpa using hx
  have h2:(x.work==r.work)=false:=by rw[hk];simpa using hx
  rw[h1,h2];simp
def finOne (F:FP) (t:Int) (R:List RR) (k:Nat):List RR:=match (gix R k).foldl (bstI F t R) none with
 | none=>R
 | some b=>stopAt t 1 ((gix R k).foldl (stopAt t 3) R) b
theorem finRun_turn {F:FP} {t:Int} {R:List RR} {k:Nat} {r:RR} (hk:r.work=k):finRun F t (R.map (finTo F t R k)) r=finRun F t R r:=by
 unfold finRun;rw[finTo_best hk,hk,finTo_has]
theorem finOne_eq {F:FP} {t:Int} {R:List RR} {k:Nat} (h2:(goingOf R k).Pairwise fun a b=>a.worker≠b.worker) :
  finOne F t R k=R.map (fun r=>if r.work=k then finRun F t R r else r)∧(((gix R k).foldl (bstI F t R) none).isSome=hasDone F t R k):=by
 have hb:=bst_ok F t R (gix R k) none;have hcand:∀ i r,R[i]? = some r→candI F t R i=cand F t r:=fun i r h=>by unfold candI;rw[h];rfl
 have hwk:∀ i r,R[i]? = some r→wkI R i=r.worker:=fun i r h=>by unfold wkI;rw[h];rfl
 have hdn:hasDone F t R k=true↔∃ i∈gix R k,candI F t R i=true:=by
  unfold hasDone;rw[List.any_eq_true]
  constructor
  ·rintro⟨r,hr,h⟩;simp only[Bool.and_eq_true,beq_iff_eq]at h;obtain⟨i,hi⟩:=List.getElem?_of_mem hr;refine⟨i,mem_gix.2 ⟨r,hi,?_,h.1⟩,by rw[hcand i r hi];exact h.2⟩;have:=h.2;unfold cand at this;rw[Bool.and_eq_true]at this;exact this.1
  ·rintro⟨i,hi,h⟩;obtain⟨r,hr,hg,hw⟩:=mem_gix.1 hi;rw[hcand i r hr]at h;exact⟨r,List.mem_of_getElem? hr,by rw[hw,h];simp⟩
 unfold finOne
 cases hbe:(gix R k).foldl (bstI F t R) none with
 | none =>
  obtain⟨_,hn⟩:=hb.non hbe;have hd:hasDone F t R k=false:=by
   cases e:hasDone F t R k
   ·rfl
   ·obtain⟨i,hi,h⟩:=hdn.1 e;rw[hn i hi]at h;cases h
  refine⟨?_,by rw[hd];rfl⟩;have:R.map (fun r=>if r.work=k then finRun F t R r else r)=R.map id:=by
   refine List.map_congr_left fun r hr=>?_
   by_cases hw:r.work=k
   ·rw[if_pos hw];unfold finRun;rw[hw,hd,Bool.and_false,if_neg (by decide)];rfl
   ·rw[if_neg hw];rfl
  rw[this,List.map_id]
 | some b =>
  obtain⟨hb1,_,hb3⟩:=hb.som b hbe
  rcases hb1 with hb1 | ⟨hbm,hbc⟩
  ·cases hb1
  have hd:hasDone F t R k=true:=hdn.2 ⟨b,hbm,hbc⟩;refine⟨?_,by rw[hd];rfl⟩;obtain⟨rb,hrb,hgb,hwb⟩:=mem_gix.1 hbm;have hbest:isBest F t R rb=true:=by
   unfold isBest;rw[← hcand b rb hrb,hbc,Bool.true_and,List.all_eq_true];intro x hx
   cases e:(x.work==rb.work&&cand F t x)
   ·rfl
   ·rw[Bool.and_eq_true,beq_iff_eq]at e;obtain⟨i,hi⟩:=List.getElem?_of_mem hx;have hgx:going x=true:=by
     have:=e.2;unfold cand at this;rw[Bool.and_eq_true]at this;exact this.1
    have:=hb3 i (mem_gix.2 ⟨x,hi,hgx,by rw[e.1,hwb]⟩) (by rw[hcand i x hi];exact e.2);rw[hwk b rb hrb,hwk i x hi]at this;simp[this]
  have hpw:R.Pairwise fun a b=>(going a&&a.work==k)=true→(going b&&b.work==k)=true→a.worker≠b.worker:=by
   unfold goingOf at h2;exact List.pairwise_filter.1 h2
  have hdist:∀ i r,R[i]? = some r→going r=true→r.work=k→i≠b→r.worker≠rb.worker:=by
   intro i r hi hg hw hne;obtain⟨i1,i2⟩:=List.getElem?_eq_some_iff.1 hi;obtain⟨b1,b2⟩:=List.getElem?_eq_some_iff.1 hrb;have pr:(going r&&r.work==k)=true:=by rw[hg,hw];simp
   have pb:(going rb&&rb.work==k)=true:=by rw[hgb,hwb];simp
   rw[List.pairwise_iff_getElem]at hpw
   rcases Nat.lt_or_gt_of_ne hne with h | h
   ·have:=hpw i b i1 b1 h;rw[i2,b2]at this;exact this pr pb
   ·have:=hpw b i b1 i1 h;rw[i2,b2]at this;exact fun e=>this pb pr e.symm
  refine List.ext_getElem? fun j=>?_;simp only;rw[stopAt_get,stops_get,List.getElem?_map]
  cases hj:R[j]? with
  | none =>
   simp
  | some r =>
   by_cases hjl:j∈gix R k
   ·obtain⟨r',hr',hg,hw⟩:=mem_gix.1 hjl;rw[hj]at hr';injection hr' with hr';subst hr';rw[if_pos hjl];simp only[Option.map_some];rw[if_pos hw];unfold finRun;rw[hg,hw,hd,Bool.true_and,if_pos rfl]
    by_cases e:j=b
    ·subst e;have:r=rb:=by rw[hj]at hrb;injection hrb
     subst this;rw[if_pos rfl,hbest,if_pos rfl,← hw];rfl
    ·rw[if_neg e,if_neg]
     ·rw[← hw];rfl
     ·intro hbr;have hne:=hdist j r hj hg hw e;have h1:rb.worker≤r.worker:=by
       have hc:candI F t R j=true:=by
        rw[hcand j r hj];unfold isBest at hbr;rw[Bool.and_eq_true]at hbr;exact hbr.1
       have:=hb3 j hjl hc
       rwa [hwk b rb hrb,hwk j r hj]at this
      have h3:r.worker≤rb.worker:=by
       unfold isBest at hbr;rw[Bool.and_eq_true,List.all_eq_true]at hbr;have h4:=hbr.2 rb (List.mem_of_getElem? hrb);rw[← hcand b rb hrb,hbc,hwb,hw]at h4
       simpa using h4
      omega
   ·rw[if_neg hjl];have hjb:j≠b:=fun e=>hjl (by rw[e];exact hbm);rw[if_neg hjb];simp only[Option.map_some]
    congr 1
    by_cases hw:r.work=k
    ·rw[if_pos hw];unfold finRun;have hg:going r=false:=by
      cases e:going r
      ·rfl
      ·exact absurd (mem_gix.2 ⟨r,hj,e,hw⟩) hjl
     rw[hg,Bool.false_and,if_neg (by decide)]
    ·rw[if_neg hw]
theorem goingOf_finTo {F:FP} {t:Int} {R:List RR} {k:Nat}:goingOf (R.map (finTo F t R k)) k=goingOf R k:=by
 have:∀ S:List RR,goingOf (S.map (finTo F t R k)) k=goingOf S k:=by
  intro S
  induction S with
  | nil=>rfl
  | cons r S ih =>
   unfold goingOf at ih ⊢;rw[List.map_cons]
   by_cases hw:r.work=k
   ·rw[finTo_same F t R (by omega)]
    by_cases e:(going r&&r.work==k)=true
    ·rw[List.filter_cons_of_pos (p:=fun r:RR=>going r&&r.work==k) e,List.filter_cons_of_pos (p:=fun r:RR=>going r&&r.work==k) e,ih]
    ·rw[List.filter_cons_of_neg (p:=fun r:RR=>going r&&r.work==k) e,List.filter_cons_of_neg (p:=fun r:RR=>going r&&r.work==k) e,ih]
   ·have h1:¬ (going (finTo F t R k r)&&(finTo F t R k r).work==k)=true:=by
     rw[(finTo_work F t R k r).1];simp[hw]
    have h2:¬ (going r&&r.work==k)=true:=by simp[hw]
    rw[List.filter_cons_of_neg (p:=fun r:RR=>going r&&r.work==k) h1,List.filter_cons_of_neg (p:=fun r:RR=>going r&&r.work==k) h2,ih]
 exact this R
theorem finTo_next {F:FP} {t:Int} {R:List RR} {k:Nat} (h2:(goingOf R k).Pairwise fun a b=>a.worker≠b.worker) :
  finOne F t (R.map (finTo F t R k)) k=R.map (finTo F t R (k+1))∧((gix (R.map (finTo F t R k)) k).foldl (bstI F t (R.map (finTo F t R k))) none).isSome=hasDone F t R k:=by
 obtain⟨a,b⟩:=finOne_eq (F:=F) (t:=t) (R:=R.map (finTo F t R k)) (k:=k) (by rw[goingOf_finTo];exact h2);rw[a,b,finTo_has];refine⟨?_,rfl⟩;rw[List.map_map];refine List.map_congr_left fun r hr=>?_;simp only[Function.comp,(finTo_work F t R k r).1]
 by_cases hw:r.work=k
 ·rw[if_pos hw,finTo_same F t R (by omega),finRun_turn hw];unfold finTo;rw[if_pos (by omega)]
 ·rw[if_neg hw];unfold finTo
  by_cases hlt:r.work<k
  ·rw[if_pos hlt,if_pos (by omega)]
  ·rw[if_neg hlt,if_neg (by omega)]
theorem finTo_zero (F:FP) (t:Int) (R:List RR):R.map (finTo F t R 0)=R:=by
 have:R.map (finTo F t R 0)=R.map id:=List.map_congr_left fun r _=>finTo_same F t R (Nat.zero_le _);rw[this,List.map_id]
theorem finTo_all {F:FP} (t:Int) {R:List RR} {N:Nat} (h:∀ r∈R,r.work<N):R.map (finTo F t R N)=R.map (finRun F t R) :=
 List.map_congr_left fun r hr=>by unfold finTo;rw[if_pos (h r hr)]
/-! ### step 2 -/
def losTo (F:FP) (t:Int) (R:List RR) (m:Nat):List RR:=(R.take m).map (loseRun F t)++R.drop m
theorem losTo_get {F:FP} {t:Int} {R:List RR} {m:Nat} {r:RR} (h:R[m]? = some r):(losTo F t R m)[m]? = some r:=by
 have hl:=(List.getElem?_eq_some_iff.1 h).1;unfold losTo;rw[List.getElem?_append_right (by rw[List.length_map,List.length_take];omega),List.length_map,List.length_take,show m-min m R.length=0 by omega,List.getElem?_drop,Nat.add_zero];exact h
theorem losTo_next {F:FP} {t:Int} {R:List RR} {m:Nat} {r:RR} (h:R[m]? = some r):losTo F t R (m+1)=if (going r&&goes F r.worker t)=true then stopAt t 2 (losTo F t R m) m else losTo F t R m:=by
 have hl:=(List.getElem?_eq_some_iff.1 h).1;have hd:R.drop m=r::R.drop (m+1):=by
  obtain⟨h1,h2⟩:=List.getElem?_eq_some_iff.1 h;rw[← h2];exact List.drop_eq_getElem_cons h1
 have e:losTo F t R (m+1)=(R.take m).map (loseRun F t)++loseRun F t r::R.drop (m+1):=by
  unfold losTo;rw[List.take_add_one,h,Option.toList_some,List.map_append,List.append_assoc];rfl
 rw[e]
 by_cases hc:(going r&&goes F r.worker t)=true
 ·rw[if_pos hc];unfold stopAt;rw[List.getD_eq_getElem?_getD,losTo_get h];unfold losTo;rw[hd,List.set_append_right m _ (by rw[List.length_map,List.length_take];omega)];rw[List.length_map,List.length_take,show m-min m R.length=0 by omega,List.set_cons_zero]
  congr 2
  unfold loseRun;rw[if_pos hc];rfl
 ·rw[if_neg hc];unfold losTo;rw[hd]
  congr 2
  unfold loseRun;rw[if_neg hc]
theorem losTo_all (F:FP) (t:Int) (R:List RR):losTo F t R R.length=R.map (loseRun F t):=by
 unfold losTo;rw[List.take_length,List.drop_length,List.append_nil]
theorem lostNow_take {F:FP} {t:Int} {R:List RR} {m:Nat} {r:RR} (h:R[m]? = some r) (k:Nat):lostNow F t (R.take (m+1)) k=lostNow F t (R.take m) k+if (r.work==k&&(going r&&goes F r.worker t))=true then 1 else 0:=by
 unfold lostNow;rw[List.take_add_one,h,Option.toList_some,List.countP_append,List.countP_cons,List.countP_nil,Nat.zero_add]
/-! ### the next moment -/
def lookO (t:Int) (o:Option Int) (n:Int):Option Int:=if t<n then (match o with
 | none=>some n
 | some m=>if n<m then some n else some m) else o
structure LookOk (t:Int) (l:List Int) (b0 b:Option Int):Prop where
 non:b=none→b0=none∧∀ x∈l,x≤t
 som:∀ m,b=some m→(b0=some m∨m∈l∧t<m)∧(∀ x,b0=some x→m≤x)∧∀ x∈l,t<x→m≤x
theorem look_ok (t:Int):∀ (l:List Int) (b0:Option Int),LookOk t l b0 (l.foldl (lookO t) b0)
 | [],b0=>⟨fun h=>⟨h,fun i hi=>by cases hi⟩,fun j h=>⟨.inl h,fun i hi=>by have:b0=some j:=h;rw[this]at hi;injection hi with hi;omega,fun i hi=>by cases hi⟩⟩
 | x::l,b0=>by
  have ih:=look_ok t l (lookO t b0 x);rw[List.foldl_cons]
  by_cases hc:t<x
  ·cases b0 with
   | none =>
    have e:lookO t none x=some x:=by unfold lookO;rw[if_pos hc]
    rw[e]at ih ⊢;refine⟨(fun h=>by have:=(ih.non h).1;cases this),fun j h=>?_⟩;obtain⟨h1,h2,h3⟩:=ih.som j h;refine⟨?_,(fun i hi=>by cases hi),fun i hi hci=>?_⟩
    ·rcases h1 with h1 | ⟨h1,h4⟩
     ·injection h1 with h1;subst h1;exact .inr ⟨List.mem_cons_self,hc⟩
     ·exact .inr ⟨List.mem_cons_of_mem _ h1,h4⟩
    ·rcases List.mem_cons.1 hi with rfl | hi
     ·exact h2 _ rfl
     ·exact h3 i hi hci
   | some y =>
    by_cases hlt:x<y
    ·have e:lookO t (some y) x=some x:=by unfold lookO;rw[if_pos hc];simp only;rw[if_pos hlt]
     rw[e]at ih ⊢;refine⟨(fun h=>by have:=(ih.non h).1;cases this),fun j h=>?_⟩;obtain⟨h1,h2,h3⟩:=ih.som j h;have hx:=h2 x rfl;refine⟨?_,fun i hi=>by injection hi with hi;subst hi;omega,fun i hi hci=>?_⟩
     ·rcases h1 with h1 | ⟨h1,h4⟩
      ·injection h1 with h1;subst h1;exact .inr ⟨List.mem_cons_self,hc⟩
      ·exact .inr ⟨List.mem_cons_of_mem _ h1,h4⟩
     ·rcases List.mem_cons.1 hi with rfl | hi
      ·exact hx
      ·exact h3 i hi hci
    ·have e:lookO t (some y) x=some y:=by unfold lookO;rw[if_pos hc];simp only;rw[if_neg hlt]
     rw[e]at ih ⊢;refine⟨(fun h=>by have:=(ih.non h).1;cases this),fun j h=>?_⟩;obtain⟨h1,h2,h3⟩:=ih.som j h;have hy:=h2 y rfl;refine⟨?_,fun i hi=>by injection hi with hi;subst hi;exact hy,fun i hi hci=>?_⟩
     ·rcases h1 with h1 | ⟨h1,h4⟩
      ·exact .inl h1
      ·exact .inr ⟨List.mem_cons_of_mem _ h1,h4⟩
     ·rcases List.mem_cons.1 hi with rfl | hi
      ·omega
      ·exact h3 i hi hci
  ·have e:lookO t b0 x=b0:=by unfold lookO;rw[if_neg hc]
   rw[e]at ih ⊢;refine⟨fun h=>?_,fun j h=>?_⟩
   ·obtain⟨h1,h2⟩:=ih.non h;refine⟨h1,fun i hi=>?_⟩
    rcases List.mem_cons.1 hi with rfl | hi
    ·omega
    ·exact h2 i hi
   ·obtain⟨h1,h2,h3⟩:=ih.som j h;refine⟨?_,h2,fun i hi hci=>?_⟩
    ·rcases h1 with h1 | ⟨h1,h4⟩
     ·exact .inl h1
     ·exact .inr ⟨List.mem_cons_of_mem _ h1,h4⟩
    ·rcases List.mem_cons.1 hi with rfl | hi
     ·exact absurd hci hc
     ·exact h3 i hi hci
theorem look_above (t:Int) (l:List Int):l.foldl (lookO t) none=above t l:=by
 have h:=look_ok t l none
 cases e:l.foldl (lookO t) none with
 | none =>
  obtain⟨_,h1⟩:=h.non e
  cases e2:above t l with
  | none=>rfl
  | some m=>obtain⟨a,b,_⟩:=above_some e2;have:=h1 m a;omega
 | some m =>
  obtain⟨h1,_,h3⟩:=h.som m e
  rcases h1 with h1 | ⟨h1,h2⟩
  ·cases h1
  ·obtain⟨m',hm',hle⟩:=above_ex h1 h2;obtain⟨a,b,c⟩:=above_some hm';have:=h3 m' a b;rw[hm']
   congr 1
   omega
end Go.Proofs.YtbnkoefljcekbaaGreatDoor
namespace Go.Proofs.YtbnkoefljcekbaaGreatDoor
open Go.RowKit
theorem takeH {P:Program} {md:Region.Mode} {ops:Array Oper} {Q:Exit→Act→World→Prop} {S:World→Prop} {i:Nat} {d:Option Tmp} {oi:Oper} {v:Value} {fuel:Nat} {listed:Array Bool} {a:Act} {w:World} (hi:ops[i]? = some oi) (hd:oi.dst=d)
  (hs:Region.noSelect ops=true) (hf:Region.free md ops listed i=true) (hr:(Region.ready md ops listed).contains i=true)
  (hQ:∀ c a w,Q (.panic c) (a.put d v) w→Q (.panic c) a w) (hy:YieldsIf P ops S oi v a) (hS:S w)
  (h:wpAnyH P md ops Q S fuel (listed.setIfInBounds i true) (a.put d v) w):wpAnyH P md ops Q S (fuel+1) listed a w:=by
 subst hd;exact wpAnyH_take hi hs hf hr hQ hy hS h
theorem skH {P:Program} {md:Region.Mode} {ops:Array Oper} {Q:Exit→Act→World→Prop} {S:World→Prop} {i:Nat} {d:Option Tmp} {oi:Oper} {fuel:Nat} {listed:Array Bool} {a:Act} {w:World}
  (h:wpAnyH P md ops Q S fuel (listed.setIfInBounds i true) (a.put d undef) w) (hi:ops[i]? = some oi:=by rfl) (hd:oi.dst=d:=by rfl)
  (hs:Region.noSelect ops=true:=by kernel_rfl) (hf:Region.free md ops listed i=true:=by kernel_rfl) (hr:(Region.ready md ops listed).contains i=true:=by kernel_rfl)
  (hQ:∀ c a w,Q (.panic c) (a.put d undef) w→Q (.panic c) a w:=by exact fun _ _ _ h=>h) (hy:YieldsIf P ops S oi undef a:=by exact Or.inr ⟨by rfl,rfl⟩) (hS:S w:=by assumption):wpAnyH P md ops Q S (fuel+1) listed a w :=
 takeH hi hd hs hf hr hQ hy hS h
theorem tkH {P:Program} {md:Region.Mode} {ops:Array Oper} {Q:Exit→Act→World→Prop} {S:World→Prop} {i:Nat} {d:Option Tmp} {oi:Oper} {v:Value} {fuel:Nat} {listed:Array Bool} {a:Act} {w:World}
  (hi:ops[i]? = some oi:=by rfl) (hd:oi.dst=d:=by rfl) (hs:Region.noSelect ops=true:=by kernel_rfl) (hf:Region.free md ops listed i=true:=by kernel_rfl) (hr:(Region.ready md ops listed).contains i=true:=by kernel_rfl)
  (hQ:∀ c a w,Q (.panic c) (a.put d v) w→Q (.panic c) a w:=by exact fun _ _ _ h=>h) (hy:YieldsIf P ops S oi v a) (hS:S w:=by assumption) (h:wpAnyH P md ops Q S fuel (listed.setIfInBounds i true) (a.put d v) w):wpAnyH P md ops Q S (fuel+1) listed a w :=
 takeH hi hd hs hf hr hQ hy hS h
def TK (L:List (Nat × Nat)) (p:Prop):Prop:=p
theorem tkS {p:Prop} (L:List (Nat × Nat)) (h:TK L p):p:=h
theorem tkE {p:Prop} (h:p):TK [] p:=h
theorem tkL {P:Program} {md:Region.Mode} {ops:Array Oper} {Q:Exit→Act→World→Prop} {S:World→Prop} {i dd:Nat} {L:List (Nat × Nat)} {oi:Oper} {fuel:Nat} {listed:Array Bool} {a:Act} {w:World} (v:Value)
  (hv:∀ w,S w→(execOp a.eval oi).run P w = .ok (.value v) w) (h:TK L (wpAnyH P md ops Q S fuel (listed.setIfInBounds i true) (a.put (some dd) v) w))
  (hi:ops[i]? = some oi:=by rfl) (hd:oi.dst=some dd:=by rfl) (hs:Region.noSelect ops=true:=by kernel_rfl) (hf:Region.free md ops listed i=true:=by kernel_rfl) (hr:(Region.ready md ops listed).contains i=true:=by kernel_rfl)
  (hQ:∀ c a w,Q (.panic c) (a.put (some dd) v) w→Q (.panic c) a w:=by exact fun _ _ _ h=>h) (hw:Region.wanted oi (yielded ops a.tmps)=true:=by rfl) (hS:S w:=by assumption):TK ((i,dd)::L) (wpAnyH P md ops Q S (fuel+1) listed a w) :=
 takeH hi hd hs hf hr hQ (.inl ⟨hw,hv⟩) hS h
theorem skL {P:Program} {md:Region.Mode} {ops:Array Oper} {Q:Exit→Act→World→Prop} {S:World→Prop} {i dd:Nat} {L:List (Nat × Nat)} {oi:Oper} {fuel:Nat} {listed:Array Bool} {a:Act} {w:World}
  (h:TK L (wpAnyH P md ops Q S fuel (listed.setIfInBounds i true) (a.put (some dd) undef) w)) (hi:ops[i]? = some oi:=by rfl) (hd:oi.dst=some dd:=by rfl)
  (hs:Region.noSelect ops=true:=by kernel_rfl) (hf:Region.free md ops listed i=true:=by kernel_rfl) (hr:(Region.ready md ops listed).contains i=true:=by kernel_rfl)
  (hQ:∀ c a w,Q (.panic c) (a.put (some dd) undef) w→Q (.panic c) a w:=by exact fun _ _ _ h=>h) (hy:YieldsIf P ops S oi undef a:=by exact Or.inr ⟨by rfl,rfl⟩) (hS:S w:=by assumption):TK ((i,dd)::L) (wpAnyH P md ops Q S (fuel+1) listed a w) :=
 takeH hi hd hs hf hr hQ hy hS h
theorem tkA {α:Type} (l:List α) (i:Nat) (x:α):l.toArray.setIfInBounds i x=(l.set i x).toArray:=List.setIfInBounds_toArray ..
theorem tkB {α:Type} (x y:α) (l:List α):(x::l).set 0 y=y::l:=List.set_cons_zero
theorem tkC {α:Type} (x y:α) (n:Nat) (l:List α):(x::l).set (n+1) y=x::l.set n y:=List.set_cons_succ
end Go.Proofs.YtbnkoefljcekbaaGreatDoor
namespace Go.Proofs.YtbnkoefljcekbaaGreatDoor
section
variable {g:Nat→List Nat} {sz:Nat→Int} {N:Nat} {C:Nat→Int} {out:List Nat}
structure Bk (g:Nat→List Nat) (sz:Nat→Int) (N:Nat) (C:Nat→Int) (out:List Nat) (k:Nat) (S:List Int):Prop where
 len:S.length=N
 done:∀ j,j<N→j∈out.drop (N-k)→gt S j=C j
 left:∀ j,j<N→j ∉ out.drop (N-k)→MaxOf g (·∈out.drop (N-k)) C j (gt S j)
structure Bi (S1:List Int) (c:Int) (pre:List Nat) (S:List Int):Prop where
 len:S.length=S1.length
 at_:∀ j,gt S j=if j∈pre then max (gt S1 j) c else gt S1 j
theorem Bi.nil (S1:List Int) (c:Int):Bi S1 c [] S1:=⟨rfl,fun j=>by simp⟩
theorem Bi.step {S1 S:List Int} {c:Int} {pre:List Nat} (h:Bi S1 c pre S) {k:Nat} (hk:k<S.length):Bi S1 c (pre ++ [k]) (S.set k (max (gt S k) c)):=by
 refine⟨by rw[List.length_set];exact h.len,fun j=>?_⟩;rw[gt_set hk];have:=h.at_ j
 by_cases e:j=k
 ·subst e;rw[if_pos rfl,if_pos (by simp),this]
  split <;> omega
 ·rw[if_neg e,this]
  by_cases hj:j∈pre
  ·rw[if_pos hj,if_pos (by simp[hj])]
  ·rw[if_neg hj,if_neg (by simp[hj,e])]
theorem zero_gt (N k:Nat):gt (List.replicate N (0:Int)) k=0:=by
 unfold gt;rw[List.getD_eq_getElem?_getD]
 by_cases h:k<N
 ·rw[List.getElem?_replicate,if_pos h];rfl
 ·rw[List.getElem?_eq_none (by simp;omega)];rfl
theorem Bk.nil (hl:out.length=N):Bk g sz N C out 0 (List.replicate N 0):=by
 have e:out.drop (N-0) = []:=List.drop_eq_nil_of_le (by omega);refine⟨by simp,fun j _ hj=>(by rw[e]at hj;cases hj),fun j _ _=>?_⟩;rw[e,zero_gt];exact⟨Int.le_refl _,fun k hk=>(by cases hk),.inl rfl⟩
theorem Bk.all {S:List Int} (ht:Topo g N out) (hl:out.length=N) (h:Bk g sz N C out N S):∀ j,j<N→gt S j=C j:=fun j hj=>h.done j hj (by rw[Nat.sub_self,List.drop_zero];exact ht.all hl hj)
theorem Bk.turn {S:List Int} {k i:Nat} (ht:Topo g N out) (hl:out.length=N) (hC:Crit g sz N C) (h:Bk g sz N C out k S) (hk:k<N) (hi:out[N-1-k]? = some i) :
  i<N∧gt S i+sz i=C i∧i ∉ g i∧out.drop (N-(k+1))=i::out.drop (N-k)∧∀ j∈g i,j<N∧j ∉ out.drop (N-k):=by
 have hd:out.drop (N-(k+1))=i::out.drop (N-k):=by
  obtain⟨h1,h2⟩:=List.getElem?_eq_some_iff.1 hi;rw[show N-(k+1)=N-1-k by omega,List.drop_eq_getElem_cons h1,h2,show N-1-k+1=N-k by omega]
 have e:out=out.take (N-(k+1))++i::out.drop (N-k):=by rw[← hd,List.take_append_drop]
 obtain⟨a,ha⟩:∃ a,out.take (N-(k+1))=a:=⟨_,rfl⟩;obtain⟨b,hb⟩:∃ b,out.drop (N-k)=b:=⟨_,rfl⟩;rw[ha,hb]at e;have hiN:i<N:=ht.lt i (by rw[e];simp);have hnd:=ht.nodup;have hpre:∀ j∈g i,j∈a:=fun j hj=>ht.pre a b i e j hj;rw[e]at hnd;have hib:i ∉ b:=fun h=>(List.nodup_cons.1 (List.nodup_append.1 hnd).2.1).1 h;have hig:i ∉ g i:=fun h=>(List.nodup_append.1 hnd).2.2 i (hpre i h) i (by simp) rfl;refine⟨hiN,?_,hig,by rw[hd],fun j hj=>⟨ht.lt j (by rw[e];simp[hpre j hj]),fun h=>?_⟩⟩
 ·obtain⟨m,h1,h2⟩:=hC i hiN;have h3:=h.left i hiN (by rw[hb];exact hib);rw[hb]at h3;have:=h3.uniq (h1.congr (fun q hq=>⟨fun hqN=>topo_behind ht hl e hqN hq,fun hqb=>ht.lt q (by rw[e];simp[hqb])⟩) (fun _ _ _=>rfl));omega
 ·rw[hb]at h;exact(List.nodup_append.1 hnd).2.2 j (hpre j hj) j (by simp[h]) rfl
theorem Bk.step {S S2:List Int} {k i:Nat} (ht:Topo g N out) (hl:out.length=N) (hC:Crit g sz N C) (hC0:∀ j,j<N→0≤C j) (h:Bk g sz N C out k S) (hk:k<N) (hi:out[N-1-k]? = some i)
  (h2:Bi (S.set i (C i)) (C i) (g i) S2):Bk g sz N C out (k+1) S2:=by
 obtain⟨hiN,t1,t2,t3,t4⟩:=h.turn ht hl hC hk hi;have hlt:i<S.length:=by rw[h.len];exact hiN
 have hat:∀ j,gt S2 j=if j∈g i then max (gt S j) (C i) else if j=i then C i else gt S j:=fun j=>by
  rw[h2.at_,gt_set hlt]
  by_cases hj:j∈g i
  ·rw[if_pos hj,if_pos hj,if_neg (fun e=>by subst e;exact t2 hj)]
  ·rw[if_neg hj,if_neg hj]
 refine⟨by rw[h2.len,List.length_set];exact h.len,fun j hj hm=>?_,fun j hj hm=>?_⟩
 ·rw[t3]at hm;rw[hat]
  rcases List.mem_cons.1 hm with rfl | hm
  ·rw[if_neg t2,if_pos rfl]
  ·rw[if_neg (fun hg=>(t4 j hg).2 hm)]
   split
   ·rename_i e;rw[e]
   ·exact h.done j hj hm
 ·rw[t3]at hm ⊢;have hji:j≠i:=fun e=>hm (by rw[e];simp);have hjb:j ∉ out.drop (N-k):=fun h=>hm (by simp[h]);have h3:=h.left j hj hjb;rw[hat]
  by_cases hg:j∈g i
  ·rw[if_pos hg];refine⟨by have:=h3.nn;omega,fun q hq hjq=>?_,?_⟩
   ·rcases List.mem_cons.1 hq with rfl | hq
    ·omega
    ·have:=h3.up q hq hjq;omega
   ·by_cases hm:gt S j≤C i
    ·exact .inr ⟨i,by simp,hg,by omega⟩
    ·rcases h3.at_ with e | ⟨q,a,b,e⟩
     ·have:=hC0 i hiN;omega
     ·exact .inr ⟨q,List.mem_cons_of_mem _ a,b,by omega⟩
  ·rw[if_neg hg,if_neg hji];exact h3.congr (fun q hq=>⟨fun h=>List.mem_cons_of_mem _ h,fun h=>by
    rcases List.mem_cons.1 h with rfl | h
    ·exact absurd hq hg
    ·exact h⟩) (fun _ _ _=>rfl)
end
section
variable {P:Program} {ops:Array Oper} {Q:Exit→Act→World→Prop} {md:Region.Mode} {lp n:Nat}
def noOut (Q:Exit→Act→World→Prop):Exit→Act→World→Prop
 | .outgrown,_,_=>False
 | e,a,w=>Q e a w
theorem noOut_lets:¬ LetsOut (noOut Q):=fun ⟨_,_,h⟩=>h
theorem rows_in {row:String} {args:Array Value} {w:World} {R:Value→World→Prop} (h:Rows P row args w R):RowsIn (Fence.wide.inRound lp) n P row args w R :=
 fun c cs _=>let ⟨v,w',r,s⟩:=h c cs;⟨v,w',r,stepsIn_wide.2 s⟩
theorem oper_in {o:Oper} {a:Act} {w:World} {next next':Act→World→Prop} (hd:∀ c,o.op≠.defer c) (hn:∀ a w,next a w→next' a w) (h:o.wp P a w next (noOut Q)) :
  o.wpIn (Fence.wide.inRound lp) n P a w next' Q:=by
 refine⟨fun _ _=>trivial,?_⟩;rw[Oper.semAt_plain _ _ _ hd];unfold Oper.wp at h
 generalize (execOp a.eval o).run P w=r at h
 cases r with
 | ok x w' =>
  cases x with
  | value v=>exact hn _ _ h
  | skip=>exact hn _ _ h
  | defer d=>exact hn _ _ h
  | enter f args =>
   refine⟨fun h=>(by cases h),CallsIn.inRound lp (callsIn_wide.2 (Calls.mono h ?_))⟩;rintro e w'' he
   cases e with
   | returned v=>exact hn _ _ he
   | panicked c=>exact he
   | outgrown=>exact absurd he noOut_lets
  | row row args=>exact⟨fun h=>(by cases h),(rows_in h).mono fun _ _ he=>hn _ _ he⟩
  | _=>exact absurd h (by simp[Oper.upon])
 | halt x w'=>cases x <;> first | exact h | exact absurd h (by simp[Oper.upon])
theorem op_in {i:Nat} {a:Act} {w:World} {K K':Act→World→Prop} (hd:∀ (i:Nat) (o:Oper),ops[i]? = some o→∀ c,o.op≠.defer c) (hK:∀ a w,K a w→K' a w) (h:wpOp P ops (noOut Q) i K a w) :
  wpOpIn (Fence.wide.inRound lp) n P ops Q i K' a w:=by
 unfold wpOp at h;unfold wpOpIn
 cases ho:ops[i]? with
 | none=>rw[ho]at h;exact hK _ _ h
 | some o =>
  rw[ho]at h;simp only at h ⊢
  split at h
  ·rename_i hw
   rw[if_pos hw]
   rcases h with h | h
   ·exact oper_in (hd i o ho) hK h
   ·exact absurd h.2 noOut_lets
  ·rename_i hw
   rw[if_neg hw];exact⟨fun _ _=>trivial,hK _ _ h⟩
theorem any_in (hd:∀ (i:Nat) (o:Oper),ops[i]? = some o→∀ c,o.op≠.defer c):∀ (fuel:Nat) (listed:Array Bool) (a:Act) (w:World),wpAny P md ops (noOut Q) fuel listed a w→wpAnyIn (Fence.wide.inRound lp) n P md ops Q fuel listed a w
 | 0,_,_,_,h=>h
 | fuel+1,_,_,_,h=>⟨h.1,fun i hi=>op_in hd (fun a w h=>any_in hd fuel _ a w h) (h.2 i hi)⟩
def noDefer (l:List Oper):Bool:=l.all fun o=>match o.op with | .defer _=>false | _=>true
theorem noDefer_spec {l:List Oper} (h:noDefer l=true):∀ (i:Nat) (o:Oper),l.toArray[i]? = some o→∀ c,o.op≠.defer c:=fun i o ho c e=>by
 have hm:o∈l:=by rw[List.getElem?_toArray]at ho;exact List.mem_of_getElem? ho
 have:=List.all_eq_true.1 h o hm;rw[e]at this
 cases this
theorem region_tail_in {id:Nat} {a:Act} {w:World} {l:List Oper} (k:Nat) (hm:P.follows .mixedOrders=true) (hB:Region.lexTailB .any l.toArray k=true) (hd:noDefer l=true)
  (h:wpStill P l.toArray { w with drawn:=w.drawn+1 } (fun a'=>wpList P l.toArray (noOut Q) (l.drop k) a' { w with drawn:=w.drawn+1 }) (l.take k) a):(Code.region id l.toArray true).wpIn (Fence.wide.inRound lp) n P Q a w:=by
 simp only[Region.lexTailB,Bool.and_eq_true,decide_eq_true_eq]at hB;obtain⟨⟨⟨⟨hsel,hn⟩,hs⟩,hc⟩,hlex⟩:=hB;have hn':k<l.length:=by simpa using hn
 have htl:(l.take k).length=k:=by simp;omega
 have hdl:(l.drop k).length=l.toArray.size-k:=by simp
 have inv0:HeadInv .any l.toArray k (Array.replicate l.toArray.size false) :=
  ⟨by simp,fun j oj _ hl=>(by rw[getD_replicate_false]at hl;cases hl),fun t _ ht=>getD_in (by simpa using ht) (getD_replicate_false _ _)⟩
 have H:=wpAnyL_lex (md:=.any) (g:=l.toArray.size-k) hsel hs hc hn (l.take k) 0 _ a (fun j hj=>by
  have hj':j<k:=by rw[htl]at hj;exact hj
  simp[hj']) (by simpa using htl) inv0 (by rw[htl];exact hlex) h
 refine wpIn_region_any hm (any_in (noDefer_spec hd) _ _ _ _ ?_);have:=wpAny_of_head (Q':=noOut Q) (g:=l.toArray.size-k) (fun listed a' hL=>by
  have:=wpAny_of_seq (md:=.any) (Q':=noOut Q) (l.drop k) k listed a' { w with drawn:=w.drawn+1 } (fun j=>by simp[List.getElem?_drop]) (by rw[hdl];exact hL.1) hL.2
  rwa [hdl]at this) _ _ _ H
 rw[htl,show k+(l.toArray.size-k)=l.toArray.size by omega]at this;exact this
end
end Go.Proofs.YtbnkoefljcekbaaGreatDoor