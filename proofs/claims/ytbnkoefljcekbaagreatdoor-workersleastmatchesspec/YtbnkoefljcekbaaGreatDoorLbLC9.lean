/-
 Several texts of mine as one, without what is not wanted here: XLsD, XUpW, XCFarmP, XCFarmW.
-/
import Derived.Test.YtbnkoefljcekbaaGreatDoorLbJC9
import Derived.Test.YtbnkoefljcekbaaGreatDoorLbGh
import Derived.Test.YtbnkoefljcekbaaGreatDoorLbKC9
set_option linter.unusedVariables false
set_option linter.unusedSimpArgs false
set_option maxRecDepth 100000
set_option maxHeartbeats 8000000
namespace Go.Proofs.YtbnkoefljcekbaaGreatDoor.C9
open Go.ChangeShapes Go.WideShapes Go.Deep Go.RowKit Go.Maps
def fastF (l:List Worker):Int:=l.foldl (fun a w=>max a w.speed) 0
def powF (l:List Worker):Int:=l.foldl (fun a w=>a+w.slots*w.speed) 0
def sizF (l:List Work):Int:=l.foldl (fun a y=>a+y.size) 0
def wayF (S:List Int):Int:=S.foldl (fun a n=>max a n) 0
def upI (a b:Int):Int:=(a+b-1) / b
def leV (x:Farm) (S:List Int):Int:=max (upI (wayF S) (fastF x.workers.l)) (upI (sizF x.works.l) (powF x.workers.l))
def lastF (L:List Run):Int:=L.foldl (fun n r=>if r.end_=1 then max n r.to_ else n) (-1)
section
variable {α:Type}
theorem fmax_ge (f:α→Int):∀ (l:List α) (a:Int),a≤l.foldl (fun a w=>max a (f w)) a∧∀ w∈l,f w≤l.foldl (fun a w=>max a (f w)) a
 | [],a=>⟨Int.le_refl _,fun w hw=>by cases hw⟩
 | v::l,a=>by
  obtain⟨h1,h2⟩:=fmax_ge f l (max a (f v));rw[List.foldl_cons];refine⟨by omega,fun w hw=>?_⟩
  rcases List.mem_cons.1 hw with rfl | hw
  ·omega
  ·exact h2 w hw
theorem fmax_le (f:α→Int) {c:Int}:∀ (l:List α) (a:Int),a≤c→(∀ w∈l,f w≤c)→l.foldl (fun a w=>max a (f w)) a≤c
 | [],a,h,_=>h
 | v::l,a,h,hl=>by
  rw[List.foldl_cons];have:=hl v List.mem_cons_self;exact fmax_le f l _ (by omega) fun w hw=>hl w (List.mem_cons_of_mem _ hw)
theorem fsum_eq (f:α→Int):∀ (l:List α) (a:Int),l.foldl (fun a w=>a+f w) a=a+sm l f
 | [],a=>by rw[sm_nil];exact(Int.add_zero a).symm
 | v::l,a=>by rw[List.foldl_cons,fsum_eq f l,sm_cons];omega
theorem sm_range_get (f:α→Int) (g:Nat→Int) (l:List α) (h:∀ k y,l[k]? = some y→g k=f y):sm (List.range l.length) g=sm l f:=by
 have key:∀ n,n≤l.length→sm (List.range n) g=sm (l.take n) f:=by
  intro n
  induction n with
  | zero=>intro _;rw[List.take_zero];rfl
  | succ n ih =>
   intro hn;have hr:=List.getElem?_eq_getElem (l:=l) (i:=n) (by omega);rw[List.range_succ,sm_app,ih (by omega),List.take_add_one,hr,Option.toList_some,sm_app,sm_cons,sm_nil,sm_cons,sm_nil,h n _ hr]
 have:=key l.length (Nat.le_refl _)
 rwa [List.take_length]at this
theorem sm_bound {f:α→Int} {c:Int}:∀ (l:List α),(∀ w∈l,0≤f w∧f w≤c)→0≤sm l f∧sm l f≤l.length*c
 | [],_=>by rw[sm_nil];simp
 | v::l,h=>by
  obtain⟨h1,h2⟩:=sm_bound l fun w hw=>h w (List.mem_cons_of_mem _ hw);have:=h v List.mem_cons_self;rw[sm_cons,List.length_cons,Int.natCast_add,Int.add_mul];simp only[Int.natCast_one,Int.one_mul];omega
end
theorem way_max {S:List Int} (h:S≠[]) (h0:∀ a∈S,0≤a):Lib.maxOf S=wayF S:=by
 cases S with
 | nil=>exact absurd rfl h
 | cons a T =>
  have:=h0 a List.mem_cons_self;unfold Lib.maxOf wayF;rw[List.foldl_cons,List.foldl_cons,List.headD_cons,show max a a=a by omega,show max (0:Int) a=a by omega]
theorem way_take {S:List Int} {k:Nat} {z:Int} (h:S[k]? = some z):wayF (S.take (k+1))=max (wayF (S.take k)) z:=by
 unfold wayF;rw[List.take_add_one,h,Option.toList_some,List.foldl_append];rfl
theorem fast_take {l:List Worker} {k:Nat} {y:Worker} (h:l[k]? = some y):fastF (l.take (k+1))=max (fastF (l.take k)) y.speed:=by
 unfold fastF;rw[List.take_add_one,h,Option.toList_some,List.foldl_append];rfl
theorem pow_take {l:List Worker} {k:Nat} {y:Worker} (h:l[k]? = some y):powF (l.take (k+1))=powF (l.take k)+y.slots*y.speed:=by
 unfold powF;rw[List.take_add_one,h,Option.toList_some,List.foldl_append];rfl
theorem siz_take {l:List Work} {k:Nat} {y:Work} (h:l[k]? = some y):sizF (l.take (k+1))=sizF (l.take k)+y.size:=by
 unfold sizF;rw[List.take_add_one,h,Option.toList_some,List.foldl_append];rfl
theorem last_take {l:List Run} {k:Nat} {r:Run} (h:l[k]? = some r):lastF (l.take (k+1))=if r.end_=1 then max (lastF (l.take k)) r.to_ else lastF (l.take k):=by
 unfold lastF;rw[List.take_add_one,h,Option.toList_some,List.foldl_append];rfl
theorem fsum0 {α:Type} (f:α→Int) (l:List α):l.foldl (fun a w=>a+f w) 0=sm l f:=by rw[fsum_eq,Int.zero_add]
theorem worker_most {x:Worker} (h:workerF x=0):(x.slots≤20∧x.speed≤1000)∧standsF x.stands.l=0:=by
 unfold workerF at h
 split at h
 ·split at h
  ·split at h
   ·rename_i hh
    obtain⟨a,b,_,_⟩:=hh;unfold inR at a b;simp only[Bool.and_eq_true,decide_eq_true_eq]at a b;refine⟨⟨a.2,b.2⟩,?_⟩
    split at h
    ·exact absurd h (by decide)
    ·exact h
   ·exact absurd h (by decide)
  ·rename_i hh
   exact absurd h hh
 ·exact absurd h (by decide)
section
variable {x:Farm}
theorem fast_b (h:FarmOk x) (k:Nat):0≤fastF (x.workers.l.take k)∧fastF (x.workers.l.take k)≤1000 :=
 ⟨(fmax_ge (fun w:Worker=>w.speed) _ 0).1,fmax_le (fun w:Worker=>w.speed) _ 0 (by decide) fun w hw=>(worker_most (h.wk w (List.mem_of_mem_take hw))).1.2⟩
theorem slot_b {w:Worker} (h:workerF w=0):0≤w.slots*w.speed∧w.slots*w.speed≤20000:=by
 have h1:=worker_nums h;have h2:=(worker_most h).1;refine⟨Int.mul_nonneg (by omega) (by omega),?_⟩;have:w.slots*w.speed≤20*1000:=Int.mul_le_mul h2.1 h2.2 (by omega) (by omega);omega
theorem pow_b (h:FarmOk x) (k:Nat):0≤powF (x.workers.l.take k)∧powF (x.workers.l.take k)≤1000000:=by
 have h1:powF (x.workers.l.take k)=sm (x.workers.l.take k) (fun w=>w.slots*w.speed):=fsum0 _ _;obtain⟨h2,h3⟩:=sm_bound (f:=fun w:Worker=>w.slots*w.speed) (c:=20000) (x.workers.l.take k) fun w hw=>slot_b (h.wk w (List.mem_of_mem_take hw));have h4:(x.workers.l.take k).length≤50:=by rw[List.length_take];have:=h.wkn;omega
 rw[h1];omega
theorem siz_b (h:FarmOk x) (k:Nat):0≤sizF (x.works.l.take k)∧sizF (x.works.l.take k)≤200000000:=by
 have h1:sizF (x.works.l.take k)=sm (x.works.l.take k) (fun w=>w.size):=fsum0 _ _;obtain⟨h2,h3⟩:=sm_bound (f:=fun w:Work=>w.size) (c:=1000000) (x.works.l.take k) fun w hw=>by
  have:=h.wo.size w (List.mem_of_mem_take hw);omega
 have h4:(x.works.l.take k).length≤200:=by rw[List.length_take];have:=h.wo.len;omega
 rw[h1];omega
theorem fast_pos (h:FarmOk x) (hk:x.workers.l≠[]):1≤fastF x.workers.l:=by
 obtain⟨w,hw⟩:=List.exists_mem_of_ne_nil _ hk;have h1:=(fmax_ge (fun w:Worker=>w.speed) x.workers.l 0).2 w hw;have h2:=(worker_nums (h.wk w hw)).2;exact Int.le_trans h2 h1
theorem pow_pos (h:FarmOk x) (hk:x.workers.l≠[]):1≤powF x.workers.l:=by
 obtain⟨w,hw⟩:=List.exists_mem_of_ne_nil _ hk;have h1:powF x.workers.l=sm x.workers.l (fun w=>w.slots*w.speed):=fsum0 _ _;have h2:=sm_ge (l:=x.workers.l) (f:=fun w:Worker=>w.slots*w.speed) (fun w hw=>(slot_b (h.wk w hw)).1) hw;have h3:=worker_nums (h.wk w hw);have h4:1*1≤w.slots*w.speed:=Int.mul_le_mul h3.1 h3.2 (by omega) (by omega);rw[h1];omega
theorem way_b {S:List Int} {N:Nat} (hN:S.length=N) (h:∀ k,k<N→0≤S.getD k 0∧S.getD k 0≤200000000) (k:Nat):0≤wayF (S.take k)∧wayF (S.take k)≤200000000:=by
 refine⟨(fmax_ge (fun n:Int=>n) _ 0).1,fmax_le (fun n:Int=>n) _ 0 (by decide) fun a ha=>?_⟩;obtain⟨i,hi,e⟩:=List.mem_iff_getElem.1 (List.mem_of_mem_take ha);have:=h i (by omega);rw[List.getD_eq_getElem?_getD,List.getElem?_eq_getElem hi,Option.getD_some,e]at this;exact this.2
end
theorem standsErr_from:∀ (l:List Span) (p:Option Int),standsErr p l=0→∀ s∈l,s.from_<s.to_
 | [],_,_,s,hs=>by cases hs
 | v::l,p,h,s,hs=>by
  unfold standsErr at h
  split at h
  ·split at h
   ·split at h
    ·exact absurd h (by decide)
    ·rename_i h1
     split at h
     ·exact absurd h (by decide)
     ·rcases List.mem_cons.1 hs with rfl | hs
      ·omega
      ·exact standsErr_from l _ h s hs
   ·exact absurd h (by decide)
  ·exact absurd h (by decide)
theorem endsGo_geL:∀ (l:List Span) (L T:Int),(∀ s∈l,s.from_<s.to_)→0≤L→T+L≤endsGo L T l
 | [],L,T,_,_=>Int.le_refl _
 | s::l,L,T,h,h0=>by
  have hs:=h s List.mem_cons_self;have hl:∀ u∈l,u.from_<u.to_:=fun u hu=>h u (List.mem_cons_of_mem _ hu);unfold endsGo
  split
  ·exact endsGo_geL l L T hl h0
  ·split
   ·split
    ·exact Int.le_refl _
    ·have:=endsGo_geL l (L-(s.from_-T)) s.to_ hl (by omega);omega
   ·have:=endsGo_geL l L s.to_ hl h0;omega
section
variable {x:Farm} {p:PS} {q:QS} {L:List RR}
theorem sized_of (h:FarmOk x) (hF:FFine (fpx x)):Sized (fpx x) (szOf x.works.l):=by
 refine⟨fun i hi=>(szOf_b h.wo i hi).1,fun k hk=>?_,fun k i t u hk hi ht he=>?_,fun k i hk hi=>?_⟩
 ·have hk':k<x.workers.l.length:=hk;show 0≤(wkOf x k).speed;rw[wkOf_get (List.getElem?_eq_getElem hk')];have:=(worker_nums (h.wk _ (List.getElem_mem hk'))).2;omega
 ·have hk':k<x.workers.l.length:=hk;have hi':i<x.works.l.length:=hi;have he':(if (endsF (wkOf x k) (woOf x i).size t).2=true then some (endsF (wkOf x k) (woOf x i).size t).1 else none)=some u:=he;show t+secsF (wkOf x k) (woOf x i).size≤u;have h1:1≤secsF (wkOf x k) (woOf x i).size:=hF.secs k i hk hi;have hw:=h.wk _ (List.getElem_mem hk');rw[wkOf_get (List.getElem?_eq_getElem hk')]at he' h1 ⊢;have hst:=(worker_most hw).2;have hs1:∀ s∈(x.workers.l[k]).stands.l,s.from_<s.to_:=by
   unfold standsF at hst
   split at hst
   ·exact standsErr_from _ _ hst
   ·exact absurd hst (by decide)
  have hg:=endsGo_geL (x.workers.l[k]).stands.l (secsF x.workers.l[k] (woOf x i).size) t hs1 (by omega);unfold endsF at he'
  split at he'
  ·simp at he'
  ·split at he'
   ·simp at he'
   ·simp only[if_true,Option.some.injEq]at he';omega
 ·have hk':k<x.workers.l.length:=hk;have hi':i<x.works.l.length:=hi;show szOf x.works.l i≤secsF (wkOf x k) (woOf x i).size*(wkOf x k).speed;rw[wkOf_get (List.getElem?_eq_getElem hk'),woOf_get (List.getElem?_eq_getElem hi'),szOf_get (List.getElem?_eq_getElem hi')];have a:=(worker_nums (h.wk _ (List.getElem_mem hk'))).2;unfold secsF;obtain⟨s,hs⟩:∃ s,(x.works.l[i]).size=s:=⟨_,rfl⟩;obtain⟨v,hv⟩:∃ v,(x.workers.l[k]).speed=v:=⟨_,rfl⟩;rw[hs,hv];rw[hv]at a;have h1:=Int.lt_ediv_add_one_mul_self (s+v-1) (show 0<v by omega);rw[Int.add_mul,Int.one_mul]at h1;omega
theorem lastF_ge:∀ (l:List Run) (a:Int),a≤l.foldl (fun n r=>if r.end_=1 then max n r.to_ else n) a∧∀ r∈l,r.end_=1→r.to_≤l.foldl (fun n r=>if r.end_=1 then max n r.to_ else n) a
 | [],a=>⟨Int.le_refl _,fun r hr=>by cases hr⟩
 | v::l,a=>by
  obtain⟨h1,h2⟩:=lastF_ge l (if v.end_=1 then max a v.to_ else a);rw[List.foldl_cons];have h3:a≤if v.end_=1 then max a v.to_ else a:=by split <;> omega
  refine⟨by omega,fun r hr he=>?_⟩
  rcases List.mem_cons.1 hr with rfl | hr
  ·rw[if_pos he]at h1 ⊢;omega
  ·exact h2 r hr he
theorem lastF_le {c:Int}:∀ (l:List Run) (a:Int),a≤c→(∀ r∈l,r.end_=1→r.to_≤c)→l.foldl (fun n r=>if r.end_=1 then max n r.to_ else n) a≤c
 | [],a,h,_=>h
 | v::l,a,h,hl=>by
  rw[List.foldl_cons];refine lastF_le l _ ?_ fun r hr=>hl r (List.mem_cons_of_mem _ hr)
  split
  ·rename_i he
   have:=hl v List.mem_cons_self he;omega
  ·exact h
theorem least_le (hE:EndP (fpx x) p q) (hD:Done x q L) (hw:x.works.l≠[]) (hk:x.workers.l≠[]) {S:List Int} (hSl:S.length=x.works.l.length) (hC:Crit (gOf x.works.l) (szOf x.works.l) x.works.l.length (gt S))
  (hdone:∀ i,i<x.works.l.length→q.done i=true):leV x S≤lastF (L.map (toRun x)):=by
 have hok:=farmOk_of hD.ok;have hI:=hD.fin.inv;have hS:=sized_of hok hD.fine;obtain⟨T,hT⟩:∃ T,lastF (L.map (toRun x))=T:=⟨_,rfl⟩;have hTr:∀ r∈q.runs,r.end_=1→r.to_≤T:=fun r hr he=>by
  rw[← hT];exact(lastF_ge (L.map (toRun x)) (-1)).2 (toRun x r) (List.mem_map_of_mem (hD.perm.mem_iff.2 hr)) he
 have hpos:0<x.works.l.length:=List.length_pos_iff.2 hw;obtain⟨r,hr,_,hre⟩:=(hI.don 0).1 (hdone 0 hpos);have hrun:=hS.run hI hr hre;have hT0:0≤T:=by have:=hTr r hr hre;omega
 have hTa:T≤q.at_:=by
  rw[← hT];refine lastF_le _ _ ?_ fun r hr he=>?_
  ·omega
  ·obtain⟨s,hs,rfl⟩:=List.mem_map.1 hr;exact(hS.run hI (hD.mem hs) he).2.2.1
 have h1:upI (wayF S) (fastF x.workers.l)≤T:=by
  have hV:=fast_pos hok hk;refine up_le (by omega) ?_;obtain⟨out,ho,hol⟩:=hok.wo.order;have hc:=way_least hS hI (out:=out) ho hol (C:=gt S) hC hdone (V:=fastF x.workers.l) (T:=T) (fun k hk=>?_) (by omega) hTr
  ·refine fmax_le (fun n:Int=>n) S 0 (Int.mul_nonneg hT0 (by omega)) fun a ha=>?_;obtain⟨i,hi,e⟩:=List.mem_iff_getElem.1 ha;have:=hc i (by show i<x.works.l.length;omega);unfold gt at this;rw[List.getD_eq_getElem?_getD,List.getElem?_eq_getElem hi,Option.getD_some,e]at this;exact this
  ·have hk':k<x.workers.l.length:=hk;show (wkOf x k).speed≤_;rw[wkOf_get (List.getElem?_eq_getElem hk')];exact(fmax_ge (fun w:Worker=>w.speed) x.workers.l 0).2 _ (List.getElem_mem hk')
 have h2:upI (sizF x.works.l) (powF x.workers.l)≤T:=by
  have hV:=pow_pos hok hk;refine up_le (by omega) ?_;have:=all_least hS hI hdone hT0 hTr hTa;have e1:sm (List.range (fpx x).nX) (szOf x.works.l)=sizF x.works.l:=by
   unfold sizF;rw[fsum0];exact sm_range_get _ _ _ fun k y hk=>szOf_get hk
  have e2:sm (List.range (fpx x).nW) (fun k=>(fpx x).slots k*(fpx x).speed k)=powF x.workers.l:=by
   unfold powF;rw[fsum0];refine sm_range_get _ _ _ fun k y hk=>?_;show (wkOf x k).slots*(wkOf x k).speed=_;rw[wkOf_get hk]
  rw[e1,e2]at this;exact this
 rw[hT];unfold leV;omega
end
theorem leV_same {x:Farm} (h:WOk x.works.l) {S S':List Int} (hl:S.length=x.works.l.length) (hl':S'.length=x.works.l.length) (hC:Crit (gOf x.works.l) (szOf x.works.l) x.works.l.length (gt S)) (hC':Crit (gOf x.works.l) (szOf x.works.l) x.works.l.length (gt S')):S=S':=by
 refine List.ext_getElem? fun i=>?_
 by_cases hi:i<x.works.l.length
 ·have:=h.uniq hC hC' i hi;unfold gt at this;rw[List.getD_eq_getElem?_getD,List.getD_eq_getElem?_getD,List.getElem?_eq_getElem (by omega),List.getElem?_eq_getElem (by omega),Option.getD_some,Option.getD_some]at this;rw[List.getElem?_eq_getElem (by omega),List.getElem?_eq_getElem (by omega),this]
 ·rw[List.getElem?_eq_none (by omega),List.getElem?_eq_none (by omega)]
theorem up_any (a b:Int) (w:World) (h0:0≤a) (h1:a≤200000000) (h2:1≤b) (h3:b≤1000000) (c:Int) (hc:upI a b=c) :
  Calls Tryz.prog 53 #[.int .i64 a,.int .i64 b] w fun e w'=>e = .returned (.int .i64 c)∧Below w.heap.size w w':=by
 unfold upI at hc;have hb:=Below.refl w.heap.size w;obtain⟨hcH,hbH⟩:=hq2 hc (Lib.hid hb);clear hc hb;go_enter Tryz.func53,Tryz.ntmps53;go_wp2;go_ret;exact⟨ret1_int (by have:=hcH.out;omega),hbH.out⟩
theorem rup_any (a b:Int) (w:World) (h0:0≤a) (h1:a≤200000000) (h2:1≤b) (h3:b≤1000000) (c:Int) (hc:upI a b=c) :
  Calls Tryz.prog 57 #[.int .i64 a,.int .i64 b] w fun e w'=>e = .returned (.int .i64 c)∧Below w.heap.size w w':=by
 unfold upI at hc;have hb:=Below.refl w.heap.size w;obtain⟨hcH,hbH⟩:=hq2 hc (Lib.hid hb);clear hc hb;go_enter Tryz.func57,Tryz.ntmps57;go_wp2;go_ret;exact⟨ret1_int (by have:=hcH.out;omega),hbH.out⟩
def LeAns (x:Farm) (c:Int) (w:World) (e:Ending) (w':World):Prop:=Below w.heap.size w w' ∧
 ((c≠0∧e = .returned (.tuple #[.int .i64 0,.int .i64 c]))∨(c=0∧x.works.l = []∧e = .returned (.tuple #[.int .i64 0,.int .i64 0]))∨(c=0∧x.works.l≠[]∧x.workers.l = []∧e = .returned (.tuple #[.int .i64 0,.int .i64 9])) ∨
 (c=0∧x.works.l≠[]∧x.workers.l≠[]∧∃ S:List Int,S.length=x.works.l.length∧Crit (gOf x.works.l) (szOf x.works.l) x.works.l.length (gt S)∧e = .returned (.tuple #[.int .i64 (leV x S),.int .i64 0])))
def LwRel (x:Farm) (W3:World) (v p i:Value) (wr:World):Prop :=
 ∃ k:Nat,k≤x.workers.l.length∧i = .int .i64 k∧v = .int .i64 (fastF (x.workers.l.take k))∧p = .int .i64 (powF (x.workers.l.take k))∧Below W3.heap.size W3 wr
def LxRel (x:Farm) (W3:World) (v i:Value) (wr:World):Prop :=
 ∃ k:Nat,k≤x.works.l.length∧i = .int .i64 k∧v = .int .i64 (sizF (x.works.l.take k))∧Below W3.heap.size W3 wr
def LyRel (x:Farm) (S:List Int) (W3:World) (v p i:Value) (wr:World):Prop :=
 ∃ k:Nat,k≤x.works.l.length∧i = .int .i64 k∧v = .int .i64 (wayF (S.take k))∧p = .int .i64 (sizF (x.works.l.take k))∧Below W3.heap.size W3 wr
end Go.Proofs.YtbnkoefljcekbaaGreatDoor.C9
namespace Go.Proofs.YtbnkoefljcekbaaGreatDoor.C9
open Go.ChangeShapes Go.WideShapes Go.Deep Go.RowKit
theorem or_cells2 {w:World} {A:Option Addr} {b:Nat} {x y:Int} (hA:A=some ⟨b,0,none⟩) (h0:w.cell? ⟨b,0,none⟩=some (.int .i64 x)) (h1:w.cell? ⟨b,1,none⟩=some (.int .i64 y)) (i0:I64 x) (i1:I64 y):SlAt RInt w A 2 [x,y]:=by
 subst hA;refine⟨rfl,fun _=>⟨b,0,rfl,fun i z hz j v hv=>?_⟩,fun z hz=>?_⟩
 ·match i,hz with
  | 0,hz=>injection hz with hz;subst hz;cases j with
   | zero=>injection hv with hv;subst hv;exact h0
   | succ j=>cases hv
  | 1,hz=>injection hz with hz;subst hz;cases j with
   | zero=>injection hv with hv;subst hv;exact h1
   | succ j=>cases hv
 ·simp only[List.mem_cons,List.not_mem_nil,or_false]at hz
  rcases hz with rfl | rfl <;> assumption
def lossCmp (a b:Loss):Int:=orF [Lib.compareInt a.at_ b.at_,cmpS a.worker b.worker]
theorem lossCmp_eq (a b:Loss):lossCmp a b=if a.at_=b.at_ then cmpS a.worker b.worker else if a.at_<b.at_ then -1 else 1:=by
 unfold lossCmp;simp only[orF]
 by_cases h:a.at_=b.at_
 ·have h0:Lib.compareInt a.at_ b.at_=0:=by
   unfold Lib.compareInt;rw[if_neg (by omega),if_neg (by omega)]
  rw[if_pos h0,if_pos h]
  split
  ·rename_i h3;exact h3.symm
  ·rfl
 ·rw[if_neg h]
  by_cases h2:a.at_<b.at_
  ·have h0:Lib.compareInt a.at_ b.at_ = -1:=by
    unfold Lib.compareInt;rw[if_pos h2]
   rw[h0,if_pos h2];rfl
  ·have h0:Lib.compareInt a.at_ b.at_=1:=by
    unfold Lib.compareInt;rw[if_neg h2,if_pos (by omega)]
   rw[h0,if_neg h2];rfl
theorem lossCmp_le (a b:Loss):decide (lossCmp a b≤0)=lossLe a b:=by
 rw[lossCmp_eq];unfold lossLe
 by_cases h:a.at_=b.at_
 ·rw[if_pos h,sle_cmp];have h1:decide (a.at_<b.at_)=false:=decide_eq_false (by omega);rw[h1,decide_eq_true h,Bool.false_or,Bool.true_and]
 ·rw[if_neg h,decide_eq_false h,Bool.false_and,Bool.or_false]
  by_cases h2:a.at_<b.at_
  ·rw[if_pos h2,decide_eq_true h2];rfl
  ·rw[if_neg h2,decide_eq_false h2];rfl
def LosRel (ws:List Worker) (l:List Loss) (d:Int) (w0:World) (i:Value) (wr:World):Prop :=
 ∃ k:Nat,k≤l.length∧i = .int .i64 k∧lossErr ws (prevLo l k) (l.drop k)=d∧Below w0.heap.size w0 wr
def CfAns (c:Int) (w:World) (e:Ending) (w':World):Prop:=e = .returned (.int .i64 c)∧Below w.heap.size w w'
abbrev farmV (x:Farm):Value:=.agg #[.slice x.workers.A x.workers.n x.workers.cap,.slice x.works.A x.works.n x.works.cap,.slice x.lost.A x.lost.n x.lost.cap,.int .i64 x.tries,.bool x.doubles]
theorem farm_any (x:Farm) (w:World) (hx:RFarm.ok w x) (c:Int) (hF:farmF x=c) :
  Calls Tryz.prog 12 #[farmV x] w (CfAns c w):=by
 obtain⟨hx0,hx1,hx2,hx3,hx4⟩:=hx;unfold farmV;obtain⟨Z,hZ⟩:∃ Z,CfAns c w=Z:=⟨_,rfl⟩;have hZ':∀ W,Below w.heap.size w W→Z (.returned (.int .i64 c)) W:=fun W h=>by rw[← hZ];exact⟨rfl,h⟩
 rw[hZ];clear hZ;unfold farmF at hF;obtain⟨⟨wA,wn,wc,wsl⟩,⟨xA,xn,xc,xsl⟩,⟨lA,ln,lc,lsl⟩,tr,db⟩:=x;simp only at hx0 hx1 hx2 hx3 hx4 hF ⊢;obtain⟨W1,hW1⟩:∃ Y,w.alloc (.cells #[.slice wA wn wc,.slice xA xn xc,.slice lA ln lc,.int .i64 tr,.bool db] 26)=Y:=⟨_,rfl⟩;obtain⟨xb,hxb⟩:∃ b,w.heap.size=b:=⟨_,rfl⟩;have hba:Below w.heap.size w W1:=by rw[← hW1];exact(Below.refl _ _).alloc (Nat.le_refl _) _
 have c0:W1.cell? ⟨xb,0,none⟩=some (.slice wA wn wc):=by rw[← hW1,← hxb];exact cell_new _ _ _ 0
 have c1:W1.cell? ⟨xb,1,none⟩=some (.slice xA xn xc):=by rw[← hW1,← hxb];exact cell_new _ _ _ 1
 have c2:W1.cell? ⟨xb,2,none⟩=some (.slice lA ln lc):=by rw[← hW1,← hxb];exact cell_new _ _ _ 2
 have c3:W1.cell? ⟨xb,3,none⟩=some (.int .i64 tr):=by rw[← hW1,← hxb];exact cell_new _ _ _ 3
 have hw1:SlAt RWorker W1 wA wn wsl:=hx0.1.below hba;have hw2:SlAt RWork W1 xA xn xsl:=hx1.1.below hba;have hw3:SlAt RLoss W1 lA ln lsl:=hx2.1.below hba;have hm2:ln≤lc∧lc≤maxLen:=⟨hx2.2.1,hx2.2.2.1⟩;have hC:∀ W,Below W1.heap.size W1 W→W.cell? ⟨xb,2,none⟩=some (.slice lA ln lc)∧W.cell? ⟨xb,0,none⟩=some (.slice wA wn wc)∧W.cell? ⟨xb,3,none⟩=some (.int .i64 tr):=fun W h=>⟨keepC h c2,keepC h c0,keepC h c3⟩;have hll:lsl.length=ln:=hw3.1;have hwl:wsl.length=wn:=hw1.1;obtain⟨f1,hf1⟩:∃ f,workersF wsl=f:=⟨_,rfl⟩;obtain⟨f2,hf2⟩:∃ f,worksF xsl=f:=⟨_,rfl⟩;rw[hf1,hf2]at hF;have RZ:∀ W,Below W1.heap.size W1 W→Z (.returned (.int .i64 c)) W:=fun W h=>hZ' W (hba.trans (h.mono hba.size));obtain⟨hCH,hZ'H,hx0H,hx1H,hx2H,hx3H,hx4H,hW1H,hxbH,hbaH,hw1H,hw2H,hw3H,hFH,hf1H,hf2H,hllH,hwlH,RZH⟩:=hq2 hC (hq2 hZ' (hqc hx0 hx1 hx2 hx3 hx4 hW1 hxb hba (hqc hw1 hw2 hw3 hF hf1 hf2 hll hwl (Lib.hid RZ))));clear hC hZ' hx0 hx1 hx2 hx3 hx4 hW1 hxb hba hw1 hw2 hw3 hF hf1 hf2 hll hwl RZ;go_enter Tryz.func12,Tryz.ntmps12;go_wp2_with fail;rw[hW1H.out,hxbH.out];refine(workers_any wA wn wc wsl _ hw1H.out f1 hf1H.out).mono ?_;rintro e w1 ⟨rfl,hb1⟩;have c0:=keepC hb1 c0;have c1:=keepC hb1 c1;have c2:=keepC hb1 c2;have c3:=keepC hb1 c3;have hF:=hFH.out;clear hFH
 by_cases h1:f1=0
 ·subst h1;rw[if_pos rfl]at hF;obtain⟨hb1H,hFH⟩:=hq2 hb1 (Lib.hid hF);clear hb1 hF;go_wp2_with fail;refine(works_any xA xn xc xsl _ (hw2H.out.below hb1H.out) f2 hf2H.out).mono ?_;rintro e w2 ⟨rfl,hb2⟩;have c0:=keepC hb2 c0;have c2:=keepC hb2 c2;have c3:=keepC hb2 c3;have hb2:=hb1H.out.trans (hb2.mono hb1H.out.size);have hF:=hFH.out;clear hFH
  by_cases h2:f2=0
  ·subst h2;rw[if_pos rfl,hllH.out]at hF
   by_cases h3:ln≤200
   ·rw[if_pos h3]at hF;obtain⟨d,hd⟩:∃ d,lossErr wsl none lsl=d:=⟨_,rfl⟩;rw[hd]at hF;have hst:LosRel wsl lsl d W1 (.int .i64 0) w2:=⟨0,Nat.zero_le _,rfl,hd,hb2⟩;have hrise:wsl.length≤50∧wsl.Pairwise fun a b=>cmpS a.name b.name = -1:=by
     have h:=hf1H.out;unfold workersF at h
     by_cases h6:wsl.length≤50
     ·rw[if_pos h6]at h;exact⟨h6,(workersErr_ok _ _ h).2.1⟩
     ·rw[if_neg h6]at h;exact absurd h (by decide)
    have he5:(5:Int)=d→c=5:=fun e=>by rw[← e,if_neg (by decide)]at hF;exact hF.symm
    have he1:(1:Int)=d→c=1:=fun e=>by rw[← e,if_neg (by decide)]at hF;exact hF.symm
    have he8:(8:Int)=d→c=8:=fun e=>by rw[← e,if_neg (by decide)]at hF;exact hF.symm
    have he0:(0:Int)=d→(if inR 1 10 tr=true then 0 else 1)=c:=fun e=>by rw[← e,if_pos rfl]at hF;exact hF
    clear hF;obtain⟨hb2H,hstH,hdH,hriseH,he5H,he1H,he8H,he0H⟩:=hq2 hb2 (hq2 hst (hq2 hd (hqb hrise he5 he1 he8 (Lib.hid he0))));clear hb2 hst hd hrise he5 he1 he8 he0;go_wp2_with fail;clear c0 c1 c2 c3
    go_loopw [28] (fun i w5=>LosRel wsl lsl d W1 i w5) (fun i _=>ln-(intOf i).toNat)
    case atStart=>exact hstH.out
    case round =>
     clear hstH;obtain⟨k,hk,rfl,hck,hb⟩:=hrel;have hkl:k≤ln:=by have:=hllH.out;omega
     have hbs:=hb.size;obtain⟨c2,c0,c3⟩:=hCH.out wr hb
     by_cases hlt:k<ln
     ·have hsl:=hw3H.out.below hb;obtain⟨bl,ol,hA9,_⟩:=hsl.2.1 (by omega);subst hA9;obtain⟨y,hy⟩:∃ y,lsl[k]? = some y:=⟨lsl[k]'(by have:=hllH.out;omega),List.getElem?_eq_getElem _⟩;obtain⟨d0,d1⟩:=cells_Loss hsl hy;have hok:=hsl.2.2 y (List.mem_of_getElem? hy);rw[drop_lo hy,lossErr]at hck;have hkl2:k+1≤lsl.length:=by have:=hllH.out;omega
      have hpn:prevLo lsl (k+1)=some y:=by rw[prevLo,if_neg (by omega),show k+1-1=k from rfl,hy]
      obtain⟨nm,mt⟩:=y;simp only at d0 d1 hck;have hba:=hb.alloc hbs (.cells #[.string nm,.int .i64 mt] 71);have hbas:=hba.size;have c0a:=keepC ((Below.refl wr.heap.size wr).alloc (Nat.le_refl _) (.cells #[.string nm,.int .i64 mt] 71)) c0;have hwk:=(hw1H.out.below hba);have n5:hasNm wsl nm=false→c=5:=fun h=>he5H.out (by rw[h]at hck;rw[if_neg (by decide)]at hck;exact hck);obtain⟨hn,hhn⟩:∃ b,hasNm wsl nm=b:=⟨_,rfl⟩;rw[hhn]at n5;obtain⟨hyH,hckH,hbH,hbaH,hbasH,hokH,hpnH,hkl2H,hwkH,hslH,n5H,hhnH⟩:=hq2 hy (hq2 hck (hq2 hb (hqc hba hbas hok hpn hkl2 hwk hsl n5 (Lib.hid hhn))));clear hy hck hb hba hbas hok hpn hkl2 hwk hsl n5 hhn;go_wp2_with fail;refine(workerAt_any wA wn wc wsl nm _ (by have:=hriseH.out.1;have:=hwlH.out;omega) hwkH.out hriseH.out.2).mono ?_;rintro e w4 ⟨i,rfl,_,hw4⟩;rw[hhnH.out];have q0:w4.cell? ⟨wr.heap.size,0,none⟩=some (.string nm):=(hw4.cell (by simp)).trans (cell_new _ _ _ 0);have q1:w4.cell? ⟨wr.heap.size,1,none⟩=some (.int .i64 mt):=(hw4.cell (by simp)).trans (cell_new _ _ _ 1);have hb4:=hbaH.out.trans (hw4.mono hbasH.out);clear c0 c0a c2 c3 d0 d1;have c2:=(hCH.out w4 hb4).1
      cases hn
      ·obtain rfl:=n5H.out rfl;have R:=RZH.out _ hb4;obtain⟨RH,hb4H,hw4H⟩:=hq2 R (hq2 hb4 (Lib.hid hw4));clear R hb4 hw4;go_wp2;exact RH.out
      ·have hck:=hckH.out;clear hckH;rw[if_pos hhnH.out]at hck
       by_cases i1:inR 0 1000000000 mt=true
       ·rw[if_pos i1]at hck
        by_cases hk0:k=0
        ·subst hk0;have R:∀ nq,LosRel wsl lsl d W1 (.int .i64 1) (w4.drewN nq):=by
          refine fun nq=>⟨1,hkl2H.out,by go_num,?_,bel_drewN hb4 nq⟩;rw[prevLo,if_pos rfl,Option.map_none,if_neg (by decide)]at hck;rw[show prevLo lsl 1=_ from hpnH.out];exact hck
         obtain⟨RH,hckH,hb4H,hw4H⟩:=hq2 R (hq2 hck (hq2 hb4 (Lib.hid hw4)));clear R hck hb4 hw4;go_wp2_with (go_at_call 39;refine(moment_p _ _).mono ?_;rintro e wz ⟨rfl,rfl⟩)
         go_quiet (fail)
         go_wp2;refine⟨?rel,?measure⟩
         case measure=>(simp[intOf];omega)
         case rel=>first | exact(RH.out _) | exact⟨rfl,(RH.out _)⟩
        ·obtain⟨j,rfl⟩:∃ j,k=j+1:=⟨k-1,by omega⟩;obtain⟨y,hy⟩:∃ y,lsl[j]? = some y:=⟨lsl[j]'(by have:=hllH.out;omega),List.getElem?_eq_getElem _⟩;obtain⟨d0,d1⟩:=cells_Loss (hw3H.out.below hb4) hy;have hpr:prevLo lsl (j+1)=some y:=by rw[prevLo,if_neg (by omega),show j+1-1=j from rfl,hy]
         rw[hpr,Option.map_some]at hck;clear hpr;obtain⟨ynm,ymt⟩:=y;simp only at d0 d1;have f0:(0:Int)≤(j:Int):=by omega
         have f1:(j:Int)<(ln:Int):=by omega
         have hln2:ln≤200:=h3;have f2:IntKind.i64.wrap ((j:Int)+1-1)=(j:Int):=by rw[show (j:Int)+1-1=(j:Int) by omega];exact IntWalk.i64_in _ (by omega)
         have f3:(j:Int).toNat=j:=by omega
         have f4:IntKind.i64.wrap (j:Int)=(j:Int):=IntWalk.i64_in _ (by omega);have f5:IntKind.i64.wrap (((j+1:Nat):Int)-1)=(j:Int):=by rw[show ((j+1:Nat):Int)-1=(j:Int) by omega];exact f4
         obtain⟨cc,hcc⟩:∃ cc,lossCmp ⟨nm,mt⟩ ⟨ynm,ymt⟩=cc:=⟨_,rfl⟩;have hle:=lossCmp_le ⟨nm,mt⟩ ⟨ynm,ymt⟩;rw[hcc]at hle;rw[← hle]at hck;unfold lossCmp at hcc;clear hle
         cases hcd:decide (cc≤0)
         ·rw[hcd,if_neg (by decide)]at hck;have R:∀ wx,Below W1.heap.size W1 wx→LosRel wsl lsl d W1 (.int .i64 (j+1+1)) wx:=by
           refine fun wx hbx=>⟨j+1+1,hkl2H.out,by go_num,?_,hbx⟩;rw[hpnH.out];exact hck
          obtain⟨hckH,hccH,hb4H,hw4H,RH,hyH⟩:=hq2 hck (hqb hcc hb4 hw4 R (Lib.hid hy));clear hck hcc hb4 hw4 R hy;go_wp2_with (go_at_call 39;refine(moment_p _ _).mono ?_;rintro e wz ⟨rfl,rfl⟩)
          go_region_held3 (fun w'=>w'.cell? ⟨wr.heap.size,0,none⟩=some (.string nm)∧w'.cell? ⟨wr.heap.size,1,none⟩=some (.int .i64 mt)∧w'.cell? ⟨xb,2,none⟩=some (.slice (some ⟨bl,ol,none⟩) ln lc)∧w'.cell? ⟨bl,ol+j*2,none⟩=some (.string ynm)∧w'.cell? ⟨bl,ol+j*2+1,none⟩=some (.int .i64 ymt)) (go_keep)
           (first
            | (go_at_call 41;refine(Tryz.cmp_Compare_int _ _ _).mono ?_;rintro e w1 ⟨rfl,rfl⟩)
            | (go_at_call 42;refine(Tryz.strings_Compare _ _ _).mono ?_;rintro e w1 ⟨rfl,rfl⟩)
            | (go_at_call 40;refine(or_any _ 2 _ [Lib.compareInt mt ymt,cmpS nm ynm] _ (by omega) (or_cells2 rfl ?_ ?_ (I64_of (cmpI_range _ _)) (I64_of (cmpS_range _ _))) cc (by exact hccH.out)).mono ?_;(simp[go_sem]);(simp[go_sem];rfl);rintro e w1 ⟨rfl,rfl⟩))
          go_wp2;refine⟨?rel,?measure⟩
          case measure=>(simp[intOf];omega)
          case rel=>first | exact(RH.out _ (by first | exact bel_drewN (Below.alloc hb4H.out (by have:=hb4H.out.size;omega) _) _ | exact(Below.alloc hb4H.out (by have:=hb4H.out.size;omega) _).drew)) | exact⟨rfl,(RH.out _ (by first | exact bel_drewN (Below.alloc hb4H.out (by have:=hb4H.out.size;omega) _) _ | exact(Below.alloc hb4H.out (by have:=hb4H.out.size;omega) _).drew))⟩
         ·rw[hcd,if_pos rfl]at hck;obtain rfl:=he8H.out hck;have R:∀ W,Below W1.heap.size W1 W→_:=RZH.out;obtain⟨hckH,hccH,hb4H,hw4H,RH,hyH⟩:=hq2 hck (hqb hcc hb4 hw4 R (Lib.hid hy));clear hck hcc hb4 hw4 R hy;go_wp2_with (go_at_call 39;refine(moment_p _ _).mono ?_;rintro e wz ⟨rfl,rfl⟩)
          go_region_held3 (fun w'=>w'.cell? ⟨wr.heap.size,0,none⟩=some (.string nm)∧w'.cell? ⟨wr.heap.size,1,none⟩=some (.int .i64 mt)∧w'.cell? ⟨xb,2,none⟩=some (.slice (some ⟨bl,ol,none⟩) ln lc)∧w'.cell? ⟨bl,ol+j*2,none⟩=some (.string ynm)∧w'.cell? ⟨bl,ol+j*2+1,none⟩=some (.int .i64 ymt)) (go_keep)
           (first
            | (go_at_call 41;refine(Tryz.cmp_Compare_int _ _ _).mono ?_;rintro e w1 ⟨rfl,rfl⟩)
            | (go_at_call 42;refine(Tryz.strings_Compare _ _ _).mono ?_;rintro e w1 ⟨rfl,rfl⟩)
            | (go_at_call 40;refine(or_any _ 2 _ [Lib.compareInt mt ymt,cmpS nm ynm] _ (by omega) (or_cells2 rfl ?_ ?_ (I64_of (cmpI_range _ _)) (I64_of (cmpS_range _ _))) cc (by exact hccH.out)).mono ?_;(simp[go_sem]);(simp[go_sem];rfl);rintro e w1 ⟨rfl,rfl⟩))
          go_wp2;exact RH.out _ (by first | exact bel_drewN (Below.alloc hb4H.out (by have:=hb4H.out.size;omega) _) _ | exact(Below.alloc hb4H.out (by have:=hb4H.out.size;omega) _).drew)
       ·rw[if_neg i1]at hck;obtain rfl:=he1H.out hck;have R:=RZH.out _ hb4;have i1':inR 0 1000000000 mt=false:=by simpa using i1
        clear i1;obtain⟨RH,hb4H,hw4H,hckH⟩:=hq2 R (hq2 hb4 (hq2 hw4 (Lib.hid hck)));clear R hb4 hw4 hck;go_wp2_with (go_at_call 39;refine(moment_p _ _).mono ?_;rintro e wz ⟨rfl,rfl⟩);exact RH.out
     ·obtain rfl:k=ln:=by omega
      have e:lsl.drop k = []:=List.drop_eq_nil_of_le (by have:=hllH.out;omega);rw[e,lossErr]at hck;have hF:=he0H.out hck;clear e hck
      by_cases i1:inR 1 10 tr=true
      ·rw[if_pos i1]at hF;subst hF;have R:=RZH.out _ hb;obtain⟨RH,hbH⟩:=hq2 R (Lib.hid hb);clear R hb;go_wp2_with (go_at_call 43;refine(within_p _ _ _ _).mono ?_;rintro e wz ⟨rfl,rfl⟩);exact RH.out
      ·rw[if_neg i1]at hF;subst hF;have i1':inR 1 10 tr=false:=by simpa using i1
       clear i1;have R:=RZH.out _ hb;obtain⟨RH,hbH⟩:=hq2 R (Lib.hid hb);clear R hb;go_wp2_with (go_at_call 43;refine(within_p _ _ _ _).mono ?_;rintro e wz ⟨rfl,rfl⟩);exact RH.out
   ·rw[if_neg h3]at hF;subst hF;have R:=RZH.out _ hb2;obtain⟨RH,hb2H⟩:=hq2 R (Lib.hid hb2);clear R hb2;go_wp2;exact RH.out
  ·rw[if_neg h2]at hF;subst hF;have R:=RZH.out _ hb2;have h2':(f2 != 0)=true:=by simpa using h2
   clear h2;obtain⟨RH,hb2H⟩:=hq2 R (Lib.hid hb2);clear R hb2;go_wp2;exact RH.out
 ·rw[if_neg h1]at hF;subst hF;have R:=RZH.out _ hb1;have h1':(f1 != 0)=true:=by simpa using h1
  clear h1;obtain⟨RH,hb1H⟩:=hq2 R (Lib.hid hb1);clear R hb1;go_wp2;exact RH.out
end Go.Proofs.YtbnkoefljcekbaaGreatDoor.C9