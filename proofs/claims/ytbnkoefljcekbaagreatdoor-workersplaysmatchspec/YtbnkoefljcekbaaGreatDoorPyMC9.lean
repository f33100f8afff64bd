/-
 Several texts of mine as one, without what is not wanted here: XDelG, XRq, XRkW, XFmR, XFarmO.
-/
import Derived.Test.YtbnkoefljcekbaaGreatDoorPyLC9
import Derived.Lib.SliceRun
import Derived.Test.YtbnkoefljcekbaaGreatDoorPyGj
set_option linter.unusedVariables false
set_option linter.unusedSimpArgs false
set_option maxRecDepth 100000
set_option maxHeartbeats 8000000
namespace Go.Proofs.YtbnkoefljcekbaaGreatDoor.C9
open Go.ChangeShapes Go.WideShapes Go.Deep Go.RowKit
section
variable {α:Type} {R:Rd α} {e:TypeId} {w w':World} {base g n cap:Nat} {l:List α}
theorem own_open (h:Own R e w base (.slice (some ⟨g,0,none⟩) n cap) l):∃ cur,base≤g∧w.heap[g]? = some (.cells cur e (0,0))∧n≤cap∧cap≤maxLen∧cur.size=cap*R.size∧cur.toList.take (n*R.size)=l.flatMap R.vals∧l.length=n:=by
 have hl:=h.len
 rcases h.1.2 with ⟨hv,_⟩ | ⟨g',cap',cur,hv,a,b,c,d,e1,f⟩
 ·cases hv
 ·injection hv with h1 h2 h3;injection h1 with h1;injection h1 with h1;subst h1 h3;rw[hl]at c f;exact⟨cur,a,b,c,d,e1,f,hl⟩
theorem own_make {cur:Array Value} (a:base≤g) (b:w.heap[g]? = some (.cells cur e (0,0))) (c:n≤cap) (d:cap≤maxLen) (e1:cur.size=cap*R.size) (f:cur.toList.take (n*R.size)=l.flatMap R.vals) (hl:l.length=n) (hok:∀ x∈l,R.ok w x) :
  Own R e w base (.slice (some ⟨g,0,none⟩) n cap) l:=by
 subst hl;exact⟨⟨flatMap_vals_length l,.inr ⟨g,cap,cur,rfl,a,b,c,d,e1,f⟩⟩,hok⟩
theorem own_same (h:Own R e w base (.slice (some ⟨g,0,none⟩) n cap) l) (hg:w'.heap[g]? = w.heap[g]?) (hok:∀ x∈l,R.ok w x→R.ok w' x):Own R e w' base (.slice (some ⟨g,0,none⟩) n cap) l:=by
 obtain⟨cur,a,b,c,d,e1,f,hl⟩:=own_open h;exact own_make a (hg.trans b) c d e1 f hl (fun x hx=>hok x hx (h.2 x hx))
theorem flatMap_take (l:List α) (i:Nat):(l.take i).flatMap R.vals=(l.flatMap R.vals).take (i*R.size):=by
 induction l generalizing i with
 | nil=>simp
 | cons x l ih =>
  cases i with
  | zero=>simp
  | succ i =>
   have hx:(R.vals x).length≤(i+1)*R.size:=by rw[R.len,Nat.add_mul];omega
   have e1:(i+1)*R.size-R.size=i*R.size:=by rw[Nat.add_mul];omega
   rw[List.take_succ_cons,List.flatMap_cons,List.flatMap_cons,ih,List.take_append,List.take_of_length_le hx,R.len,e1]
theorem flatMap_drop (l:List α) (i:Nat):(l.drop i).flatMap R.vals=(l.flatMap R.vals).drop (i*R.size):=by
 induction l generalizing i with
 | nil=>simp
 | cons x l ih =>
  cases i with
  | zero=>simp
  | succ i =>
   have hx:(R.vals x).length≤(i+1)*R.size:=by rw[R.len,Nat.add_mul];omega
   have e1:(i+1)*R.size-R.size=i*R.size:=by rw[Nat.add_mul];omega
   rw[List.drop_succ_cons,List.flatMap_cons,ih,List.drop_append,List.drop_eq_nil_of_le hx,R.len,e1,List.nil_append]
theorem own_put (h:Own R e w base (.slice (some ⟨g,0,none⟩) n cap) l) {i:Nat} (hi:i<n) (x:α) (hx:R.ok w x) (hok:∀ y,R.ok w y→R.ok (w.setCells g (i*R.size) (R.vals x)) y) :
  Own R e (w.setCells g (i*R.size) (R.vals x)) base (.slice (some ⟨g,0,none⟩) n cap) (l.set i x):=by
 obtain⟨cur,a,b,c,d,e1,f,hl⟩:=own_open h;have hin:(i+1)*R.size≤n*R.size:=Nat.mul_le_mul_right _ hi;have hnc:n*R.size≤cap*R.size:=Nat.mul_le_mul_right _ c;rw[Nat.add_mul,Nat.one_mul]at hin;obtain⟨cur',h1,h2⟩:=heap_setCells g e (R.vals x) (i*R.size) w cur b (by rw[R.len,e1];omega);have hcl:cur.toList.length=cap*R.size:=by simpa using e1
 have hlen:cur'.size=cap*R.size:=by
  have:=congrArg List.length h2;simp only[Array.length_toList,List.length_append,List.length_take,List.length_drop,R.len]at this;omega
 refine own_make a h1 c d hlen ?_ (by rw[List.length_set];exact hl) (fun y hy=>?_)
 ·rw[h2];have hset:l.set i x=l.take i++x::l.drop (i+1):=by rw[List.set_eq_take_append_cons_drop,if_pos (by omega)]
  rw[hset,List.flatMap_append,List.flatMap_cons,flatMap_take,flatMap_drop,← f];have e2:(cur.toList.take (i*R.size)).length=i*R.size:=by rw[List.length_take];omega
  have e3:(R.vals x).length≤n*R.size-i*R.size:=by rw[R.len];omega
  have e4:(cur.toList.take (n*R.size)).take (i*R.size)=cur.toList.take (i*R.size):=by rw[List.take_take,Nat.min_eq_left (by omega)]
  have e5:(cur.toList.take (n*R.size)).drop ((i+1)*R.size)=(cur.toList.drop (i*R.size+R.size)).take (n*R.size-i*R.size-R.size):=by
   rw[List.drop_take,Nat.add_mul,Nat.one_mul]
   congr 1
   omega
  rw[e4,e5,List.append_assoc,List.take_append,e2,List.take_of_length_le (by omega),List.take_append,List.take_of_length_le e3,R.len]
 ·rcases List.mem_or_eq_of_mem_set hy with hy | rfl
  ·exact hok _ (h.2 _ hy)
  ·exact hok _ hx
theorem own_wipe (h:Own R e w base (.slice (some ⟨g,0,none⟩) n cap) l) {i:Nat} (hi:i≤n) (vs:List Value) (hv:vs.length=(n-i)*R.size) (hok:∀ y,R.ok w y→R.ok (w.setCells g (i*R.size) vs) y) :
  Own R e (w.setCells g (i*R.size) vs) base (.slice (some ⟨g,0,none⟩) i cap) (l.take i):=by
 obtain⟨cur,a,b,c,d,e1,f,hl⟩:=own_open h;have hin:i*R.size≤n*R.size:=Nat.mul_le_mul_right _ hi;have hnc:n*R.size≤cap*R.size:=Nat.mul_le_mul_right _ c;rw[Nat.sub_mul]at hv;obtain⟨cur',h1,h2⟩:=heap_setCells g e vs (i*R.size) w cur b (by rw[e1];omega);have hcl:cur.toList.length=cap*R.size:=by simpa using e1
 have hlen:cur'.size=cap*R.size:=by
  have:=congrArg List.length h2;simp only[Array.length_toList,List.length_append,List.length_take,List.length_drop]at this;omega
 refine own_make a h1 (by omega) d hlen ?_ (by rw[List.length_take];omega) (fun y hy=>hok _ (h.2 _ (List.mem_of_mem_take hy)));rw[h2,flatMap_take,← f,List.append_assoc,List.take_append,List.length_take,hcl,Nat.min_eq_left (by omega),Nat.sub_self,List.take_zero,List.append_nil,List.take_take,List.take_take,Nat.min_self,Nat.min_eq_left hin]
end
theorem run_clear_N {P:Program} (w:World) (t e ty:TypeId) (z:Value) (s:Nat) (ht:P.underlying t=some (.slice e)) (hv:∀ w,(zeroValue e).run P w = .ok z w) (hz:z.cells.size=s) (h1:∀ v∈z.cells.toList,v.oneCell'=true) (b o n c:Nat) (hn:0<n) (hs:0<s)
  (hc:∀ j,j<n*s→(w.cell? ⟨b,o+j,none⟩).isSome=true) (hf:∀ j,j<n*s→w.frozen? ⟨b,o+j,none⟩=false) :
  (Builtin.zeroCells z.cells n).toList.length=n*s∧(Builtin.clear_ #[t] ty #[.slice (some ⟨b,o,none⟩) n c]).run P w = .ok (.tuple #[]) (w.setCells b o (Builtin.zeroCells z.cells n).toList):=by
 refine⟨by simp[Builtin.zeroCells,hz],?_⟩;have hl:(Builtin.zeroCells z.cells n).toList.length=n*s:=by simp[Builtin.zeroCells,hz]
 have hst:=run_storeCells_cells (P:=P) b o (Builtin.zeroCells z.cells n).toList 0 w (by rw[hl];simpa using hc) (by rw[hl];simpa using hf) (by
  intro v hv';simp only[Builtin.zeroCells,Array.toList_map,List.mem_map]at hv';obtain⟨i,_,rfl⟩:=hv';have hlt:i % z.cells.size<z.cells.size:=Nat.mod_lt _ (by omega);rw[getElem!_pos z.cells _ hlt];exact h1 _ (by simp))
 simp only[Nat.add_zero]at hst;obtain⟨m,rfl⟩:∃ m,n=m+1:=⟨n-1,by omega⟩;simp[Builtin.clear_,run_underlying ht,hv,hst]
structure RX where
 x:Farm
 F:FP
 oA:Option Addr
 oc:Nat
 M:List Int
 base:Nat
 f:Nat
 db:Nat
 lb:Nat
def RX.N (X:RX):Nat:=X.x.works.n
def RX.ov (X:RX):Value:=.slice X.oA X.N X.oc
def RX.cells (X:RX) (t:Int) (rv:Value):List Value :=
 [.slice X.x.workers.A X.x.workers.n X.x.workers.cap,.slice X.x.works.A X.x.works.n X.x.works.cap,.slice X.x.lost.A X.x.lost.n X.x.lost.cap,.int .i64 X.x.tries,.bool X.x.doubles,
 .slice X.oA X.N X.oc,.int .i64 t,rv,.slice (some ⟨X.db,0,none⟩) X.N X.N,.slice (some ⟨X.lb,0,none⟩) X.N X.N]
structure QA (X:RX) (rv:Value) (q:QS) (w0 W:World):Prop where
 blk:Blk W X.f (X.cells q.at_ rv)
 done:BRow W X.db X.N q.done
 lost:IRow W X.lb X.N q.lost
 ord:Own RInt 3 W X.base X.ov X.M
 runs:Own RRun 34 W X.base rv (q.runs.map (toRun X.x))
 ne:X.f≠X.db∧X.f≠X.lb∧X.db≠X.lb
 ge:X.base≤X.f∧X.base≤X.db∧X.base≤X.lb
 lt:X.f<W.heap.size∧X.db<W.heap.size∧X.lb<W.heap.size
 ap:∀ b,rv.ownBlock=some b→b≠X.f∧b≠X.db∧b≠X.lb∧X.ov.ownBlock≠some b
 oap:∀ b,X.ov.ownBlock=some b→b≠X.f∧b≠X.db∧b≠X.lb
 base:X.base=w0.heap.size
 bel:Below w0.heap.size w0 W
section
variable {X:RX} {rv:Value} {q:QS} {w0 W W':World}
theorem QA.parts (h:QA X rv q w0 W) {row:Option Nat} (hg:W.grownBy W' row) :
  (row≠some X.f→Blk W' X.f (X.cells q.at_ rv))∧(row≠some X.db→BRow W' X.db X.N q.done)∧(row≠some X.lb→IRow W' X.lb X.N q.lost) ∧
  ((∀ b,X.ov.ownBlock=some b→row≠some b)→Own RInt 3 W' X.base X.ov X.M)∧((∀ b,rv.ownBlock=some b→row≠some b)→Own RRun 34 W' X.base rv (q.runs.map (toRun X.x))) ∧
  (X.f<W'.heap.size∧X.db<W'.heap.size∧X.lb<W'.heap.size)∧((∀ b,row=some b→X.base≤b)→Below w0.heap.size w0 W'):=by
 obtain⟨l1,l2,l3⟩:=h.lt;have hk:∀ b,b<W.heap.size→row≠some b→W'.heap[b]? = W.heap[b]?:=fun b hb hne=>hg.block b hb (fun e=>hne e.symm);refine⟨fun e=>h.blk.keep (hk _ l1 e),fun e=>brow_kp h.done (hk _ l2 e),fun e=>h.lost.keep (hk _ l3 e),fun e=>own_kp h.ord hg e (fun x _ hx=>hx),fun e=>own_kp h.runs hg e (fun x _ hx=>run_ok_any _ _ x hx),?_,fun e=>?_⟩
 ·have:=hg.size;omega
 ·exact h.bel.grown hg h.bel.size (fun b hb=>by have:=e b hb;rw[h.base]at this;exact this)
theorem QA.below (h:QA X rv q w0 W) (hb:Below W.heap.size W W'):QA X rv q w0 W':=by
 obtain⟨p1,p2,p3,p4,p5,p6,p7⟩:=h.parts (below_g hb);exact⟨p1 (by simp),p2 (by simp),p3 (by simp),p4 (by simp),p5 (by simp),h.ne,h.ge,p6,h.ap,h.oap,h.base,p7 (by simp)⟩
theorem QA.setDone (h:QA X rv q w0 W) (k:Nat) (u:Bool):QA X rv { q with done:=fun j=>if j=k then u else q.done j } w0 (W.setCell ⟨X.db,k,none⟩ (.bool u)):=by
 obtain⟨e1,e2,e3⟩:=h.ne;obtain⟨p1,p2,p3,p4,p5,p6,p7⟩:=h.parts (grown_setc W ⟨X.db,k,none⟩ (.bool u));refine⟨p1 (fun e=>e1 (by injection e with e;exact e.symm)),h.done.set u,p3 (fun e=>e3 (by injection e)),p4 (fun b hb e=>(h.oap b hb).2.1 (by injection e with e;exact e.symm)),p5 (fun b hb e=>(h.ap b hb).2.1 (by injection e with e;exact e.symm)),h.ne,h.ge,p6,h.ap,h.oap,h.base,p7 (fun b hb=>by injection hb with hb;rw[← hb];exact h.ge.2.1)⟩
theorem QA.setLost (h:QA X rv q w0 W) (k:Nat) (u:Int):QA X rv { q with lost:=fun j=>if j=k then u else q.lost j } w0 (W.setCell ⟨X.lb,k,none⟩ (.int .i64 u)):=by
 obtain⟨e1,e2,e3⟩:=h.ne;obtain⟨p1,p2,p3,p4,p5,p6,p7⟩:=h.parts (grown_setc W ⟨X.lb,k,none⟩ (.int .i64 u));refine⟨p1 (fun e=>e2 (by injection e with e;exact e.symm)),p2 (fun e=>e3 (by injection e with e;exact e.symm)),h.lost.set u,p4 (fun b hb e=>(h.oap b hb).2.2 (by injection e with e;exact e.symm)),p5 (fun b hb e=>(h.ap b hb).2.2.1 (by injection e with e;exact e.symm)),h.ne,h.ge,p6,h.ap,h.oap,h.base,p7 (fun b hb=>by injection hb with hb;rw[← hb];exact h.ge.2.2)⟩
theorem QA.setAt (h:QA X rv q w0 W) (u:Int):QA X rv { q with at_:=u } w0 (W.setCell ⟨X.f,6,none⟩ (.int .i64 u)):=by
 obtain⟨e1,e2,e3⟩:=h.ne;obtain⟨p1,p2,p3,p4,p5,p6,p7⟩:=h.parts (grown_setc W ⟨X.f,6,none⟩ (.int .i64 u));exact⟨h.blk.set (k:=6) (by simp[RX.cells]) _,p2 (fun e=>e1 (by injection e)),p3 (fun e=>e2 (by injection e)),p4 (fun b hb e=>(h.oap b hb).1 (by injection e with e;exact e.symm)),p5 (fun b hb e=>(h.ap b hb).1 (by injection e with e;exact e.symm)),h.ne,h.ge,p6,h.ap,h.oap,h.base,p7 (fun b hb=>by injection hb with hb;rw[← hb];exact h.ge.1)⟩
theorem QA.put (h:QA X rv q w0 W) {rv':Value} {L:List RR} (hg:W.grownBy W' rv.ownBlock) (ho:Own RRun 34 W' X.base rv' (L.map (toRun X.x))) (hat:∀ b,rv'.ownBlock=some b→rv.ownBlock=some b∨W.heap.size≤b) :
  QA X rv' { q with runs:=L } w0 (W'.setCell ⟨X.f,7,none⟩ rv'):=by
 obtain⟨e1,e2,e3⟩:=h.ne;obtain⟨l1,l2,l3⟩:=h.lt;obtain⟨p1,p2,p3,p4,p5,p6,p7⟩:=h.parts hg;have ap':∀ b,rv'.ownBlock=some b→b≠X.f∧b≠X.db∧b≠X.lb∧X.ov.ownBlock≠some b:=fun b hb=>by
  rcases hat b hb with hc | hc
  ·exact h.ap b hc
  ·refine⟨by omega,by omega,by omega,fun e=>?_⟩;have:=(h.ord.1.lt b e).2;omega
 have b1:=p1 (fun e=>(h.ap _ e).1 rfl);have b2:=p2 (fun e=>(h.ap _ e).2.1 rfl);have b3:=p3 (fun e=>(h.ap _ e).2.2.1 rfl);have b4:=p4 (fun b hb e=>(h.ap b e).2.2.2 hb);have b7:=p7 (fun b hb=>(h.runs.1.lt b hb).1);have hg2:=grown_setc W' ⟨X.f,7,none⟩ rv';have hf0:w0.heap.size≤X.f:=by rw[← h.base];exact h.ge.1
 refine⟨b1.set (k:=7) (by simp[RX.cells]) _,brow_kp b2 (hg2.block _ p6.2.1 (fun e=>e1 (by injection e with e;exact e.symm))),b3.keep (hg2.block _ p6.2.2 (fun e=>e2 (by injection e with e;exact e.symm))),own_kp b4 hg2 (fun b hb e=>(h.oap b hb).1 (by injection e with e;exact e.symm)) (fun x _ hx=>hx),
  own_kp ho hg2 (fun b hb e=>(ap' b hb).1 (by injection e with e;exact e.symm)) (fun x _ hx=>run_ok_any _ _ x hx),h.ne,h.ge,?_,ap',h.oap,h.base,b7.setCell (p:=⟨X.f,7,none⟩) hf0 _⟩
 have:=hg2.size;omega
theorem QA.row (h:QA X rv q w0 W):∃ A cap,rv = .slice A q.runs.length cap∧(0<q.runs.length→∃ g,A=some ⟨g,0,none⟩):=by
 rcases h.runs.1.2 with ⟨e1,e2⟩ | ⟨g,cap,cur,e,_⟩
 ·rw[List.length_map]at e2;exact⟨none,0,by rw[e1,e2],fun hp=>by omega⟩
 ·rw[List.length_map]at e;exact⟨some ⟨g,0,none⟩,cap,e,fun _=>⟨g,rfl⟩⟩
theorem QA.stop {g n cap:Nat} (h:QA X (.slice (some ⟨g,0,none⟩) n cap) q w0 W) {i:Nat} (hi:i<n) (t how:Int) (ht:I64 t) (hh:I64 how) :
  QA X (.slice (some ⟨g,0,none⟩) n cap) { q with runs:=stopAt t how q.runs i } w0 ((W.setCell ⟨g,i*5+3,none⟩ (.int .i64 t)).setCell ⟨g,i*5+4,none⟩ (.int .i64 how)):=by
 obtain⟨a1,a2,a3,a4⟩:=h.ap g rfl;have hg:W.grownBy ((W.setCell ⟨g,i*5+3,none⟩ (.int .i64 t)).setCell ⟨g,i*5+4,none⟩ (.int .i64 how)) (some g):=grown_trans (grown_setc W ⟨g,i*5+3,none⟩ _) (grown_setc _ ⟨g,i*5+4,none⟩ _);obtain⟨p1,p2,p3,p4,p5,p6,p7⟩:=h.parts hg;obtain⟨cur,b1,b2,b3,b4,b5,b6,b7⟩:=own_open h.runs;obtain⟨cur',c1,c2⟩:=heap_setCells g 34 [.int .i64 t,.int .i64 how] (i*5+3) W cur b2 (by rw[b5];show i*5+3+2≤cap*5;omega);have b5':cur.size=cap*5:=b5;have hcl:cur.toList.length=cap*5:=by rw[Array.length_toList];exact b5
 have hlen:cur'.size=cap*5:=by
  have:=congrArg List.length c2;simp only[Array.length_toList,List.length_append,List.length_take,List.length_drop,List.length_cons,List.length_nil]at this;omega
 rw[List.length_map]at b7;obtain⟨r,hr⟩:∃ r,q.runs[i]? = some r:=⟨q.runs[i]'(by omega),List.getElem?_eq_getElem _⟩;have hset:stopAt t how q.runs i=q.runs.take i++stopR t how r::q.runs.drop (i+1):=by
  unfold stopAt;rw[List.set_eq_take_append_cons_drop,if_pos (by omega),List.getD_eq_getElem?_getD,hr];rfl
 have hold:q.runs=q.runs.take i++r::q.runs.drop (i+1):=by
  obtain⟨h1,h2⟩:=List.getElem?_eq_some_iff.1 hr
  conv=>lhs;rw[← List.take_append_drop i q.runs,List.drop_eq_getElem_cons h1,h2]
 have hrow:Own RRun 34 ((W.setCell ⟨g,i*5+3,none⟩ (.int .i64 t)).setCell ⟨g,i*5+4,none⟩ (.int .i64 how)) X.base (.slice (some ⟨g,0,none⟩) n cap) ((stopAt t how q.runs i).map (toRun X.x)):=by
  refine own_make b1 c1 b3 b4 hlen ?_ (by rw[List.length_map,stopAt_len];exact b7) (fun y hy=>?_)
  ·show cur'.toList.take (n*5)=_;rw[c2,hset,List.map_append,List.map_cons,List.flatMap_append,List.flatMap_cons];have b6':cur.toList.take (n*5)=((q.runs.take i).map (toRun X.x)).flatMap RRun.vals++(RRun.vals (toRun X.x r)++((q.runs.drop (i+1)).map (toRun X.x)).flatMap RRun.vals):=by
    have:cur.toList.take (n*5)=(q.runs.map (toRun X.x)).flatMap RRun.vals:=b6;rw[this]
    conv=>lhs;rw[hold,List.map_append,List.map_cons,List.flatMap_append,List.flatMap_cons]
   have la:(((q.runs.take i).map (toRun X.x)).flatMap RRun.vals).length=i*5:=by
    rw[flatMap_vals_length,List.length_map,List.length_take];show min i q.runs.length*5=i*5;rw[Nat.min_eq_left (by omega)]
   have lc:(((q.runs.drop (i+1)).map (toRun X.x)).flatMap RRun.vals).length=(n-(i+1))*5:=by
    rw[flatMap_vals_length,List.length_map,List.length_drop,b7];rfl
   have hv:RRun.vals (toRun X.x (stopR t how r))=(RRun.vals (toRun X.x r)).take 3 ++ [.int .i64 t,.int .i64 how]:=rfl;have lv:(RRun.vals (toRun X.x r)).length=5:=rfl;have hin:n*5≤cap*5:=by omega
   have t1:cur.toList.take (i*5+3)=((q.runs.take i).map (toRun X.x)).flatMap RRun.vals++(RRun.vals (toRun X.x r)).take 3:=by
    have:cur.toList.take (i*5+3)=(cur.toList.take (n*5)).take (i*5+3):=by rw[List.take_take,Nat.min_eq_left (by omega)]
    rw[this,b6',List.take_append,la,List.take_of_length_le (by omega),show i*5+3-i*5=3 by omega,List.take_append_of_le_length (by rw[lv];omega)]
   have t2:(cur.toList.drop (i*5+3+2)).take (n*5-(i*5+5))=((q.runs.drop (i+1)).map (toRun X.x)).flatMap RRun.vals:=by
    have:(cur.toList.drop (i*5+3+2)).take (n*5-(i*5+5))=(cur.toList.take (n*5)).drop (i*5+5):=by rw[List.drop_take]
    rw[this,b6',List.drop_append,la,List.drop_of_length_le (by omega),show i*5+5-i*5=5 by omega,List.nil_append,List.drop_append,lv,List.drop_of_length_le (by rw[lv];omega)];rfl
   rw[List.length_cons,List.length_cons,List.length_nil,hv,t1];have l1:(((q.runs.take i).map (toRun X.x)).flatMap RRun.vals++(RRun.vals (toRun X.x r)).take 3).length=i*5+3:=by rw[List.length_append,la,List.length_take,lv];omega
   rw[List.take_append,List.take_of_length_le (by rw[List.length_append,l1];simp;omega),List.length_append,l1];rw[show (n*5-(i*5+3 + [Value.int IntKind.i64 t,Value.int IntKind.i64 how].length))=n*5-(i*5+5) by simp];rw[show i*5+3+(0+1+1)=i*5+3+2 by omega,t2];simp only[List.append_assoc]
  ·obtain⟨s,hs,rfl⟩:=List.mem_map.1 hy;rw[hset]at hs;have old:∀ s∈q.runs,RRun.ok W (toRun X.x s):=fun s hs=>h.runs.2 _ (List.mem_map_of_mem hs)
   rcases List.mem_append.1 hs with hs | hs
   ·exact run_ok_any _ _ _ (old s (List.mem_of_mem_take hs))
   ·rcases List.mem_cons.1 hs with rfl | hs
    ·have:=old r (List.mem_of_getElem? hr);exact⟨this.1,this.2.1,this.2.2.1,ht,hh⟩
    ·exact run_ok_any _ _ _ (old s (List.mem_of_mem_drop hs))
 refine⟨p1 (fun e=>a1 (by injection e)),p2 (fun e=>a2 (by injection e)),p3 (fun e=>a3 (by injection e)),p4 (fun b hb e=>a4 (by injection e with e;rw[e];exact hb)),hrow,h.ne,h.ge,p6,h.ap,h.oap,h.base,p7 (fun b hb=>by injection hb with hb;rw[← hb];exact b1)⟩
end
theorem own_base {α:Type} {R:Rd α} {e:TypeId} {w:World} {base b:Nat} {v:Value} {l:List α} (h:Own R e w base v l) (hb:b≤base):Own R e w b v l :=
 ⟨⟨h.1.1,h.1.2.imp id fun ⟨g,cap,cur,a,c,r⟩=>⟨g,cap,cur,a,Nat.le_trans hb c,r⟩⟩,h.2⟩
def fR (S:List Int) (x:Int):Int:=- gt S x.toNat
def RkO (S:List Int) (B N:Nat) (w1:World) (v i:Value) (wr:World):Prop :=
 ∃ (k:Nat) (A':Option Addr) (c':Nat) (L:List Int),k≤N∧i = .int .i64 k∧v = .slice A' k c'∧Own RInt 3 wr w1.heap.size v L∧SortedBy (fR S) L∧SameCls (fR S) L (nz (List.range k))∧Below w1.heap.size w1 wr
def RkI (S L:List Int) (k:Nat) (wa:World) (v:Value) (wr:World):Prop :=
 ∃ p:Nat,p≤k∧v = .int .i64 p∧(∀ y∈L.drop p,fR S (k:Int)<fR S y)∧Below wa.heap.size wa wr
theorem nz_range_succ (k:Nat):nz (List.range (k+1))=nz (List.range k) ++ [(k:Int)]:=by rw[List.range_succ,nz_snoc]
theorem cell_Sms {w:World} {B N:Nat} {S:List Int} (h:Sms w B N S) {j:Nat} (hj:j<N):w.cell? ⟨B,j,none⟩=some (.int .i64 (gt S j)):=by
 obtain⟨x,hx⟩:∃ x,S[j]? = some x:=⟨S[j]'(by rw[h.len];exact hj),List.getElem?_eq_getElem _⟩;rw[gt_get hx];exact(h.cells j x hx).1
def RkAns (l:List Work) (N:Nat) (w:World) (e:Ending) (w':World):Prop :=
 ∃ (A':Option Addr) (c':Nat) (S M:List Int),e = .returned (.slice A' N c')∧Own RInt 3 w' w.heap.size (.slice A' N c') M∧Crit (gOf l) (szOf l) N (gt S)∧SortedBy (fR S) M∧SameCls (fR S) M (nz (List.range N))∧Below w.heap.size w w'
theorem rranked_any (A:Option Addr) (N c:Nat) (l:List Work) (w:World) (hl:SlAt RWork w A N l) (hok:WOk l) :
  Calls Tryz.prog 75 #[.slice A N c] w (RkAns l N w):=by
 have hll:=hl.1;have hN2:N≤200:=by have:=hok.len;omega
 obtain⟨hlH,hokH,hllH⟩:=hq2 hl (hq2 hok (Lib.hid hll));clear hl hok hll;go_enter Tryz.func75,Tryz.ntmps75;go_wp2_with fail;refine(rcrit_any A N c l w hlH.out hokH.out).mono ?_;rintro e w1 ⟨B,S,rfl,hS,hC,hbd,hB0,hB1,hb1⟩;have hSk:∀ wr,Below w1.heap.size w1 wr→Sms wr B N S:=fun wr h=>hS.keep (h.block B hB1);obtain⟨hSH,hCH,hbdH,hb1H,hSkH⟩:=hqb hS hC hbd hb1 (Lib.hid hSk);clear hS hC hbd hb1 hSk;go_wp2_with fail
 go_loopw [4,11] (fun v i wr=>RkO S B N w1 v i wr) (fun _ i _=>N-(intOf i).toNat)
 case atStart=>exact⟨0,none,0,[],Nat.zero_le _,rfl,rfl,Own.nil _ _,List.Pairwise.nil,SameCls.refl _,Below.refl _ _⟩
 case round =>
  obtain⟨k,A1,c1,L,hk,rfl,rfl,hown,hso,hcl,hb⟩:=hrel;have hnl:=hown.len;have hbs:=hb.size
  by_cases hlt:k<N
  ·have hLb:∀ x∈L,0≤x∧x<(k:Int):=fun x hx=>by
    obtain⟨q,hq,rfl⟩:=List.mem_map.1 (hcl.mem hx);have:=List.mem_range.1 hq;omega
   obtain⟨wa,rfl⟩:∃ W,W=wr:=⟨_,rfl⟩;have hsl:=hown.slAt;obtain⟨hownH,hsoH,hclH,hbH,hLbH,hslH⟩:=hq2 hown (hqb hso hcl hb hLb (Lib.hid hsl));clear hown hso hcl hb hLb hsl;go_wp2_with fail
   go_loopw [6] (fun v wr=>RkI S L k wa v wr) (fun v _=>(intOf v).toNat)
   case atStart=>exact⟨k,Nat.le_refl _,rfl,(by rw[List.drop_eq_nil_of_le (by omega)];intro y hy;cases hy),Below.refl _ _⟩
   case round =>
    obtain⟨p,hp,rfl,hdp,hbr⟩:=hrel;have hbw:=hbH.out.trans (hbr.mono hbs);have hpL:p≤L.length:=by omega
    have hcall:(∀ a,(L.take p).getLast? = some a→fR S a≤fR S (k:Int))→∀ nq,Calls Tryz.prog 125 #[.slice A1 k c1,.int .i64 p,.slice (some ⟨wr.heap.size,0,none⟩) 1 1] ((wr.drewN nq).alloc (.cells #[.int .i64 k] 3)) fun e w' =>
      ∃ A' c',e = .returned (.slice A' (k+1) c')∧RkO S B N w1 (.slice A' (k+1) c') (.int .i64 ((k:Int)+1)) w':=fun hX nq=>by
     have hb8:Below wa.heap.size wa ((wr.drewN nq).alloc (.cells #[.int .i64 k] 3)):=(bel_drewN hbr nq).alloc (bel_drewN hbr nq).size _;have hbb:=hbH.out.trans (hb8.mono hbs);have hown8:=hownH.out.below hb8;have hsz8:(wr.drewN nq).heap.size=wr.heap.size:=rfl;have hv:((wr.drewN nq).alloc (.cells #[.int .i64 k] 3)).heap[wr.heap.size]? = some (.cells (RInt.vals (k:Int)).toArray 3 (0,0)):=by
      have:=heap_alloc_new (wr.drewN nq) (.cells #[.int .i64 k] 3);rw[hsz8]at this;exact this
     rw[← List.take_append_drop p L]at hown8;refine(ins_any w1.heap.size k c1 p wr.heap.size A1 (L.take p) (L.drop p) (k:Int) _ (by rw[List.length_take];omega) hown8 hv (by show I64 (k:Int);unfold I64;omega) (fun g hg e=>?_) (by have:=hbb.size;exact this) (by omega)).mono ?_
     ·have:=(hownH.out.1.lt g hg).2;have:=hbr.size;omega
     ·rintro e w' ⟨A',c',rfl,hown9,hgr⟩;refine⟨A',c',rfl,k+1,A',c',L.take p++(k:Int)::L.drop p,hlt,by go_num,rfl,hown9,?_,?_,?_⟩
      ·exact ins_sorted (by rw[List.take_append_drop];exact hsoH.out) hX hdp
      ·rw[nz_range_succ];exact ins_cls (by rw[List.take_append_drop];exact hclH.out) hdp
      ·exact hbb.grown hgr hbb.size (fun g hg=>(hownH.out.1.lt g hg).1)
    by_cases hp0:0<p
    ·obtain⟨bo,oo,hA6,_⟩:=hslH.out.2.1 (by omega);subst hA6;obtain⟨j,rfl⟩:∃ j,p=j+1:=⟨p-1,by omega⟩;obtain⟨x,hx⟩:∃ x,L[j]? = some x:=⟨L[j]'(by omega),List.getElem?_eq_getElem _⟩;have hxb:=hLbH.out x (List.mem_of_getElem? hx);obtain⟨q,rfl⟩:∃ q:Nat,x=(q:Int):=⟨x.toNat,by omega⟩;have d0:=cell_IntW (hslH.out.below hbr) hx;have d1:=cell_Sms (hSkH.out _ hbw) (j:=q) (by omega);have d2:=cell_Sms (hSkH.out _ hbw) hlt;have hfk:fR S (k:Int) = - gt S k:=rfl;have hfq:fR S (q:Int) = - gt S q:=rfl
     by_cases hgt:gt S q<gt S k
     ·have R:∀ nq,RkI S L k wa (.int .i64 (j:Int)) (wr.drewN nq):=fun nq=>⟨j,by omega,rfl,fun y hy=>by
       rw[drop_cons hx]at hy
       rcases List.mem_cons.1 hy with rfl | hy
       ·omega
       ·exact hdp y hy,bel_drewN hbr nq⟩
      clear hdp hbr hbw hfk hfq;obtain⟨RH,hxH⟩:=hq2 R (Lib.hid hx);clear R hx;have w0:decide ((0:Int)<(j:Int)+1)=true:=decide_eq_true (by omega);have w1':IntKind.i64.wrap ((j:Int)+1-1)=(j:Int):=by rw[IntWalk.i64_in _ (by omega)];omega
      have hdg:decide (gt S q<gt S k)=true:=decide_eq_true hgt;go_wp2_with fail
      go_quiet (fail)
      go_wp2;exact⟨RH.out _,by simp[intOf]⟩
     ·have hle:fR S (q:Int)≤fR S (k:Int):=by omega
      have hcall2:=hcall (fun a ha=>by
       rw[List.take_add_one,hx,Option.toList_some,List.getLast?_append,List.getLast?_singleton]at ha;simp at ha;rw[← ha];exact hle)
      have w0:decide ((0:Int)<(j:Int)+1)=true:=decide_eq_true (by omega);have w1':IntKind.i64.wrap ((j:Int)+1-1)=(j:Int):=by rw[IntWalk.i64_in _ (by omega)];omega
      have hdg:decide (gt S q<gt S k)=false:=decide_eq_false hgt;clear hcall hdp hbr hbw hfk hfq hle;obtain⟨hcall2H,hxH⟩:=hq2 hcall2 (Lib.hid hx);clear hcall2 hx;go_wp2_with fail
      go_quiet (fail)
      go_wp2_with fail;refine(hcall2H.out _).mono ?_;rintro e w' ⟨A',c',rfl,R⟩;have RH:=Lib.hid R;clear R;go_wp2;refine⟨?rel,?measure⟩
      case measure=>(simp[intOf];omega)
      case rel=>first | exact RH.out | exact⟨rfl,RH.out⟩
    ·obtain rfl:p=0:=by omega
     have hcall2:=hcall (fun a ha=>by simp at ha);clear hcall hdp hbr hbw;have hcall2H:=Lib.hid hcall2;clear hcall2;go_wp2_with fail
     go_quiet (fail)
     go_wp2_with fail;refine(hcall2H.out _).mono ?_;rintro e w' ⟨A',c',rfl,R⟩;have RH:=Lib.hid R;clear R;go_wp2;refine⟨?rel,?measure⟩
     case measure=>(simp[intOf];omega)
     case rel=>first | exact RH.out | exact⟨rfl,RH.out⟩
  ·obtain rfl:k=N:=by omega
   have R:∀ nq,RkAns l k w (.returned (.slice A1 k c1)) (wr.drewN nq):=fun nq=>⟨A1,c1,S,L,rfl,own_base (hown.below (bel_drewN (Below.refl _ _) nq)) hb1H.out.size,hCH.out,hso,hcl,bel_drewN (hb1H.out.trans (hb.mono hb1H.out.size)) nq⟩;clear hown hso hcl hb;have RH:=Lib.hid R;clear R;go_wp2;go_ret;exact RH.out 0
end Go.Proofs.YtbnkoefljcekbaaGreatDoor.C9
namespace Go.Proofs.YtbnkoefljcekbaaGreatDoor.C9
open Go.ChangeShapes Go.WideShapes Go.Deep Go.RowKit Go.Maps
structure OrdX (X:FX):Prop where
 so:SortedBy (fR X.S) (nz X.F.order)
 cl:SameCls (fR X.S) (nz X.F.order) (nz (List.range X.N))
def insO (f:Nat→Int) (x:Nat):List Nat→List Nat
 | []=>[x]
 | y::l=>if f x<f y then x::y::l else y::insO f x l
theorem insO_split {f:Nat→Int} {x:Nat}:∀ {L:List Nat},SortedBy f L→∃ X Y,L=X++Y∧insO f x L=X++x::Y∧(∀ a∈X,f a≤f x)∧∀ y∈Y,f x<f y
 | [],_=>⟨[],[],rfl,rfl,(fun _ h=>by cases h),fun _ h=>by cases h⟩
 | y::L,h=>by
  obtain⟨h1,h2⟩:=List.pairwise_cons.1 h
  by_cases hy:f x<f y
  ·refine⟨[],y::L,rfl,by rw[insO,if_pos hy];rfl,(fun _ h=>by cases h),fun z hz=>?_⟩
   rcases List.mem_cons.1 hz with rfl | hz
   ·exact hy
   ·have:=h1 z hz;omega
  ·obtain⟨X,Y,e1,e2,e3,e4⟩:=insO_split (x:=x) h2;refine⟨y::X,Y,by rw[e1];rfl,by rw[insO,if_neg hy,e2];rfl,fun a ha=>?_,e4⟩
   rcases List.mem_cons.1 ha with rfl | ha
   ·omega
   ·exact e3 a ha
def ordF (f:Nat→Int) (l:List Nat):List Nat:=l.foldl (fun a x=>insO f x a) []
theorem ord_go {f:Nat→Int}:∀ (l A Z:List Nat),SortedBy f A→SameCls f A Z→A.Perm Z→SortedBy f (l.foldl (fun a x=>insO f x a) A)∧SameCls f (l.foldl (fun a x=>insO f x a) A) (Z++l)∧(l.foldl (fun a x=>insO f x a) A).Perm (Z++l)
 | [],A,Z,h1,h2,h3=>⟨h1,by rw[List.append_nil];exact h2,by rw[List.append_nil];exact h3⟩
 | x::l,A,Z,h1,h2,h3=>by
  obtain⟨X,Y,rfl,e2,e3,e4⟩:=insO_split (x:=x) h1;have a1:SortedBy f (insO f x (X++Y)):=by rw[e2];exact ins_sorted h1 (fun a ha=>e3 a (List.mem_of_getLast? ha)) e4
  have a2:SameCls f (insO f x (X++Y)) (Z ++ [x]):=by rw[e2];exact ins_cls h2 e4
  have a3:(insO f x (X++Y)).Perm (Z ++ [x]):=by
   rw[e2];exact(List.perm_middle.trans (List.Perm.cons x h3)).trans (List.perm_append_singleton x Z).symm
  have:=ord_go l _ _ a1 a2 a3;rw[List.append_assoc]at this;exact this
theorem ord_ok (f:Nat→Int) (l:List Nat):SortedBy f (ordF f l)∧SameCls f (ordF f l) l∧(ordF f l).Perm l:=ord_go l [] [] List.Pairwise.nil (SameCls.refl _) (List.Perm.refl _)
def ordOf (S:List Int) (N:Nat):List Nat:=ordF (fun k:Nat=>fR S k) (List.range N)
theorem ordOf_so (S:List Int) (N:Nat):SortedBy (fR S) (nz (ordOf S N)):=by
 have:=(ord_ok (fun k:Nat=>fR S k) (List.range N)).1;unfold SortedBy nz at *;rw[List.pairwise_map];exact this
theorem ordOf_cl (S:List Int) (N:Nat):SameCls (fR S) (nz (ordOf S N)) (nz (List.range N)):=fun v=>by
 have:=(ord_ok (fun k:Nat=>fR S k) (List.range N)).2.1 v;unfold cls nz at *;rw[List.filter_map,List.filter_map];exact congrArg _ this
theorem ordOf_perm (S:List Int) (N:Nat):(ordOf S N).Perm (List.range N):=(ord_ok _ _).2.2
theorem ordX_of {X:FX} (hF:X.F=fpOf X.x (ordOf X.S X.N)):OrdX X:=⟨by rw[hF];exact ordOf_so _ _,by rw[hF];exact ordOf_cl _ _⟩
theorem worker_times {x:Worker} (h:workerF x=0):0≤x.from_∧x.from_≤1000000000∧0≤x.to_∧x.to_≤1000000000:=by
 unfold workerF at h
 split at h
 ·split at h
  ·split at h
   ·rename_i hh
    obtain⟨_,_,a,b⟩:=hh;unfold inR at a b;simp only[Bool.and_eq_true,decide_eq_true_eq]at a b;exact⟨a.1,a.2,b.1,b.2⟩
   ·exact absurd h (by decide)
  ·rename_i hh
   exact absurd h hh
 ·exact absurd h (by decide)
theorem worker_nums {x:Worker} (h:workerF x=0):1≤x.slots∧1≤x.speed:=by
 unfold workerF at h
 split at h
 ·split at h
  ·split at h
   ·rename_i hh
    obtain⟨a,b,_,_⟩:=hh;unfold inR at a b;simp only[Bool.and_eq_true,decide_eq_true_eq]at a b;exact⟨a.1,b.1⟩
   ·exact absurd h (by decide)
  ·rename_i hh
   exact absurd h hh
 ·exact absurd h (by decide)
theorem fine_of {x:Farm} (h:FarmOk x) {S:List Int} {N:Nat} (hN:N=x.works.l.length):FFine (fpOf x (ordOf S N))∧∀ i,i<(fpOf x (ordOf S N)).nX→i∈(fpOf x (ordOf S N)).order:=by
 have hp:=ordOf_perm S N;refine⟨⟨⟨?_,fun i hi=>?_,fun k t hk hl=>?_⟩,fun k i hk hi=>?_,fun k hk=>?_,fun k hk=>?_,h.tri.1⟩,fun i hi=>?_⟩
 ·exact hp.nodup_iff.2 List.nodup_range
 ·have:=hp.mem_iff.1 hi;rw[List.mem_range,hN]at this;exact this
 ·simp only[fpOf,decide_eq_true_eq]at hl;exact List.mem_map.2 ⟨_,hl,rfl⟩
 ·have hk':k<x.workers.l.length:=hk;have hi':i<x.works.l.length:=hi;show 1≤secsF (wkOf x k) (woOf x i).size;rw[wkOf_get (List.getElem?_eq_getElem hk'),woOf_get (List.getElem?_eq_getElem hi')];have a:=(worker_nums (h.wk _ (List.getElem_mem hk'))).2;have b:=(h.wo.size _ (List.getElem_mem hi')).1;unfold secsF;exact(Int.le_ediv_iff_mul_le (by omega)).2 (by omega)
 ·have hk':k<x.workers.l.length:=hk;show 0≤(wkOf x k).from_;rw[wkOf_get (List.getElem?_eq_getElem hk')];exact(worker_times (h.wk _ (List.getElem_mem hk'))).1
 ·have hk':k<x.workers.l.length:=hk;show 0≤(wkOf x k).slots;rw[wkOf_get (List.getElem?_eq_getElem hk')];have:=(worker_nums (h.wk _ (List.getElem_mem hk'))).1;omega
 ·have hi':i<x.works.l.length:=hi;exact hp.mem_iff.2 (List.mem_range.2 (by omega))
theorem insO_congr {f g:Nat→Int} {x:Nat} (hx:f x=g x):∀ {L:List Nat},(∀ a∈L,f a=g a)→insO f x L=insO g x L∧∀ a∈insO g x L,a=x∨a∈L
 | [],_=>⟨rfl,fun a ha=>by rw[insO,List.mem_singleton]at ha;exact .inl ha⟩
 | y::L,h=>by
  obtain⟨e,m⟩:=insO_congr hx (L:=L) (fun a ha=>h a (List.mem_cons_of_mem _ ha));have hy:=h y List.mem_cons_self;unfold insO;rw[hx,hy,e];refine⟨rfl,fun a ha=>?_⟩
  split at ha
  ·rcases List.mem_cons.1 ha with ha | ha
   ·exact .inl ha
   ·exact .inr ha
  ·rcases List.mem_cons.1 ha with ha | ha
   ·exact .inr (by rw[ha];exact List.mem_cons_self)
   ·rcases m a ha with ha | ha
    ·exact .inl ha
    ·exact .inr (List.mem_cons_of_mem _ ha)
theorem ordF_go {f g:Nat→Int}:∀ (l A:List Nat),(∀ a∈l,f a=g a)→(∀ a∈A,f a=g a)→l.foldl (fun a x=>insO f x a) A=l.foldl (fun a x=>insO g x a) A
 | [],A,_,_=>rfl
 | x::l,A,h1,h2=>by
  obtain⟨e,m⟩:=insO_congr (h1 x List.mem_cons_self) h2;rw[List.foldl_cons,List.foldl_cons,e];refine ordF_go l _ (fun a ha=>h1 a (List.mem_cons_of_mem _ ha)) fun a ha=>?_
  rcases m a ha with rfl | ha
  ·exact h1 _ List.mem_cons_self
  ·exact h2 a ha
theorem ordOf_congr {S S':List Int} {N:Nat} (h:∀ j,j<N→gt S j=gt S' j):ordOf S N=ordOf S' N:=by
 unfold ordOf ordF;refine ordF_go _ _ (fun a ha=>?_) (fun a ha=>by cases ha);unfold fR;rw[Int.toNat_natCast,h a (List.mem_range.1 ha)]
open Classical in
noncomputable def orx (x:Farm):List Nat:=if h:∃ S:List Int,Crit (gOf x.works.l) (szOf x.works.l) x.works.l.length (gt S) then ordOf h.choose x.works.l.length else []
theorem orx_eq {x:Farm} (h:WOk x.works.l) {S:List Int} (hC:Crit (gOf x.works.l) (szOf x.works.l) x.works.l.length (gt S)):ordOf S x.works.l.length=orx x:=by
 have hex:∃ S:List Int,Crit (gOf x.works.l) (szOf x.works.l) x.works.l.length (gt S):=⟨S,hC⟩;unfold orx;rw[dif_pos hex];exact ordOf_congr (h.uniq hC hex.choose_spec)
noncomputable def fpx (x:Farm):FP:=fpOf x (orx x)
theorem fpx_of {x:Farm} (h:FarmOk x) {S:List Int} (hC:Crit (gOf x.works.l) (szOf x.works.l) x.works.l.length (gt S)):fpOf x (ordOf S x.works.l.length)=fpx x:=by
 unfold fpx;rw[orx_eq h.wo hC]
theorem fpx_fine {x:Farm} (h:FarmOk x) {S:List Int} (hC:Crit (gOf x.works.l) (szOf x.works.l) x.works.l.length (gt S)):FFine (fpx x)∧∀ i,i<(fpx x).nX→i∈(fpx x).order:=by
 rw[← fpx_of h hC];exact fine_of h rfl
theorem endsF_le {y:Worker} {size t:Int} (h:(endsF y size t).2=true):(endsF y size t).1≤y.to_:=by
 unfold endsF at *
 by_cases h1:t<y.from_
 ·rw[if_pos h1]at h;cases h
 ·rw[if_neg h1]at h ⊢
  by_cases h2:y.to_<endsGo (secsF y size) t y.stands.l
  ·rw[if_pos h2]at h;cases h
  ·rw[if_neg h2];show endsGo (secsF y size) t y.stands.l≤y.to_;omega
theorem secsF_le {y:Worker} {sz:Int} (h1:1≤sz) (h2:1≤y.speed):secsF y sz≤sz:=by
 unfold secsF;refine Int.ediv_le_of_le_mul (by omega) ?_;have:=Int.mul_nonneg (a:=sz-1) (b:=y.speed-1) (by omega) (by omega);rw[Int.sub_mul,Int.mul_sub]at this;omega
theorem bnd_of {x:Farm} (h:FarmOk x) (o:List Nat):Bnd (fpOf x o) 1000000000 1000000:=by
 refine⟨fun k hk=>?_,fun t ht=>?_,fun k i hk hi=>?_,fun k i t u hk hi e=>?_,by decide⟩
 ·have hk':k<x.workers.l.length:=hk;show (wkOf x k).from_≤_∧(wkOf x k).to_≤_;rw[wkOf_get (List.getElem?_eq_getElem hk')];have:=worker_times (h.wk _ (List.getElem_mem hk'));exact⟨this.2.1,this.2.2.2⟩
 ·obtain⟨l,hl,rfl⟩:=List.mem_map.1 ht;exact(h.lo l hl).2.2
 ·have hk':k<x.workers.l.length:=hk;have hi':i<x.works.l.length:=hi;show secsF (wkOf x k) (woOf x i).size≤_;rw[wkOf_get (List.getElem?_eq_getElem hk'),woOf_get (List.getElem?_eq_getElem hi')];have a:=(worker_nums (h.wk _ (List.getElem_mem hk'))).2;have b:=h.wo.size _ (List.getElem_mem hi');have:=secsF_le b.1 a;omega
 ·have hk':k<x.workers.l.length:=hk;simp only[fpOf]at e
  by_cases h2:(endsF (wkOf x k) (woOf x i).size t).2=true
  ·rw[if_pos h2]at e;injection e with e;have h3:=endsF_le h2;rw[e,wkOf_get (List.getElem?_eq_getElem hk')]at h3;have:=worker_times (h.wk _ (List.getElem_mem hk'));omega
  ·rw[if_neg h2]at e;cases e
theorem farm_ends {x:Farm} (h:FarmOk x) {S:List Int} (hC:Crit (gOf x.works.l) (szOf x.works.l) x.works.l.length (gt S)):∃ q,QTrace (fpx x) q0 q :=
 q_ends (fpx_fine h hC).1 (bnd_of h _)
end Go.Proofs.YtbnkoefljcekbaaGreatDoor.C9