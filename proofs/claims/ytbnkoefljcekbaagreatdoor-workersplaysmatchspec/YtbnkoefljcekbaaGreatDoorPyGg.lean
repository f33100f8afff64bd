/-
 Several texts of mine as one, without what is not wanted here: XCrM, XQue, XLoD, XPlP.
-/
import Derived.Test.YtbnkoefljcekbaaGreatDoorPyGf
import Derived.Laws.CopyRow
set_option linter.unusedVariables false
set_option linter.unusedSimpArgs false
set_option maxRecDepth 100000
set_option maxHeartbeats 8000000
namespace Go.Proofs.YtbnkoefljcekbaaGreatDoor
section
variable (g:Nat→List Nat) (sz:Nat→Int)
def gt (S:List Int) (k:Nat):Int:=S.getD k 0
def nS (S:List Int) (i:Nat):Nat→Int
 | 0=>sz i
 | k+1=>if i∈g k then max (nS S i k) (sz i+gt S k) else nS S i k
variable {g sz}
theorem gt_set {S:List Int} {i:Nat} (h:i<S.length) (x:Int) (k:Nat):gt (S.set i x) k=if k=i then x else gt S k:=by
 unfold gt;rw[List.getD_eq_getElem?_getD,List.getElem?_set]
 by_cases e:i=k
 ·subst e;rw[if_pos rfl,if_pos h,if_pos rfl];rfl
 ·rw[if_neg e,if_neg (fun h=>e h.symm),List.getD_eq_getElem?_getD]
theorem nS_ge (S:List Int) (i:Nat):∀ k,sz i≤nS g sz S i k
 | 0=>Int.le_refl _
 | k+1=>by
  have:=nS_ge S i k;unfold nS
  split <;> omega
theorem nS_up (S:List Int) (i:Nat):∀ n k,k<n→i∈g k→sz i+gt S k≤nS g sz S i n
 | n+1,k,hk,hi=>by
  unfold nS
  by_cases e:k=n
  ·subst e;rw[if_pos hi];omega
  ·have:=nS_up S i n k (by omega) hi
   split <;> omega
theorem nS_at (S:List Int) (i:Nat):∀ n,nS g sz S i n=sz i∨∃ k,k<n∧i∈g k∧nS g sz S i n=sz i+gt S k
 | 0=>.inl rfl
 | n+1=>by
  unfold nS
  by_cases h:i∈g n
  ·rw[if_pos h]
   by_cases hm:nS g sz S i n≤sz i+gt S n
   ·exact .inr ⟨n,by omega,h,by omega⟩
   ·rcases nS_at S i n with e | ⟨k,a,b,e⟩
    ·exact .inl (by omega)
    ·exact .inr ⟨k,by omega,b,by omega⟩
  ·rw[if_neg h];exact(nS_at S i n).imp id fun ⟨k,a,b,e⟩=>⟨k,by omega,b,e⟩
theorem nS_max {S:List Int} {i N:Nat} (h0:∀ k,k<N→0≤gt S k):∃ m,MaxOf g (· < N) (gt S) i m∧nS g sz S i N=sz i+m:=by
 refine⟨nS g sz S i N-sz i,⟨by have:=nS_ge (g:=g) (sz:=sz) S i N;omega,fun k hk hi=>by have:=nS_up (g:=g) (sz:=sz) S i N k hk hi;omega,?_⟩,by omega⟩
 rcases nS_at (g:=g) (sz:=sz) S i N with e | ⟨k,a,b,e⟩
 ·exact .inl (by omega)
 ·exact .inr ⟨k,a,b,by omega⟩
theorem nS_mono {S S':List Int} (h:∀ k,gt S k≤gt S' k) (i:Nat):∀ n,nS g sz S i n≤nS g sz S' i n
 | 0=>Int.le_refl _
 | n+1=>by
  have a:=nS_mono h i n;have b:=h n;unfold nS
  split <;> omega
structure Pass (g:Nat→List Nat) (sz:Nat→Int) (N:Nat) (C:Nat→Int) (S:List Int):Prop where
 len:S.length=N
 nn:∀ k,0≤gt S k
 le:∀ k,k<N→gt S k≤C k
 pre:∀ k,k<N→gt S k≤nS g sz S k N
theorem Pass.nS_le {N:Nat} {C:Nat→Int} {S:List Int} (h:Pass g sz N C S) (hC:Crit g sz N C) {i:Nat} (hi:i<N):nS g sz S i N≤C i:=by
 obtain⟨m,h1,h2⟩:=hC i hi
 rcases nS_at (g:=g) (sz:=sz) S i N with e | ⟨k,a,b,e⟩
 ·have:=h1.nn;omega
 ·have:=h1.up k a b;have:=h.le k a;omega
theorem Pass.put {N:Nat} {C:Nat→Int} {S:List Int} (h:Pass g sz N C S) (hC:Crit g sz N C) (hs:∀ i,i<N→0≤sz i) {i:Nat} (hi:i<N):Pass g sz N C (S.set i (nS g sz S i N)):=by
 have hl:i<S.length:=by rw[h.len];exact hi
 have hge:∀ k,gt S k≤gt (S.set i (nS g sz S i N)) k:=fun k=>by
  rw[gt_set hl]
  split
  ·rename_i e;subst e;exact h.pre k hi
  ·exact Int.le_refl _
 refine⟨by rw[List.length_set];exact h.len,fun k=>Int.le_trans (h.nn k) (hge k),fun k hk=>?_,fun k hk=>?_⟩
 ·rw[gt_set hl]
  split
  ·rename_i e;subst e;exact h.nS_le hC hi
  ·exact h.le k hk
 ·have:=nS_mono (g:=g) (sz:=sz) hge k N;rw[gt_set hl]
  split
  ·rename_i e;subst e;exact this
  ·exact Int.le_trans (h.pre k hk) this
theorem Pass.zero {N:Nat} {C:Nat→Int} (hC:Crit g sz N C) (hs:∀ i,i<N→0≤sz i):Pass g sz N C (List.replicate N 0):=by
 have h0:∀ k,gt (List.replicate N (0:Int)) k=0:=fun k=>by
  unfold gt;rw[List.getD_eq_getElem?_getD]
  by_cases h:k<N
  ·rw[List.getElem?_replicate,if_pos h];rfl
  ·rw[List.getElem?_eq_none (by simp;omega)];rfl
 refine⟨by simp,fun k=>by rw[h0];exact Int.le_refl _,fun k hk=>?_,fun k hk=>?_⟩
 ·rw[h0];obtain⟨m,h1,h2⟩:=hC k hk;have:=h1.nn;have:=hs k hk;omega
 ·rw[h0];have:=nS_ge (g:=g) (sz:=sz) (List.replicate N 0) k N;have:=hs k hk;omega
theorem Pass.fix {N:Nat} {C:Nat→Int} {S:List Int} (h:Pass g sz N C S) (hf:∀ i,i<N→nS g sz S i N=gt S i):Crit g sz N (gt S):=fun j hj=>by
 obtain⟨m,h1,h2⟩:=nS_max (g:=g) (sz:=sz) (S:=S) (i:=j) (N:=N) fun k _=>h.nn k;exact⟨m,h1,by rw[← hf j hj];exact h2⟩
def gap (C:Nat→Int) (S:List Int):Nat→Nat
 | 0=>0
 | n+1=>gap C S n+(C n-gt S n).toNat
theorem gap_set {C:Nat→Int} {S:List Int} {i:Nat} (h:i<S.length) {x:Int} (hx:gt S i<x) (hc:x≤C i):∀ n,gap C (S.set i x) n≤gap C S n∧(i<n→gap C (S.set i x) n<gap C S n)
 | 0=>⟨Nat.le_refl _,fun h=>by omega⟩
 | n+1=>by
  obtain⟨a,b⟩:=gap_set h hx hc n;unfold gap;rw[gt_set h]
  by_cases e:n=i
  ·subst e;rw[if_pos rfl];refine⟨by omega,fun _=>by omega⟩
  ·rw[if_neg e];refine⟨by omega,fun hi=>by have:=b (by omega);omega⟩
end
end Go.Proofs.YtbnkoefljcekbaaGreatDoor
namespace Go.Proofs.YtbnkoefljcekbaaGreatDoor
open Go.ChangeShapes Go.WideShapes Go.Deep Go.RowKit
theorem elem_IntQ:Elem Tryz.prog 3 1 8:=elem_of (z:=.int .i64 0) (by kernel_rfl) (by decide)
def Que (w:World) (base g off n cap:Nat) (l:List Int):Prop :=
 l.length=n∧base≤g∧n≤cap∧cap≤maxLen∧(∀ x∈l,I64 x)∧∃ cur:Array Value,w.heap[g]? = some (.cells cur 3 (0,0))∧off+cap≤cur.size∧∀ i x,l[i]? = some x→cur[off+i]? = some (.int .i64 x)
section
variable {w w':World} {base g off n cap:Nat} {l:List Int}
theorem Que.lt (h:Que w base g off n cap l):g<w.heap.size:=by
 obtain⟨_,_,_,_,_,cur,hg,_⟩:=h
 rcases Nat.lt_or_ge g w.heap.size with h | h
 ·exact h
 ·rw[Array.getElem?_eq_none h]at hg;cases hg
theorem Que.cell (h:Que w base g off n cap l) {i:Nat} {x:Int} (hx:l[i]? = some x):w.cell? ⟨g,off+i,none⟩=some (.int .i64 x):=by
 obtain⟨_,_,_,_,_,cur,hg,_,hc⟩:=h;rw[cell_of_row w g _ cur 3 (0,0) hg];exact hc i x hx
theorem Que.below (h:Que w base g off n cap l) (hb:Below w.heap.size w w'):Que w' base g off n cap l:=by
 have hlt:=h.lt;obtain⟨h1,h2,h3,h4,h5,cur,h6,h7⟩:=h;exact⟨h1,h2,h3,h4,h5,cur,(hb.block g hlt).trans h6,h7⟩
theorem Que.set (h:Que w base g off n cap l) {a:Addr} (hne:g≠a.block) (u:Value):Que (w.setCell a u) base g off n cap l:=by
 obtain⟨h1,h2,h3,h4,h5,cur,h6,h7⟩:=h;exact⟨h1,h2,h3,h4,h5,cur,(heap_setCell_other w a g u hne).trans h6,h7⟩
theorem Que.tail {x:Int} {r:List Int} (h:Que w base g off n cap (x::r)):Que w base g (off+1) (n-1) (cap-1) r:=by
 obtain⟨h1,h2,h3,h4,h5,cur,h6,h7,h8⟩:=h;rw[List.length_cons]at h1;refine⟨by omega,h2,by omega,by omega,fun y hy=>h5 y (List.mem_cons_of_mem _ hy),cur,h6,by omega,fun i y hy=>?_⟩;have:=h8 (i+1) y (by simpa using hy)
 rwa [show off+1+i=off+(i+1) by omega]
theorem Que.last {x:Int} {r:List Int} (h:Que w base g off n cap (x::r)) (hc:cap=1):r = []∧n=1∧Que w base g off 0 0 []:=by
 obtain⟨h1,h2,h3,h4,h5,cur,h6,h7,h8⟩:=h;rw[List.length_cons]at h1;have hr:r = []:=List.eq_nil_of_length_eq_zero (by omega);subst hr;exact⟨rfl,by omega,rfl,h2,Nat.le_refl _,Nat.zero_le _,(fun _ h=>nomatch h),cur,h6,by omega,fun i y hy=>by cases hy⟩
theorem Que.one (w:World) (x:Int) (hx:I64 x):Que (w.alloc (.cells #[.int .i64 x] 3)) w.heap.size w.heap.size 0 1 1 [x] :=
 ⟨rfl,Nat.le_refl _,Nat.le_refl _,by simp only[maxLen];omega,fun y hy=>by rw[List.mem_singleton]at hy;subst hy;exact hx,_,heap_alloc_new w _,Nat.le_refl _,fun i y hy=>by
  cases i with
  | zero=>simp at hy;subst hy;rfl
  | succ i=>simp at hy⟩
theorem run_que_app {ty t:TypeId} (ht:Tryz.prog.underlying t=some (.slice 3)) (hq:Que w base g off n cap l) (ad:Addr) (c:Nat) (y:Int) (hy:w.cell? ad=some (.int .i64 y)) (hI:I64 y) (h63:n+1≤1000000) (hbase:base≤w.heap.size) :
  ∃ g' off' cap' w',(Builtin.append_ #[t,t] ty #[.slice (some ⟨g,off,none⟩) n cap,.slice (some ad) 1 c]).run Tryz.prog w = .ok (.slice (some ⟨g',off',none⟩) (n+1) cap') w'∧Que w' base g' off' (n+1) cap' (l ++ [y])∧w.grownBy w' (some g)∧(g'=g∨g'=w.heap.size):=by
 have hlt:=hq.lt;have hcell:=fun i x=>hq.cell (i:=i) (x:=x);obtain⟨h1,h2,h3,h4,h5,cur,h6,h7,h8⟩:=hq;obtain⟨i,z,hi,hz,hz1,hz2,hz3⟩:=elem_IntQ;have hnews:∀ j u,[Value.int .i64 y][j]? = some u→w.cell? (ad.add j)=some u:=fun j u hu=>by
  cases j with
  | zero =>
   have:ad.add 0=ad:=by simp[Addr.add]
   rw[this];simp at hu;subst hu;exact hy
  | succ j=>simp at hu
 have hone:∀ u∈[Value.int .i64 y],u.oneCell'=true:=fun u hu=>by simp at hu;subst hu;rfl
 have hI':∀ x∈l ++ [y],I64 x:=fun x hx=>by
  rcases List.mem_append.1 hx with hx | hx
  ·exact h5 x hx
  ·rw[List.mem_singleton]at hx;subst hx;exact hI
 by_cases hroom:n+1≤cap
 ·have hf:=run_firstCells_some (P:=Tryz.prog) w 1 1 ad 1 c [.int .i64 y] rfl hnews;have hst:=run_storeCells_at Tryz.prog g (off+n) 3 [.int .i64 y] 0 cur w h6 (by simp only[List.length_singleton];omega) hone;simp only[Nat.add_zero,List.length_singleton]at hst;obtain⟨arr,harr⟩:∃ arr,(cur.toList.take (off+n) ++ [Value.int .i64 y]++cur.toList.drop (off+n+1)).toArray=arr:=⟨_,rfl⟩;rw[harr]at hst;refine⟨g,off,cap,w.setRow g arr,?_,⟨by simp[h1],h2,hroom,h4,hI',arr,setRow_heap w g cur arr 3 _ h6,?_,fun j x hx=>?_⟩,⟨rfl,rfl,rfl,by simp,fun k _ hk=>setRow_other w g k _ (fun e=>hk (by rw[e]))⟩,.inl rfl⟩
  ·simp[Builtin.append_,run_underlying ht,sizeOf,typeInfo,hi,hz1,Builtin.lenOf,hroom,hf,Addr.add_lit,hst]
  ·rw[← harr];simp only[List.size_toArray,List.length_append,List.length_take,List.length_drop,Array.length_toList,List.length_singleton];omega
  ·rw[← harr];simp only[List.getElem?_toArray];have hle:off+n<cur.toList.length:=by simp;omega
   have htl:(cur.toList.take (off+n)).length=off+n:=by rw[List.length_take];omega
   by_cases hj:j<n
   ·rw[List.append_assoc,List.getElem?_append_left (by omega),List.getElem?_take,if_pos (by omega)];rw[List.getElem?_append_left (by omega)]at hx;have:=h8 j x hx
    simpa using this
   ·have hjn:j=n:=by
     have:=(List.getElem?_eq_some_iff.1 hx).1;simp at this;omega
    subst hjn;rw[List.append_assoc,List.getElem?_append_right (by omega),htl,Nat.sub_self];rw[List.getElem?_append_right (by omega),h1,Nat.sub_self]at hx;simp at hx;subst hx;rfl
 ·have hnc:n=cap:=by omega
  have holds:∀ j u,(l.map (Value.int .i64))[j]? = some u→w.cell? ((⟨g,off,none⟩:Addr).add j)=some u:=fun j u hu=>by
   rw[List.getElem?_map]at hu;obtain⟨x,hx,rfl⟩:=Option.map_eq_some_iff.1 hu;rw[Addr.add_lit];exact hcell j x hx
  have hr:=run_append_grow (P:=Tryz.prog) w t ty 3 i z ht hi hz ⟨g,off,none⟩ n cap (l.map (Value.int .i64)) (by rw[hz1];simp[h1]) holds ad 1 c [.int .i64 y] (by rw[hz1];rfl) hnews (by omega) (by omega) (growslice_fits (by omega) (by rw[hz2];omega));have hge:=grownCap_ge w (n+1) cap 3;have hcm:=grownCap_le_maxLen w (n+1) cap 3 (by simp only[maxLen];omega);refine⟨w.heap.size,0,_,_,hr,⟨by simp[h1],hbase,hge,hcm,hI',_,heap_alloc_new w.drew _,?_,fun j x hx=>?_⟩,⟨rfl,rfl,rfl,by simp,fun k hk hne=>(World.grownBy_alloc w.drew _ (some g)).block k hk hne⟩,.inr rfl⟩
  ·simp only[Array.size_append,List.size_toArray,size_zeroCells,hz3,List.length_map,List.length_singleton,h1];omega
  ·rw[Nat.zero_add];have hjl:=(List.getElem?_eq_some_iff.1 hx).1;rw[List.length_append,List.length_singleton]at hjl;rw[← Array.getElem?_toList,Array.toList_append,Array.toList_append,List.getElem?_append_left (by simp;omega),← List.map_singleton (f:=Value.int .i64),← List.map_append,List.getElem?_map,hx];rfl
theorem wpList_que_app {ops:Array Oper} {rest:List Oper} {o:Oper} {a:Act} {Q:Exit→Act→World→Prop} (hgd:o.guard=none) (s x:Operand) (t:TypeId)
  (ho:o.op = .call { callee:=.builtin .append,args:=#[s,x],argTypes:=#[t,t] }) (ht:Tryz.prog.underlying t=some (.slice 3)) (hs:a.eval s = .slice (some ⟨g,off,none⟩) n cap) (hq:Que w base g off n cap l)
  (ad:Addr) (c:Nat) (y:Int) (hx:a.eval x = .slice (some ad) 1 c) (hy:w.cell? ad=some (.int .i64 y)) (hI:I64 y) (h63:n+1≤1000000) (hbase:base≤w.heap.size)
  (h:∀ g' off' cap' w',Que w' base g' off' (n+1) cap' (l ++ [y])→w.grownBy w' (some g)→(g'=g∨g'=w.heap.size)→wpList Tryz.prog ops Q rest (a.put o.dst (.slice (some ⟨g',off',none⟩) (n+1) cap')) w') :
  wpList Tryz.prog ops Q (o::rest) a w:=by
 refine wpList_plain hgd fun K hK=>?_;obtain⟨g',off',cap',w',hr,h2,h3,h4⟩:=run_que_app (ty:=o.type) ht hq ad c y hy hI h63 hbase;unfold Oper.wp execOp;simp only[ho,resolve,invoke,builtin,Sem.run_bind,Sem.run_pure,Result.andThen_ok,List.map_toArray,List.map_cons,List.map_nil,hs,hx,hr];exact hK _ _ (h g' off' cap' w' h2 h3 h4)
end
end Go.Proofs.YtbnkoefljcekbaaGreatDoor
namespace Go.Proofs.YtbnkoefljcekbaaGreatDoor
def secOf (cs:List TestCase) (s:ByteArray):Option Int:=(cs.find? fun c=>decide (c.name=s)).map (·.seconds)
def val (cs:List TestCase) (s:ByteArray):Int:=(secOf cs s).getD 0
theorem Sim.len {p:PS} {q:QS} (h:Sim p q):p.runs.length+p.out.length=q.runs.length:=by
 have a:p.runs.length=(q.runs.filter going).length:=h.runs.length_eq;have b:=h.out.length_eq;rw[a,b];clear a b h
 induction q.runs with
 | nil=>rfl
 | cons r R ih =>
  cases hg:going r
  ·rw[List.filter_cons_of_neg (by simp[hg]),List.filter_cons_of_pos (by simp[hg]),List.length_cons,List.length_cons];omega
  ·rw[List.filter_cons_of_pos hg,List.filter_cons_of_neg (by simp[hg]),List.length_cons,List.length_cons];omega
theorem len_filter {α:Type} (p:α→Bool):∀ l:List α,l.length=(l.filter p).length+(l.filter fun x=>!p x).length
 | []=>rfl
 | r::R=>by
  have ih:=len_filter p R
  cases hg:p r
  ·rw[List.filter_cons_of_neg (by simp[hg]),List.filter_cons_of_pos (by simp[hg]),List.length_cons,List.length_cons];omega
  ·rw[List.filter_cons_of_pos hg,List.filter_cons_of_neg (by simp[hg]),List.length_cons,List.length_cons];omega
theorem cnt_len {m:Nat}:∀ (n:Nat) (R:List RR),(∀ r∈R,r.work<n)→(∀ k,R.countP (onWork k)≤m)→R.length≤n*m
 | 0,[],_,_=>Nat.zero_le _
 | 0,r::R,h,_=>absurd (h r List.mem_cons_self) (Nat.not_lt_zero _)
 | n+1,R,h,hc=>by
  have e:=len_filter (onWork n) R;have h1:(R.filter (onWork n)).length≤m:=by rw[← List.countP_eq_length_filter];exact hc n
  have h2:=cnt_len n (R.filter fun x=>!onWork n x) (fun r hr=>by
    obtain⟨a,b⟩:=List.mem_filter.1 hr;have:=h r a;simp[onWork]at b;omega) (fun k=>by
    rw[List.countP_filter];exact Nat.le_trans (countP_le_of fun x _ hx=>by simp only[Bool.and_eq_true]at hx;exact hx.1) (hc k))
  rw[Nat.succ_mul];omega
structure Room (F:FP) (p:PS):Prop where
 len:((p.runs.length+p.out.length:Nat):Int)≤F.nX*(F.tries+1)
 beg:∀ k,0≤p.begun k∧p.begun k≤F.tries+1
 los:∀ k,0≤p.lost k∧p.lost k≤F.tries+1
 two:p.runs.Pairwise fun a b=>a.work=b.work→a.worker≠b.worker
 rn:∀ r∈p.runs,going r=true∧r.to_=0∧r.worker<F.nW∧r.work<F.nX∧0≤r.from_
theorem two_of {Q:List RR} (h:∀ i,(goingOf Q i).Pairwise fun a b=>a.worker≠b.worker):(Q.filter going).Pairwise fun a b=>a.work=b.work→a.worker≠b.worker:=by
 induction Q with
 | nil=>exact List.Pairwise.nil
 | cons r R ih =>
  have ht:∀ i,(goingOf R i).Pairwise fun a b=>a.worker≠b.worker:=fun i=>by
   have:=h i;unfold goingOf at this ⊢;rw[List.filter_cons]at this
   split at this
   ·exact(List.pairwise_cons.1 this).2
   ·exact this
  cases hg:going r
  ·rw[List.filter_cons_of_neg (by simp[hg])];exact ih ht
  ·rw[List.filter_cons_of_pos hg];refine List.Pairwise.cons (fun b hb e=>?_) (ih ht);have:=h r.work;unfold goingOf at this;rw[List.filter_cons_of_pos (by simp[hg])]at this;obtain⟨b1,b2⟩:=List.mem_filter.1 hb;exact(List.pairwise_cons.1 this).1 b (List.mem_filter.2 ⟨b1,by simp[b2,e]⟩)
theorem room_of {F:FP} {p:PS} {q:QS} {lo hi:Int} (hS:Sim p q) (hI:Inv F lo hi q) (hF:FFine F):Room F p:=by
 have htr:=hF.tri;obtain⟨m,hm⟩:∃ m:Nat,F.tries+1=m:=⟨(F.tries+1).toNat,by omega⟩;have hle:∀ k e,q.runs.countP (isEnd e k)≤q.runs.countP (onWork k):=fun k e=>countP_le_of fun x _ hx=>by
  simp only[isEnd,Bool.and_eq_true]at hx;exact hx.1
 refine⟨?_,fun k=>?_,fun k=>?_,?_,fun r hr=>?_⟩
 ·rw[hS.len,hm];have:=cnt_len (m:=m) F.nX q.runs (fun r hr=>(hI.named r hr).2) (fun k=>by have:=hI.cnt k;omega);have h2:((q.runs.length:Nat):Int)≤((F.nX*m:Nat):Int):=Int.ofNat_le.2 this;rw[Int.natCast_mul]at h2;exact h2
 ·rw[hS.begun];have:q.runs.countP (fun r=>r.work==k)=q.runs.countP (onWork k):=rfl;rw[this];have:=hI.cnt k;exact⟨by omega,this⟩
 ·rw[hS.lost,hI.los];have:=hI.cnt k;have:=hle k 2;exact⟨by omega,by omega⟩
 ·have:=two_of fun i=>(hI.two i).2;exact(hS.runs.pairwise_iff (fun {a b} h e=>(h e.symm).symm)).2 this
 ·have hq:=hS.runs.mem_iff.1 hr;obtain⟨a,b⟩:=List.mem_filter.1 hq;exact⟨b,(hI.go r a b).2.2,(hI.named r a).1,(hI.named r a).2,(hI.fr r a).2.1⟩
theorem run_from {F:FP} {p:PS} {q:QS} {lo hi:Int} (hS:Sim p q) (hI:Inv F lo hi q):∀ r∈p.runs,r.from_≤lo:=fun r hr=>by
 obtain⟨a,b⟩:=List.mem_filter.1 (hS.runs.mem_iff.1 hr);exact(hI.go r a b).1
theorem Inv.to {F:FP} {q:QS} (h:Inv F q.at_ (q.at_+1) q) {n:Int} (h1:q.at_<n) (h2:∀ r∈q.runs,going r=true→n≤F.wto r.worker):Inv F (n-1) n { q with at_:=n }:=by
 have h0:=h.t0;refine⟨h.named,by show 0≤n;omega,h.fr,fun r hr hg=>?_,fun r hr hg=>?_,h.e1,h.two,h.don,h.don1,h.dong,h.doni,h.los,h.cnt,h.cnt0,h.ord,h.dis,fun t ht k hk=>?_,h.bus⟩
 ·obtain⟨a,b,c⟩:=h.go r hr hg;exact⟨by omega,h2 r hr hg,c⟩
 ·obtain⟨a,b,c⟩:=h.en r hr hg;exact⟨a,by show r.to_≤n;omega,c⟩
 ·rcases Int.lt_or_le q.at_ t with hlt | hle
  ·have:=cnt_busy h (t:=t) (by omega) k;have:=h.bus k hk;show (cntAt q.runs t k:Int)≤_;omega
  ·exact h.hist t hle k hk
theorem next_to {F:FP} {p:PS} {q:QS} (hS:Sim p q) (ht:p.now=q.at_) (hI:Inv F q.at_ (q.at_+1) q) {n:Int} (hn:nextP F p=some n) {B:Int}
  (hw:∀ k,k<F.nW→F.wfrom k≤B∧F.wto k≤B) (hl:∀ t∈F.lossAt,t≤B):q.at_<n∧n≤B∧Inv F (n-1) n { q with at_:=n }:=by
 obtain⟨a,b,c⟩:=above_some hn;rw[ht]at b c;have hto:∀ r∈q.runs,going r=true→n≤F.wto r.worker:=fun r hr hg=>by
  have hp:r∈p.runs:=hS.runs.mem_iff.2 (List.mem_filter.2 ⟨hr,hg⟩);exact c _ (mem_candsP.2 (.inr (.inl ⟨r,hp,.inr (.inl rfl)⟩))) (by have:=(hI.go r hr hg).2.1;omega)
 refine⟨b,?_,hI.to b hto⟩
 rcases mem_candsP.1 a with ⟨k,hk,e⟩ | ⟨r,hr,_⟩ | e
 ·rw[e];exact(hw k hk).1
 ·obtain⟨r1,r2⟩:=List.mem_filter.1 (hS.runs.mem_iff.1 hr);exact Int.le_trans (hto r r1 r2) (hw _ (hI.named r r1).1).2
 ·exact hl n e
structure WayP (F:FP) (p:PS) (q:QS):Prop where
 sim:Sim p q
 at_:p.now=q.at_
 inv:Inv F (q.at_-1) q.at_ q
section
variable {F:FP} {p:PS} {q:QS} (hF:FFine F) (h:WayP F p q)
include hF h
theorem WayP.r0:Room F p∧∀ r∈p.runs,r.from_≤p.now:=⟨room_of h.sim h.inv hF,fun r hr=>by have:=run_from h.sim h.inv r hr;have:=h.at_;omega⟩
theorem WayP.perm {rs:List RR} (hp:rs.Perm p.runs):WayP F { p with runs:=rs } q:=have _:=hF;⟨⟨h.sim.runs.perm hp,h.sim.out,h.sim.done,h.sim.lost,h.sim.begun⟩,h.at_,h.inv⟩
theorem WayP.r1:Room F (finP F p)∧∀ r∈(finP F p).runs,r.from_≤p.now:=by
 have h1:=h.inv.fin hF (by omega) (Int.le_refl _);have s1:=h.sim.fin (F:=F) h.at_;exact⟨room_of s1 h1 hF,fun r hr=>by have:=run_from s1 h1 r hr;have:=h.at_;omega⟩
theorem WayP.i2:Inv F q.at_ (q.at_+1) (loseQ F (finQ F q)):=by
 have h1:=h.inv.fin hF (by omega) (Int.le_refl _);have h2:Inv F (q.at_-1) (q.at_+1) (loseQ F (finQ F q)):=Inv.lose hF (q:=finQ F q) h1 (by show q.at_-1<q.at_;omega);exact Inv.now (q:=loseQ F (finQ F q)) h2
theorem WayP.r2:Room F (loseP F (finP F p))∧∀ r∈(loseP F (finP F p)).runs,r.from_≤p.now:=by
 have h1:=h.i2 hF;have s1:=(h.sim.fin (F:=F) h.at_).lose (F:=F) h.at_;exact⟨room_of s1 h1 hF,fun r hr=>by have:=run_from s1 h1 r hr;have:=h.at_;omega⟩
theorem WayP.i3:Inv F q.at_ (q.at_+1) (startQ F (loseQ F (finQ F q))):=Inv.starts hF (q:=loseQ F (finQ F q)) F.order hF.lt _ (h.i2 hF)
theorem WayP.s3:Sim (startP F (loseP F (finP F p))) (startQ F (loseQ F (finQ F q))):=((h.sim.fin (F:=F) h.at_).lose (F:=F) h.at_).start h.at_ hF.nodup
theorem WayP.r3:Room F (startP F (loseP F (finP F p)))∧∀ r∈(startP F (loseP F (finP F p))).runs,r.from_≤p.now:=by
 have h1:=h.i3 hF;have s1:=h.s3 hF;exact⟨room_of s1 h1 hF,fun r hr=>by have:=run_from s1 h1 r hr;have:=h.at_;omega⟩
theorem WayP.s4:Sim (dblP F (startP F (loseP F (finP F p)))) (stepQ F q):=(h.s3 hF).dbl h.at_
theorem WayP.r4:Room F (dblP F (startP F (loseP F (finP F p))))∧∀ r∈(dblP F (startP F (loseP F (finP F p)))).runs,r.from_≤p.now:=by
 have h1:=h.inv.step hF;have s1:=h.s4 hF;exact⟨room_of s1 h1 hF,fun r hr=>by have:=run_from s1 h1 r hr;have:=h.at_;omega⟩
theorem WayP.next {n B:Int} (hn:nextP F (dblP F (startP F (loseP F (finP F p))))=some n) (hw:∀ k,k<F.nW→F.wfrom k≤B∧F.wto k≤B) (hl:∀ t∈F.lossAt,t≤B) :
  p.now<n∧n≤B∧WayP F { dblP F (startP F (loseP F (finP F p))) with now:=n } { stepQ F q with at_:=n }:=by
 have hnow:(dblP F (startP F (loseP F (finP F p)))).now=p.now:=by unfold dblP;split <;> rfl
 have hat:=h.at_;have e:=stepQ_at F q;obtain⟨a,b,c⟩:=next_to (q:=stepQ F q) (h.s4 hF) (by rw[hnow,e];exact hat) (by rw[e];exact h.inv.step hF) hn hw hl;exact⟨by omega,b,⟨(h.s4 hF).at n n,rfl,c⟩⟩
end
theorem wayp0 {F:FP} (hF:FFine F):WayP F p0 q0:=⟨sim0,rfl,inv0 hF⟩
end Go.Proofs.YtbnkoefljcekbaaGreatDoor