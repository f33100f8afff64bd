/-
 Several texts of mine as one, without what is not wanted here: XCrM, XQue, XLoD, XRkD, XInsN, XCrB, XTailIn, XTake.
-/
import Derived.Test.YtbnkoefljcekbaaGreatDoorLbGf
import Derived.Test.YtbnkoefljcekbaaGreatDoorLbGa
import Derived.Laws.CopyRow
import Derived.Test.YtbnkoefljcekbaaGreatDoorLbGb
import Derived.Shelf.Spec.SlicesInsertGrow
import Derived.RangeFuncCalls
import Derived.OwnWalkIn
import Derived.OrdersIn
import Derived.StillTailTactics
import Derived.Deep.RegionHeld3
set_option linter.unusedVariables false
set_option linter.unusedSimpArgs false
set_option maxRecDepth 100000
set_option maxHeartbeats 8000000
namespace Go.Proofs.YtbnkoefljcekbaaGreatDoor
section
variable (g:Nat→List Nat) (sz:Nat→Int)
def gt (S:List Int) (k:Nat):Int:=S.getD k 0
def nS (S:List Int) (i:Nat):Nat→Int
 | 0=>sz i
 | k+1=>if i∈g k then max (nS S i k) (sz i+gt S k) else nS S i k
variable {g sz}
theorem gt_set {S:List Int} {i:Nat} (h:i<S.length) (x:Int) (k:Nat):gt (S.set i x) k=if k=i then x else gt S k:=by
 unfold gt;rw[List.getD_eq_getElem?_getD,List.getElem?_set]
 by_cases e:i=k
 ·subst e;rw[if_pos rfl,if_pos h,if_pos rfl];rfl
 ·rw[if_neg e,if_neg (fun h=>e h.symm),List.getD_eq_getElem?_getD]
theorem nS_ge (S:List Int) (i:Nat):∀ k,sz i≤nS g sz S i k
 | 0=>Int.le_refl _
 | k+1=>by
  have:=nS_ge S i k;unfold nS
  split <;> omega
theorem nS_up (S:List Int) (i:Nat):∀ n k,k<n→i∈g k→sz i+gt S k≤nS g sz S i n
 | n+1,k,hk,hi=>by
  unfold nS
  by_cases e:k=n
  ·subst e;rw[if_pos hi];omega
  ·have:=nS_up S i n k (by omega) hi
   split <;> omega
theorem nS_at (S:List Int) (i:Nat):∀ n,nS g sz S i n=sz i∨∃ k,k<n∧i∈g k∧nS g sz S i n=sz i+gt S k
 | 0=>.inl rfl
 | n+1=>by
  unfold nS
  by_cases h:i∈g n
  ·rw[if_pos h]
   by_cases hm:nS g sz S i n≤sz i+gt S n
   ·exact .inr ⟨n,by omega,h,by omega⟩
   ·rcases nS_at S i n with e | ⟨k,a,b,e⟩
    ·exact .inl (by omega)
    ·exact .inr ⟨k,by omega,b,by omega⟩
  ·rw[if_neg h];exact(nS_at S i n).imp id fun ⟨k,a,b,e⟩=>⟨k,by omega,b,e⟩
theorem nS_max {S:List Int} {i N:Nat} (h0:∀ k,k<N→0≤gt S k):∃ m,MaxOf g (· < N) (gt S) i m∧nS g sz S i N=sz i+m:=by
 refine⟨nS g sz S i N-sz i,⟨by have:=nS_ge (g:=g) (sz:=sz) S i N;omega,fun k hk hi=>by have:=nS_up (g:=g) (sz:=sz) S i N k hk hi;omega,?_⟩,by omega⟩
 rcases nS_at (g:=g) (sz:=sz) S i N with e | ⟨k,a,b,e⟩
 ·exact .inl (by omega)
 ·exact .inr ⟨k,a,b,by omega⟩
theorem nS_mono {S S':List Int} (h:∀ k,gt S k≤gt S' k) (i:Nat):∀ n,nS g sz S i n≤nS g sz S' i n
 | 0=>Int.le_refl _
 | n+1=>by
  have a:=nS_mono h i n;have b:=h n;unfold nS
  split <;> omega
structure Pass (g:Nat→List Nat) (sz:Nat→Int) (N:Nat) (C:Nat→Int) (S:List Int):Prop where
 len:S.length=N
 nn:∀ k,0≤gt S k
 le:∀ k,k<N→gt S k≤C k
 pre:∀ k,k<N→gt S k≤nS g sz S k N
theorem Pass.nS_le {N:Nat} {C:Nat→Int} {S:List Int} (h:Pass g sz N C S) (hC:Crit g sz N C) {i:Nat} (hi:i<N):nS g sz S i N≤C i:=by
 obtain⟨m,h1,h2⟩:=hC i hi
 rcases nS_at (g:=g) (sz:=sz) S i N with e | ⟨k,a,b,e⟩
 ·have:=h1.nn;omega
 ·have:=h1.up k a b;have:=h.le k a;omega
theorem Pass.put {N:Nat} {C:Nat→Int} {S:List Int} (h:Pass g sz N C S) (hC:Crit g sz N C) (hs:∀ i,i<N→0≤sz i) {i:Nat} (hi:i<N):Pass g sz N C (S.set i (nS g sz S i N)):=by
 have hl:i<S.length:=by rw[h.len];exact hi
 have hge:∀ k,gt S k≤gt (S.set i (nS g sz S i N)) k:=fun k=>by
  rw[gt_set hl]
  split
  ·rename_i e;subst e;exact h.pre k hi
  ·exact Int.le_refl _
 refine⟨by rw[List.length_set];exact h.len,fun k=>Int.le_trans (h.nn k) (hge k),fun k hk=>?_,fun k hk=>?_⟩
 ·rw[gt_set hl]
  split
  ·rename_i e;subst e;exact h.nS_le hC hi
  ·exact h.le k hk
 ·have:=nS_mono (g:=g) (sz:=sz) hge k N;rw[gt_set hl]
  split
  ·rename_i e;subst e;exact this
  ·exact Int.le_trans (h.pre k hk) this
theorem Pass.zero {N:Nat} {C:Nat→Int} (hC:Crit g sz N C) (hs:∀ i,i<N→0≤sz i):Pass g sz N C (List.replicate N 0):=by
 have h0:∀ k,gt (List.replicate N (0:Int)) k=0:=fun k=>by
  unfold gt;rw[List.getD_eq_getElem?_getD]
  by_cases h:k<N
  ·rw[List.getElem?_replicate,if_pos h];rfl
  ·rw[List.getElem?_eq_none (by simp;omega)];rfl
 refine⟨by simp,fun k=>by rw[h0];exact Int.le_refl _,fun k hk=>?_,fun k hk=>?_⟩
 ·rw[h0];obtain⟨m,h1,h2⟩:=hC k hk;have:=h1.nn;have:=hs k hk;omega
 ·rw[h0];have:=nS_ge (g:=g) (sz:=sz) (List.replicate N 0) k N;have:=hs k hk;omega
theorem Pass.fix {N:Nat} {C:Nat→Int} {S:List Int} (h:Pass g sz N C S) (hf:∀ i,i<N→nS g sz S i N=gt S i):Crit g sz N (gt S):=fun j hj=>by
 obtain⟨m,h1,h2⟩:=nS_max (g:=g) (sz:=sz) (S:=S) (i:=j) (N:=N) fun k _=>h.nn k;exact⟨m,h1,by rw[← hf j hj];exact h2⟩
def gap (C:Nat→Int) (S:List Int):Nat→Nat
 | 0=>0
 | n+1=>gap C S n+(C n-gt S n).toNat
theorem gap_set {C:Nat→Int} {S:List Int} {i:Nat} (h:i<S.length) {x:Int} (hx:gt S i<x) (hc:x≤C i):∀ n,gap C (S.set i x) n≤gap C S n∧(i<n→gap C (S.set i x) n<gap C S n)
 | 0=>⟨Nat.le_refl _,fun h=>by omega⟩
 | n+1=>by
  obtain⟨a,b⟩:=gap_set h hx hc n;unfold gap;rw[gt_set h]
  by_cases e:n=i
  ·subst e;rw[if_pos rfl];refine⟨by omega,fun _=>by omega⟩
  ·rw[if_neg e];refine⟨by omega,fun hi=>by have:=b (by omega);omega⟩
end
end Go.Proofs.YtbnkoefljcekbaaGreatDoor
namespace Go.Proofs.YtbnkoefljcekbaaGreatDoor
open Go.ChangeShapes Go.WideShapes Go.Deep Go.RowKit
theorem elem_IntQ:Elem Tryz.prog 3 1 8:=elem_of (z:=.int .i64 0) (by kernel_rfl) (by decide)
def Que (w:World) (base g off n cap:Nat) (l:List Int):Prop :=
 l.length=n∧base≤g∧n≤cap∧cap≤maxLen∧(∀ x∈l,I64 x)∧∃ cur:Array Value,w.heap[g]? = some (.cells cur 3 (0,0))∧off+cap≤cur.size∧∀ i x,l[i]? = some x→cur[off+i]? = some (.int .i64 x)
section
variable {w w':World} {base g off n cap:Nat} {l:List Int}
theorem Que.lt (h:Que w base g off n cap l):g<w.heap.size:=by
 obtain⟨_,_,_,_,_,cur,hg,_⟩:=h
 rcases Nat.lt_or_ge g w.heap.size with h | h
 ·exact h
 ·rw[Array.getElem?_eq_none h]at hg;cases hg
theorem Que.cell (h:Que w base g off n cap l) {i:Nat} {x:Int} (hx:l[i]? = some x):w.cell? ⟨g,off+i,none⟩=some (.int .i64 x):=by
 obtain⟨_,_,_,_,_,cur,hg,_,hc⟩:=h;rw[cell_of_row w g _ cur 3 (0,0) hg];exact hc i x hx
theorem Que.below (h:Que w base g off n cap l) (hb:Below w.heap.size w w'):Que w' base g off n cap l:=by
 have hlt:=h.lt;obtain⟨h1,h2,h3,h4,h5,cur,h6,h7⟩:=h;exact⟨h1,h2,h3,h4,h5,cur,(hb.block g hlt).trans h6,h7⟩
theorem Que.set (h:Que w base g off n cap l) {a:Addr} (hne:g≠a.block) (u:Value):Que (w.setCell a u) base g off n cap l:=by
 obtain⟨h1,h2,h3,h4,h5,cur,h6,h7⟩:=h;exact⟨h1,h2,h3,h4,h5,cur,(heap_setCell_other w a g u hne).trans h6,h7⟩
theorem Que.tail {x:Int} {r:List Int} (h:Que w base g off n cap (x::r)):Que w base g (off+1) (n-1) (cap-1) r:=by
 obtain⟨h1,h2,h3,h4,h5,cur,h6,h7,h8⟩:=h;rw[List.length_cons]at h1;refine⟨by omega,h2,by omega,by omega,fun y hy=>h5 y (List.mem_cons_of_mem _ hy),cur,h6,by omega,fun i y hy=>?_⟩;have:=h8 (i+1) y (by simpa using hy)
 rwa [show off+1+i=off+(i+1) by omega]
theorem Que.last {x:Int} {r:List Int} (h:Que w base g off n cap (x::r)) (hc:cap=1):r = []∧n=1∧Que w base g off 0 0 []:=by
 obtain⟨h1,h2,h3,h4,h5,cur,h6,h7,h8⟩:=h;rw[List.length_cons]at h1;have hr:r = []:=List.eq_nil_of_length_eq_zero (by omega);subst hr;exact⟨rfl,by omega,rfl,h2,Nat.le_refl _,Nat.zero_le _,(fun _ h=>nomatch h),cur,h6,by omega,fun i y hy=>by cases hy⟩
theorem Que.one (w:World) (x:Int) (hx:I64 x):Que (w.alloc (.cells #[.int .i64 x] 3)) w.heap.size w.heap.size 0 1 1 [x] :=
 ⟨rfl,Nat.le_refl _,Nat.le_refl _,by simp only[maxLen];omega,fun y hy=>by rw[List.mem_singleton]at hy;subst hy;exact hx,_,heap_alloc_new w _,Nat.le_refl _,fun i y hy=>by
  cases i with
  | zero=>simp at hy;subst hy;rfl
  | succ i=>simp at hy⟩
theorem run_que_app {ty t:TypeId} (ht:Tryz.prog.underlying t=some (.slice 3)) (hq:Que w base g off n cap l) (ad:Addr) (c:Nat) (y:Int) (hy:w.cell? ad=some (.int .i64 y)) (hI:I64 y) (h63:n+1≤1000000) (hbase:base≤w.heap.size) :
  ∃ g' off' cap' w',(Builtin.append_ #[t,t] ty #[.slice (some ⟨g,off,none⟩) n cap,.slice (some ad) 1 c]).run Tryz.prog w = .ok (.slice (some ⟨g',off',none⟩) (n+1) cap') w'∧Que w' base g' off' (n+1) cap' (l ++ [y])∧w.grownBy w' (some g)∧(g'=g∨g'=w.heap.size):=by
 have hlt:=hq.lt;have hcell:=fun i x=>hq.cell (i:=i) (x:=x);obtain⟨h1,h2,h3,h4,h5,cur,h6,h7,h8⟩:=hq;obtain⟨i,z,hi,hz,hz1,hz2,hz3⟩:=elem_IntQ;have hnews:∀ j u,[Value.int .i64 y][j]? = some u→w.cell? (ad.add j)=some u:=fun j u hu=>by
  cases j with
  | zero =>
   have:ad.add 0=ad:=by simp[Addr.add]
   rw[this];simp at hu;subst hu;exact hy
  | succ j=>simp at hu
 have hone:∀ u∈[Value.int .i64 y],u.oneCell'=true:=fun u hu=>by simp at hu;subst hu;rfl
 have hI':∀ x∈l ++ [y],I64 x:=fun x hx=>by
  rcases List.mem_append.1 hx with hx | hx
  ·exact h5 x hx
  ·rw[List.mem_singleton]at hx;subst hx;exact hI
 by_cases hroom:n+1≤cap
 ·have hf:=run_firstCells_some (P:=Tryz.prog) w 1 1 ad 1 c [.int .i64 y] rfl hnews;have hst:=run_storeCells_at Tryz.prog g (off+n) 3 [.int .i64 y] 0 cur w h6 (by simp only[List.length_singleton];omega) hone;simp only[Nat.add_zero,List.length_singleton]at hst;obtain⟨arr,harr⟩:∃ arr,(cur.toList.take (off+n) ++ [Value.int .i64 y]++cur.toList.drop (off+n+1)).toArray=arr:=⟨_,rfl⟩;rw[harr]at hst;refine⟨g,off,cap,w.setRow g arr,?_,⟨by simp[h1],h2,hroom,h4,hI',arr,setRow_heap w g cur arr 3 _ h6,?_,fun j x hx=>?_⟩,⟨rfl,rfl,rfl,by simp,fun k _ hk=>setRow_other w g k _ (fun e=>hk (by rw[e]))⟩,.inl rfl⟩
  ·simp[Builtin.append_,run_underlying ht,sizeOf,typeInfo,hi,hz1,Builtin.lenOf,hroom,hf,Addr.add_lit,hst]
  ·rw[← harr];simp only[List.size_toArray,List.length_append,List.length_take,List.length_drop,Array.length_toList,List.length_singleton];omega
  ·rw[← harr];simp only[List.getElem?_toArray];have hle:off+n<cur.toList.length:=by simp;omega
   have htl:(cur.toList.take (off+n)).length=off+n:=by rw[List.length_take];omega
   by_cases hj:j<n
   ·rw[List.append_assoc,List.getElem?_append_left (by omega),List.getElem?_take,if_pos (by omega)];rw[List.getElem?_append_left (by omega)]at hx;have:=h8 j x hx
    simpa using this
   ·have hjn:j=n:=by
     have:=(List.getElem?_eq_some_iff.1 hx).1;simp at this;omega
    subst hjn;rw[List.append_assoc,List.getElem?_append_right (by omega),htl,Nat.sub_self];rw[List.getElem?_append_right (by omega),h1,Nat.sub_self]at hx;simp at hx;subst hx;rfl
 ·have hnc:n=cap:=by omega
  have holds:∀ j u,(l.map (Value.int .i64))[j]? = some u→w.cell? ((⟨g,off,none⟩:Addr).add j)=some u:=fun j u hu=>by
   rw[List.getElem?_map]at hu;obtain⟨x,hx,rfl⟩:=Option.map_eq_some_iff.1 hu;rw[Addr.add_lit];exact hcell j x hx
  have hr:=run_append_grow (P:=Tryz.prog) w t ty 3 i z ht hi hz ⟨g,off,none⟩ n cap (l.map (Value.int .i64)) (by rw[hz1];simp[h1]) holds ad 1 c [.int .i64 y] (by rw[hz1];rfl) hnews (by omega) (by omega) (growslice_fits (by omega) (by rw[hz2];omega));have hge:=grownCap_ge w (n+1) cap 3;have hcm:=grownCap_le_maxLen w (n+1) cap 3 (by simp only[maxLen];omega);refine⟨w.heap.size,0,_,_,hr,⟨by simp[h1],hbase,hge,hcm,hI',_,heap_alloc_new w.drew _,?_,fun j x hx=>?_⟩,⟨rfl,rfl,rfl,by simp,fun k hk hne=>(World.grownBy_alloc w.drew _ (some g)).block k hk hne⟩,.inr rfl⟩
  ·simp only[Array.size_append,List.size_toArray,size_zeroCells,hz3,List.length_map,List.length_singleton,h1];omega
  ·rw[Nat.zero_add];have hjl:=(List.getElem?_eq_some_iff.1 hx).1;rw[List.length_append,List.length_singleton]at hjl;rw[← Array.getElem?_toList,Array.toList_append,Array.toList_append,List.getElem?_append_left (by simp;omega),← List.map_singleton (f:=Value.int .i64),← List.map_append,List.getElem?_map,hx];rfl
theorem wpList_que_app {ops:Array Oper} {rest:List Oper} {o:Oper} {a:Act} {Q:Exit→Act→World→Prop} (hgd:o.guard=none) (s x:Operand) (t:TypeId)
  (ho:o.op = .call { callee:=.builtin .append,args:=#[s,x],argTypes:=#[t,t] }) (ht:Tryz.prog.underlying t=some (.slice 3)) (hs:a.eval s = .slice (some ⟨g,off,none⟩) n cap) (hq:Que w base g off n cap l)
  (ad:Addr) (c:Nat) (y:Int) (hx:a.eval x = .slice (some ad) 1 c) (hy:w.cell? ad=some (.int .i64 y)) (hI:I64 y) (h63:n+1≤1000000) (hbase:base≤w.heap.size)
  (h:∀ g' off' cap' w',Que w' base g' off' (n+1) cap' (l ++ [y])→w.grownBy w' (some g)→(g'=g∨g'=w.heap.size)→wpList Tryz.prog ops Q rest (a.put o.dst (.slice (some ⟨g',off',none⟩) (n+1) cap')) w') :
  wpList Tryz.prog ops Q (o::rest) a w:=by
 refine wpList_plain hgd fun K hK=>?_;obtain⟨g',off',cap',w',hr,h2,h3,h4⟩:=run_que_app (ty:=o.type) ht hq ad c y hy hI h63 hbase;unfold Oper.wp execOp;simp only[ho,resolve,invoke,builtin,Sem.run_bind,Sem.run_pure,Result.andThen_ok,List.map_toArray,List.map_cons,List.map_nil,hs,hx,hr];exact hK _ _ (h g' off' cap' w' h2 h3 h4)
end
end Go.Proofs.YtbnkoefljcekbaaGreatDoor
namespace Go.Proofs.YtbnkoefljcekbaaGreatDoor
def secOf (cs:List TestCase) (s:ByteArray):Option Int:=(cs.find? fun c=>decide (c.name=s)).map (·.seconds)
def val (cs:List TestCase) (s:ByteArray):Int:=(secOf cs s).getD 0
section
variable {α:Type} {f:α→Int}
theorem ins_sorted {X Y:List α} {x:α} (h:SortedBy f (X++Y)) (hX:∀ a,X.getLast? = some a→f a≤f x) (hY:∀ y∈Y,f x<f y):SortedBy f (X++x::Y):=by
 unfold SortedBy at *;obtain⟨h1,h2,h3⟩:=List.pairwise_append.1 h;refine List.pairwise_append.2 ⟨h1,List.pairwise_cons.2 ⟨fun y hy=>Int.le_of_lt (hY y hy),h2⟩,fun a ha b hb=>?_⟩
 rcases List.mem_cons.1 hb with rfl | hb
 ·rcases List.eq_nil_or_concat X with rfl | ⟨X',z,rfl⟩
  ·cases ha
  ·have hz:=hX z (by simp);rw[List.concat_eq_append]at ha h1
   rcases List.mem_append.1 ha with ha | ha
   ·have:=(List.pairwise_append.1 h1).2.2 a ha z (by simp);exact Int.le_trans this hz
   ·rw[List.mem_singleton.1 ha];exact hz
 ·exact h3 a ha b hb
theorem ins_cls {X Y Z:List α} {x:α} (h:SameCls f (X++Y) Z) (hY:∀ y∈Y,f x<f y):SameCls f (X++x::Y) (Z ++ [x]):=fun v=>by
 have h1:=h v;unfold cls at *;rw[List.filter_append]at h1;rw[List.filter_append,List.filter_append,← h1,List.filter_cons,List.append_assoc]
 congr 1
 by_cases hv:f x=v
 ·subst hv;have:Y.filter (fun y=>f y==f x) = []:=List.filter_eq_nil_iff.2 fun y hy=>by have:=hY y hy;simp;omega
  rw[this];simp
 ·simp[hv]
theorem filter_sorted {L:List α} (p:α→Bool) (h:SortedBy f L):SortedBy f (L.filter p):=List.Pairwise.filter p h
theorem filter_cls {L Z:List α} (p:α→Bool) (h:SameCls f L Z):SameCls f (L.filter p) (Z.filter p):=fun v=>by
 have h1:=h v;unfold cls at *;rw[List.filter_filter,List.filter_filter];have e:∀ M:List α,M.filter (fun a=>(f a==v)&&p a)=(M.filter fun a=>f a==v).filter p:=fun M=>by
  rw[List.filter_filter]
  congr 1
  funext a
  rw[Bool.and_comm]
 rw[e,e,h1]
end
end Go.Proofs.YtbnkoefljcekbaaGreatDoor
namespace Go.Proofs.YtbnkoefljcekbaaGreatDoor
open Go.ChangeShapes Go.WideShapes Go.Deep Go.RowKit
theorem set_take_drop (L:List Value) (o:Nat) (v:Value) (h:o<L.length) (k:Nat):(L.set o v).take (o+1)=L.take o ++ [v]∧(L.set o v).drop (o+1+k)=L.drop (o+1+k):=by
 constructor
 ·rw[List.set_eq_take_append_cons_drop,if_pos h,List.take_append,List.length_take,Nat.min_eq_left (Nat.le_of_lt h)];rw[List.take_of_length_le (by rw[List.length_take];omega),show o+1-o=1 by omega];rfl
 ·rw[List.drop_set_of_lt (by omega)]
theorem heap_setCells (g:Nat) (e:TypeId):∀ (vs:List Value) (o:Nat) (w:World) (cur:Array Value),w.heap[g]? = some (.cells cur e (0,0))→o+vs.length≤cur.size →
  ∃ cur',(w.setCells g o vs).heap[g]? = some (.cells cur' e (0,0))∧cur'.toList=cur.toList.take o++vs++cur.toList.drop (o+vs.length)
 | [],o,w,cur,h,_=>⟨cur,h,by simp⟩
 | v::r,o,w,cur,h,hl=>by
  rw[List.length_cons]at hl;have h1:=heap_setCell_same w g o cur e v h;obtain⟨cur',a,b⟩:=heap_setCells g e r (o+1) _ _ h1 (by simp;omega);refine⟨cur',a,?_⟩;rw[b,Array.toList_setIfInBounds];obtain⟨e1,e2⟩:=set_take_drop cur.toList o v (by simp;omega) r.length;rw[e1,e2,List.length_cons,show o+1+r.length=o+(r.length+1) by omega];simp
theorem grown_trans {a b c:World} {row:Option Nat} (h:a.grownBy b row) (h2:b.grownBy c row):a.grownBy c row :=
 ⟨h2.os.trans h.os,h2.tape.trans h.tape,h2.output.trans h.output,Nat.le_trans h.size h2.size,fun k hk hne=>(h2.block k (Nat.lt_of_lt_of_le hk h.size) hne).trans (h.block k hk hne)⟩
theorem grown_setCells (b:Nat):∀ (vs:List Value) (o:Nat) (w:World),w.grownBy (w.setCells b o vs) (some b)
 | [],_,w=>World.grownBy.refl _ _
 | v::r,o,w=>grown_trans (grown_setc w ⟨b,o,none⟩ v) (grown_setCells b r (o+1) _)
theorem own_block {α:Type} {R:Rd α} {e:TypeId} {w:World} {base n cap:Nat} {A:Option Addr} {l:List α} (h:Own R e w base (.slice A n cap) l) (hn:0<n) :
  ∃ g cur,A=some ⟨g,0,none⟩∧base≤g∧w.heap[g]? = some (.cells cur e (0,0))∧n≤cap∧cap≤maxLen∧cur.size=cap*R.size∧cur.toList.take (n*R.size)=l.flatMap R.vals:=by
 rcases h.1.2 with ⟨hv,_⟩ | ⟨g,cap',cur,hv,a,b,c,d,e1,f⟩
 ·injection hv with _ h2 _;omega
 ·injection hv with h1 h2 h3;subst h3;rw[h.len]at c f;exact⟨g,cur,h1,a,b,c,d,e1,f⟩
end Go.Proofs.YtbnkoefljcekbaaGreatDoor
namespace Go.Proofs.YtbnkoefljcekbaaGreatDoor
section
variable {g:Nat→List Nat} {sz:Nat→Int} {N:Nat} {C:Nat→Int} {out:List Nat}
structure Bk (g:Nat→List Nat) (sz:Nat→Int) (N:Nat) (C:Nat→Int) (out:List Nat) (k:Nat) (S:List Int):Prop where
 len:S.length=N
 done:∀ j,j<N→j∈out.drop (N-k)→gt S j=C j
 left:∀ j,j<N→j ∉ out.drop (N-k)→MaxOf g (·∈out.drop (N-k)) C j (gt S j)
structure Bi (S1:List Int) (c:Int) (pre:List Nat) (S:List Int):Prop where
 len:S.length=S1.length
 at_:∀ j,gt S j=if j∈pre then max (gt S1 j) c else gt S1 j
theorem Bi.nil (S1:List Int) (c:Int):Bi S1 c [] S1:=⟨rfl,fun j=>by simp⟩
theorem Bi.step {S1 S:List Int} {c:Int} {pre:List Nat} (h:Bi S1 c pre S) {k:Nat} (hk:k<S.length):Bi S1 c (pre ++ [k]) (S.set k (max (gt S k) c)):=by
 refine⟨by rw[List.length_set];exact h.len,fun j=>?_⟩;rw[gt_set hk];have:=h.at_ j
 by_cases e:j=k
 ·subst e;rw[if_pos rfl,if_pos (by simp),this]
  split <;> omega
 ·rw[if_neg e,this]
  by_cases hj:j∈pre
  ·rw[if_pos hj,if_pos (by simp[hj])]
  ·rw[if_neg hj,if_neg (by simp[hj,e])]
theorem zero_gt (N k:Nat):gt (List.replicate N (0:Int)) k=0:=by
 unfold gt;rw[List.getD_eq_getElem?_getD]
 by_cases h:k<N
 ·rw[List.getElem?_replicate,if_pos h];rfl
 ·rw[List.getElem?_eq_none (by simp;omega)];rfl
theorem Bk.nil (hl:out.length=N):Bk g sz N C out 0 (List.replicate N 0):=by
 have e:out.drop (N-0) = []:=List.drop_eq_nil_of_le (by omega);refine⟨by simp,fun j _ hj=>(by rw[e]at hj;cases hj),fun j _ _=>?_⟩;rw[e,zero_gt];exact⟨Int.le_refl _,fun k hk=>(by cases hk),.inl rfl⟩
theorem Bk.all {S:List Int} (ht:Topo g N out) (hl:out.length=N) (h:Bk g sz N C out N S):∀ j,j<N→gt S j=C j:=fun j hj=>h.done j hj (by rw[Nat.sub_self,List.drop_zero];exact ht.all hl hj)
theorem Bk.turn {S:List Int} {k i:Nat} (ht:Topo g N out) (hl:out.length=N) (hC:Crit g sz N C) (h:Bk g sz N C out k S) (hk:k<N) (hi:out[N-1-k]? = some i) :
  i<N∧gt S i+sz i=C i∧i ∉ g i∧out.drop (N-(k+1))=i::out.drop (N-k)∧∀ j∈g i,j<N∧j ∉ out.drop (N-k):=by
 have hd:out.drop (N-(k+1))=i::out.drop (N-k):=by
  obtain⟨h1,h2⟩:=List.getElem?_eq_some_iff.1 hi;rw[show N-(k+1)=N-1-k by omega,List.drop_eq_getElem_cons h1,h2,show N-1-k+1=N-k by omega]
 have e:out=out.take (N-(k+1))++i::out.drop (N-k):=by rw[← hd,List.take_append_drop]
 obtain⟨a,ha⟩:∃ a,out.take (N-(k+1))=a:=⟨_,rfl⟩;obtain⟨b,hb⟩:∃ b,out.drop (N-k)=b:=⟨_,rfl⟩;rw[ha,hb]at e;have hiN:i<N:=ht.lt i (by rw[e];simp);have hnd:=ht.nodup;have hpre:∀ j∈g i,j∈a:=fun j hj=>ht.pre a b i e j hj;rw[e]at hnd;have hib:i ∉ b:=fun h=>(List.nodup_cons.1 (List.nodup_append.1 hnd).2.1).1 h;have hig:i ∉ g i:=fun h=>(List.nodup_append.1 hnd).2.2 i (hpre i h) i (by simp) rfl;refine⟨hiN,?_,hig,by rw[hd],fun j hj=>⟨ht.lt j (by rw[e];simp[hpre j hj]),fun h=>?_⟩⟩
 ·obtain⟨m,h1,h2⟩:=hC i hiN;have h3:=h.left i hiN (by rw[hb];exact hib);rw[hb]at h3;have:=h3.uniq (h1.congr (fun q hq=>⟨fun hqN=>topo_behind ht hl e hqN hq,fun hqb=>ht.lt q (by rw[e];simp[hqb])⟩) (fun _ _ _=>rfl));omega
 ·rw[hb]at h;exact(List.nodup_append.1 hnd).2.2 j (hpre j hj) j (by simp[h]) rfl
theorem Bk.step {S S2:List Int} {k i:Nat} (ht:Topo g N out) (hl:out.length=N) (hC:Crit g sz N C) (hC0:∀ j,j<N→0≤C j) (h:Bk g sz N C out k S) (hk:k<N) (hi:out[N-1-k]? = some i)
  (h2:Bi (S.set i (C i)) (C i) (g i) S2):Bk g sz N C out (k+1) S2:=by
 obtain⟨hiN,t1,t2,t3,t4⟩:=h.turn ht hl hC hk hi;have hlt:i<S.length:=by rw[h.len];exact hiN
 have hat:∀ j,gt S2 j=if j∈g i then max (gt S j) (C i) else if j=i then C i else gt S j:=fun j=>by
  rw[h2.at_,gt_set hlt]
  by_cases hj:j∈g i
  ·rw[if_pos hj,if_pos hj,if_neg (fun e=>by subst e;exact t2 hj)]
  ·rw[if_neg hj,if_neg hj]
 refine⟨by rw[h2.len,List.length_set];exact h.len,fun j hj hm=>?_,fun j hj hm=>?_⟩
 ·rw[t3]at hm;rw[hat]
  rcases List.mem_cons.1 hm with rfl | hm
  ·rw[if_neg t2,if_pos rfl]
  ·rw[if_neg (fun hg=>(t4 j hg).2 hm)]
   split
   ·rename_i e;rw[e]
   ·exact h.done j hj hm
 ·rw[t3]at hm ⊢;have hji:j≠i:=fun e=>hm (by rw[e];simp);have hjb:j ∉ out.drop (N-k):=fun h=>hm (by simp[h]);have h3:=h.left j hj hjb;rw[hat]
  by_cases hg:j∈g i
  ·rw[if_pos hg];refine⟨by have:=h3.nn;omega,fun q hq hjq=>?_,?_⟩
   ·rcases List.mem_cons.1 hq with rfl | hq
    ·omega
    ·have:=h3.up q hq hjq;omega
   ·by_cases hm:gt S j≤C i
    ·exact .inr ⟨i,by simp,hg,by omega⟩
    ·rcases h3.at_ with e | ⟨q,a,b,e⟩
     ·have:=hC0 i hiN;omega
     ·exact .inr ⟨q,List.mem_cons_of_mem _ a,b,by omega⟩
  ·rw[if_neg hg,if_neg hji];exact h3.congr (fun q hq=>⟨fun h=>List.mem_cons_of_mem _ h,fun h=>by
    rcases List.mem_cons.1 h with rfl | h
    ·exact absurd hq hg
    ·exact h⟩) (fun _ _ _=>rfl)
end
section
variable {P:Program} {ops:Array Oper} {Q:Exit→Act→World→Prop} {md:Region.Mode} {lp n:Nat}
def noOut (Q:Exit→Act→World→Prop):Exit→Act→World→Prop
 | .outgrown,_,_=>False
 | e,a,w=>Q e a w
theorem noOut_lets:¬ LetsOut (noOut Q):=fun ⟨_,_,h⟩=>h
theorem rows_in {row:String} {args:Array Value} {w:World} {R:Value→World→Prop} (h:Rows P row args w R):RowsIn (Fence.wide.inRound lp) n P row args w R :=
 fun c cs _=>let ⟨v,w',r,s⟩:=h c cs;⟨v,w',r,stepsIn_wide.2 s⟩
theorem oper_in {o:Oper} {a:Act} {w:World} {next next':Act→World→Prop} (hd:∀ c,o.op≠.defer c) (hn:∀ a w,next a w→next' a w) (h:o.wp P a w next (noOut Q)) :
  o.wpIn (Fence.wide.inRound lp) n P a w next' Q:=by
 refine⟨fun _ _=>trivial,?_⟩;rw[Oper.semAt_plain _ _ _ hd];unfold Oper.wp at h
 generalize (execOp a.eval o).run P w=r at h
 cases r with
 | ok x w' =>
  cases x with
  | value v=>exact hn _ _ h
  | skip=>exact hn _ _ h
  | defer d=>exact hn _ _ h
  | enter f args =>
   refine⟨fun h=>(by cases h),CallsIn.inRound lp (callsIn_wide.2 (Calls.mono h ?_))⟩;rintro e w'' he
   cases e with
   | returned v=>exact hn _ _ he
   | panicked c=>exact he
   | outgrown=>exact absurd he noOut_lets
  | row row args=>exact⟨fun h=>(by cases h),(rows_in h).mono fun _ _ he=>hn _ _ he⟩
  | _=>exact absurd h (by simp[Oper.upon])
 | halt x w'=>cases x <;> first | exact h | exact absurd h (by simp[Oper.upon])
theorem op_in {i:Nat} {a:Act} {w:World} {K K':Act→World→Prop} (hd:∀ (i:Nat) (o:Oper),ops[i]? = some o→∀ c,o.op≠.defer c) (hK:∀ a w,K a w→K' a w) (h:wpOp P ops (noOut Q) i K a w) :
  wpOpIn (Fence.wide.inRound lp) n P ops Q i K' a w:=by
 unfold wpOp at h;unfold wpOpIn
 cases ho:ops[i]? with
 | none=>rw[ho]at h;exact hK _ _ h
 | some o =>
  rw[ho]at h;simp only at h ⊢
  split at h
  ·rename_i hw
   rw[if_pos hw]
   rcases h with h | h
   ·exact oper_in (hd i o ho) hK h
   ·exact absurd h.2 noOut_lets
  ·rename_i hw
   rw[if_neg hw];exact⟨fun _ _=>trivial,hK _ _ h⟩
theorem any_in (hd:∀ (i:Nat) (o:Oper),ops[i]? = some o→∀ c,o.op≠.defer c):∀ (fuel:Nat) (listed:Array Bool) (a:Act) (w:World),wpAny P md ops (noOut Q) fuel listed a w→wpAnyIn (Fence.wide.inRound lp) n P md ops Q fuel listed a w
 | 0,_,_,_,h=>h
 | fuel+1,_,_,_,h=>⟨h.1,fun i hi=>op_in hd (fun a w h=>any_in hd fuel _ a w h) (h.2 i hi)⟩
def noDefer (l:List Oper):Bool:=l.all fun o=>match o.op with | .defer _=>false | _=>true
theorem noDefer_spec {l:List Oper} (h:noDefer l=true):∀ (i:Nat) (o:Oper),l.toArray[i]? = some o→∀ c,o.op≠.defer c:=fun i o ho c e=>by
 have hm:o∈l:=by rw[List.getElem?_toArray]at ho;exact List.mem_of_getElem? ho
 have:=List.all_eq_true.1 h o hm;rw[e]at this
 cases this
theorem region_tail_in {id:Nat} {a:Act} {w:World} {l:List Oper} (k:Nat) (hm:P.follows .mixedOrders=true) (hB:Region.lexTailB .any l.toArray k=true) (hd:noDefer l=true)
  (h:wpStill P l.toArray { w with drawn:=w.drawn+1 } (fun a'=>wpList P l.toArray (noOut Q) (l.drop k) a' { w with drawn:=w.drawn+1 }) (l.take k) a):(Code.region id l.toArray true).wpIn (Fence.wide.inRound lp) n P Q a w:=by
 simp only[Region.lexTailB,Bool.and_eq_true,decide_eq_true_eq]at hB;obtain⟨⟨⟨⟨hsel,hn⟩,hs⟩,hc⟩,hlex⟩:=hB;have hn':k<l.length:=by simpa using hn
 have htl:(l.take k).length=k:=by simp;omega
 have hdl:(l.drop k).length=l.toArray.size-k:=by simp
 have inv0:HeadInv .any l.toArray k (Array.replicate l.toArray.size false) :=
  ⟨by simp,fun j oj _ hl=>(by rw[getD_replicate_false]at hl;cases hl),fun t _ ht=>getD_in (by simpa using ht) (getD_replicate_false _ _)⟩
 have H:=wpAnyL_lex (md:=.any) (g:=l.toArray.size-k) hsel hs hc hn (l.take k) 0 _ a (fun j hj=>by
  have hj':j<k:=by rw[htl]at hj;exact hj
  simp[hj']) (by simpa using htl) inv0 (by rw[htl];exact hlex) h
 refine wpIn_region_any hm (any_in (noDefer_spec hd) _ _ _ _ ?_);have:=wpAny_of_head (Q':=noOut Q) (g:=l.toArray.size-k) (fun listed a' hL=>by
  have:=wpAny_of_seq (md:=.any) (Q':=noOut Q) (l.drop k) k listed a' { w with drawn:=w.drawn+1 } (fun j=>by simp[List.getElem?_drop]) (by rw[hdl];exact hL.1) hL.2
  rwa [hdl]at this) _ _ _ H
 rw[htl,show k+(l.toArray.size-k)=l.toArray.size by omega]at this;exact this
end
end Go.Proofs.YtbnkoefljcekbaaGreatDoor
namespace Go.Proofs.YtbnkoefljcekbaaGreatDoor
open Go.RowKit
theorem takeH {P:Program} {md:Region.Mode} {ops:Array Oper} {Q:Exit→Act→World→Prop} {S:World→Prop} {i:Nat} {d:Option Tmp} {oi:Oper} {v:Value} {fuel:Nat} {listed:Array Bool} {a:Act} {w:World} (hi:ops[i]? = some oi) (hd:oi.dst=d)
  (hs:Region.noSelect ops=true) (hf:Region.free md ops listed i=true) (hr:(Region.ready md ops listed).contains i=true)
  (hQ:∀ c a w,Q (.panic c) (a.put d v) w→Q (.panic c) a w) (hy:YieldsIf P ops S oi v a) (hS:S w)
  (h:wpAnyH P md ops Q S fuel (listed.setIfInBounds i true) (a.put d v) w):wpAnyH P md ops Q S (fuel+1) listed a w:=by
 subst hd;exact wpAnyH_take hi hs hf hr hQ hy hS h
theorem skH {P:Program} {md:Region.Mode} {ops:Array Oper} {Q:Exit→Act→World→Prop} {S:World→Prop} {i:Nat} {d:Option Tmp} {oi:Oper} {fuel:Nat} {listed:Array Bool} {a:Act} {w:World}
  (h:wpAnyH P md ops Q S fuel (listed.setIfInBounds i true) (a.put d undef) w) (hi:ops[i]? = some oi:=by rfl) (hd:oi.dst=d:=by rfl)
  (hs:Region.noSelect ops=true:=by kernel_rfl) (hf:Region.free md ops listed i=true:=by kernel_rfl) (hr:(Region.ready md ops listed).contains i=true:=by kernel_rfl)
  (hQ:∀ c a w,Q (.panic c) (a.put d undef) w→Q (.panic c) a w:=by exact fun _ _ _ h=>h) (hy:YieldsIf P ops S oi undef a:=by exact Or.inr ⟨by rfl,rfl⟩) (hS:S w:=by assumption):wpAnyH P md ops Q S (fuel+1) listed a w :=
 takeH hi hd hs hf hr hQ hy hS h
theorem tkH {P:Program} {md:Region.Mode} {ops:Array Oper} {Q:Exit→Act→World→Prop} {S:World→Prop} {i:Nat} {d:Option Tmp} {oi:Oper} {v:Value} {fuel:Nat} {listed:Array Bool} {a:Act} {w:World}
  (hi:ops[i]? = some oi:=by rfl) (hd:oi.dst=d:=by rfl) (hs:Region.noSelect ops=true:=by kernel_rfl) (hf:Region.free md ops listed i=true:=by kernel_rfl) (hr:(Region.ready md ops listed).contains i=true:=by kernel_rfl)
  (hQ:∀ c a w,Q (.panic c) (a.put d v) w→Q (.panic c) a w:=by exact fun _ _ _ h=>h) (hy:YieldsIf P ops S oi v a) (hS:S w:=by assumption) (h:wpAnyH P md ops Q S fuel (listed.setIfInBounds i true) (a.put d v) w):wpAnyH P md ops Q S (fuel+1) listed a w :=
 takeH hi hd hs hf hr hQ hy hS h
def TK (L:List (Nat × Nat)) (p:Prop):Prop:=p
theorem tkS {p:Prop} (L:List (Nat × Nat)) (h:TK L p):p:=h
theorem tkE {p:Prop} (h:p):TK [] p:=h
theorem tkL {P:Program} {md:Region.Mode} {ops:Array Oper} {Q:Exit→Act→World→Prop} {S:World→Prop} {i dd:Nat} {L:List (Nat × Nat)} {oi:Oper} {fuel:Nat} {listed:Array Bool} {a:Act} {w:World} (v:Value)
  (hv:∀ w,S w→(execOp a.eval oi).run P w = .ok (.value v) w) (h:TK L (wpAnyH P md ops Q S fuel (listed.setIfInBounds i true) (a.put (some dd) v) w))
  (hi:ops[i]? = some oi:=by rfl) (hd:oi.dst=some dd:=by rfl) (hs:Region.noSelect ops=true:=by kernel_rfl) (hf:Region.free md ops listed i=true:=by kernel_rfl) (hr:(Region.ready md ops listed).contains i=true:=by kernel_rfl)
  (hQ:∀ c a w,Q (.panic c) (a.put (some dd) v) w→Q (.panic c) a w:=by exact fun _ _ _ h=>h) (hw:Region.wanted oi (yielded ops a.tmps)=true:=by rfl) (hS:S w:=by assumption):TK ((i,dd)::L) (wpAnyH P md ops Q S (fuel+1) listed a w) :=
 takeH hi hd hs hf hr hQ (.inl ⟨hw,hv⟩) hS h
theorem skL {P:Program} {md:Region.Mode} {ops:Array Oper} {Q:Exit→Act→World→Prop} {S:World→Prop} {i dd:Nat} {L:List (Nat × Nat)} {oi:Oper} {fuel:Nat} {listed:Array Bool} {a:Act} {w:World}
  (h:TK L (wpAnyH P md ops Q S fuel (listed.setIfInBounds i true) (a.put (some dd) undef) w)) (hi:ops[i]? = some oi:=by rfl) (hd:oi.dst=some dd:=by rfl)
  (hs:Region.noSelect ops=true:=by kernel_rfl) (hf:Region.free md ops listed i=true:=by kernel_rfl) (hr:(Region.ready md ops listed).contains i=true:=by kernel_rfl)
  (hQ:∀ c a w,Q (.panic c) (a.put (some dd) undef) w→Q (.panic c) a w:=by exact fun _ _ _ h=>h) (hy:YieldsIf P ops S oi undef a:=by exact Or.inr ⟨by rfl,rfl⟩) (hS:S w:=by assumption):TK ((i,dd)::L) (wpAnyH P md ops Q S (fuel+1) listed a w) :=
 takeH hi hd hs hf hr hQ hy hS h
theorem tkA {α:Type} (l:List α) (i:Nat) (x:α):l.toArray.setIfInBounds i x=(l.set i x).toArray:=List.setIfInBounds_toArray ..
theorem tkB {α:Type} (x y:α) (l:List α):(x::l).set 0 y=y::l:=List.set_cons_zero
theorem tkC {α:Type} (x y:α) (n:Nat) (l:List α):(x::l).set (n+1) y=x::l.set n y:=List.set_cons_succ
end Go.Proofs.YtbnkoefljcekbaaGreatDoor