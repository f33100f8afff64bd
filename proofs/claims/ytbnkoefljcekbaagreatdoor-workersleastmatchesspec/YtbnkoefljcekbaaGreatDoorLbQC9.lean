/-
 Several texts of mine as one, without what is not wanted here: XDelG, XSrtK, XDelW, XFmE.
-/
import Derived.Test.YtbnkoefljcekbaaGreatDoorLbPC9
import Derived.Test.YtbnkoefljcekbaaGreatDoorLbGg
import Derived.Lib.SliceRun
import Derived.Test.YtbnkoefljcekbaaGreatDoorShelfB
import Derived.Shelf.SlSortCmp.NoneTotal
import Derived.Lib.OwnBridge
set_option linter.unusedVariables false
set_option linter.unusedSimpArgs false
set_option maxRecDepth 100000
set_option maxHeartbeats 8000000
namespace Go.Proofs.YtbnkoefljcekbaaGreatDoor.C9
open Go.ChangeShapes Go.WideShapes Go.Deep Go.RowKit
section
variable {α:Type} {R:Rd α} {e:TypeId} {w w':World} {base g n cap:Nat} {l:List α}
theorem own_open (h:Own R e w base (.slice (some ⟨g,0,none⟩) n cap) l):∃ cur,base≤g∧w.heap[g]? = some (.cells cur e (0,0))∧n≤cap∧cap≤maxLen∧cur.size=cap*R.size∧cur.toList.take (n*R.size)=l.flatMap R.vals∧l.length=n:=by
 have hl:=h.len
 rcases h.1.2 with ⟨hv,_⟩ | ⟨g',cap',cur,hv,a,b,c,d,e1,f⟩
 ·cases hv
 ·injection hv with h1 h2 h3;injection h1 with h1;injection h1 with h1;subst h1 h3;rw[hl]at c f;exact⟨cur,a,b,c,d,e1,f,hl⟩
theorem own_make {cur:Array Value} (a:base≤g) (b:w.heap[g]? = some (.cells cur e (0,0))) (c:n≤cap) (d:cap≤maxLen) (e1:cur.size=cap*R.size) (f:cur.toList.take (n*R.size)=l.flatMap R.vals) (hl:l.length=n) (hok:∀ x∈l,R.ok w x) :
  Own R e w base (.slice (some ⟨g,0,none⟩) n cap) l:=by
 subst hl;exact⟨⟨flatMap_vals_length l,.inr ⟨g,cap,cur,rfl,a,b,c,d,e1,f⟩⟩,hok⟩
theorem own_same (h:Own R e w base (.slice (some ⟨g,0,none⟩) n cap) l) (hg:w'.heap[g]? = w.heap[g]?) (hok:∀ x∈l,R.ok w x→R.ok w' x):Own R e w' base (.slice (some ⟨g,0,none⟩) n cap) l:=by
 obtain⟨cur,a,b,c,d,e1,f,hl⟩:=own_open h;exact own_make a (hg.trans b) c d e1 f hl (fun x hx=>hok x hx (h.2 x hx))
theorem flatMap_take (l:List α) (i:Nat):(l.take i).flatMap R.vals=(l.flatMap R.vals).take (i*R.size):=by
 induction l generalizing i with
 | nil=>simp
 | cons x l ih =>
  cases i with
  | zero=>simp
  | succ i =>
   have hx:(R.vals x).length≤(i+1)*R.size:=by rw[R.len,Nat.add_mul];omega
   have e1:(i+1)*R.size-R.size=i*R.size:=by rw[Nat.add_mul];omega
   rw[List.take_succ_cons,List.flatMap_cons,List.flatMap_cons,ih,List.take_append,List.take_of_length_le hx,R.len,e1]
theorem flatMap_drop (l:List α) (i:Nat):(l.drop i).flatMap R.vals=(l.flatMap R.vals).drop (i*R.size):=by
 induction l generalizing i with
 | nil=>simp
 | cons x l ih =>
  cases i with
  | zero=>simp
  | succ i =>
   have hx:(R.vals x).length≤(i+1)*R.size:=by rw[R.len,Nat.add_mul];omega
   have e1:(i+1)*R.size-R.size=i*R.size:=by rw[Nat.add_mul];omega
   rw[List.drop_succ_cons,List.flatMap_cons,ih,List.drop_append,List.drop_eq_nil_of_le hx,R.len,e1,List.nil_append]
theorem own_put (h:Own R e w base (.slice (some ⟨g,0,none⟩) n cap) l) {i:Nat} (hi:i<n) (x:α) (hx:R.ok w x) (hok:∀ y,R.ok w y→R.ok (w.setCells g (i*R.size) (R.vals x)) y) :
  Own R e (w.setCells g (i*R.size) (R.vals x)) base (.slice (some ⟨g,0,none⟩) n cap) (l.set i x):=by
 obtain⟨cur,a,b,c,d,e1,f,hl⟩:=own_open h;have hin:(i+1)*R.size≤n*R.size:=Nat.mul_le_mul_right _ hi;have hnc:n*R.size≤cap*R.size:=Nat.mul_le_mul_right _ c;rw[Nat.add_mul,Nat.one_mul]at hin;obtain⟨cur',h1,h2⟩:=heap_setCells g e (R.vals x) (i*R.size) w cur b (by rw[R.len,e1];omega);have hcl:cur.toList.length=cap*R.size:=by simpa using e1
 have hlen:cur'.size=cap*R.size:=by
  have:=congrArg List.length h2;simp only[Array.length_toList,List.length_append,List.length_take,List.length_drop,R.len]at this;omega
 refine own_make a h1 c d hlen ?_ (by rw[List.length_set];exact hl) (fun y hy=>?_)
 ·rw[h2];have hset:l.set i x=l.take i++x::l.drop (i+1):=by rw[List.set_eq_take_append_cons_drop,if_pos (by omega)]
  rw[hset,List.flatMap_append,List.flatMap_cons,flatMap_take,flatMap_drop,← f];have e2:(cur.toList.take (i*R.size)).length=i*R.size:=by rw[List.length_take];omega
  have e3:(R.vals x).length≤n*R.size-i*R.size:=by rw[R.len];omega
  have e4:(cur.toList.take (n*R.size)).take (i*R.size)=cur.toList.take (i*R.size):=by rw[List.take_take,Nat.min_eq_left (by omega)]
  have e5:(cur.toList.take (n*R.size)).drop ((i+1)*R.size)=(cur.toList.drop (i*R.size+R.size)).take (n*R.size-i*R.size-R.size):=by
   rw[List.drop_take,Nat.add_mul,Nat.one_mul]
   congr 1
   omega
  rw[e4,e5,List.append_assoc,List.take_append,e2,List.take_of_length_le (by omega),List.take_append,List.take_of_length_le e3,R.len]
 ·rcases List.mem_or_eq_of_mem_set hy with hy | rfl
  ·exact hok _ (h.2 _ hy)
  ·exact hok _ hx
theorem own_wipe (h:Own R e w base (.slice (some ⟨g,0,none⟩) n cap) l) {i:Nat} (hi:i≤n) (vs:List Value) (hv:vs.length=(n-i)*R.size) (hok:∀ y,R.ok w y→R.ok (w.setCells g (i*R.size) vs) y) :
  Own R e (w.setCells g (i*R.size) vs) base (.slice (some ⟨g,0,none⟩) i cap) (l.take i):=by
 obtain⟨cur,a,b,c,d,e1,f,hl⟩:=own_open h;have hin:i*R.size≤n*R.size:=Nat.mul_le_mul_right _ hi;have hnc:n*R.size≤cap*R.size:=Nat.mul_le_mul_right _ c;rw[Nat.sub_mul]at hv;obtain⟨cur',h1,h2⟩:=heap_setCells g e vs (i*R.size) w cur b (by rw[e1];omega);have hcl:cur.toList.length=cap*R.size:=by simpa using e1
 have hlen:cur'.size=cap*R.size:=by
  have:=congrArg List.length h2;simp only[Array.length_toList,List.length_append,List.length_take,List.length_drop]at this;omega
 refine own_make a h1 (by omega) d hlen ?_ (by rw[List.length_take];omega) (fun y hy=>hok _ (h.2 _ (List.mem_of_mem_take hy)));rw[h2,flatMap_take,← f,List.append_assoc,List.take_append,List.length_take,hcl,Nat.min_eq_left (by omega),Nat.sub_self,List.take_zero,List.append_nil,List.take_take,List.take_take,Nat.min_self,Nat.min_eq_left hin]
end
theorem run_clear_N {P:Program} (w:World) (t e ty:TypeId) (z:Value) (s:Nat) (ht:P.underlying t=some (.slice e)) (hv:∀ w,(zeroValue e).run P w = .ok z w) (hz:z.cells.size=s) (h1:∀ v∈z.cells.toList,v.oneCell'=true) (b o n c:Nat) (hn:0<n) (hs:0<s)
  (hc:∀ j,j<n*s→(w.cell? ⟨b,o+j,none⟩).isSome=true) (hf:∀ j,j<n*s→w.frozen? ⟨b,o+j,none⟩=false) :
  (Builtin.zeroCells z.cells n).toList.length=n*s∧(Builtin.clear_ #[t] ty #[.slice (some ⟨b,o,none⟩) n c]).run P w = .ok (.tuple #[]) (w.setCells b o (Builtin.zeroCells z.cells n).toList):=by
 refine⟨by simp[Builtin.zeroCells,hz],?_⟩;have hl:(Builtin.zeroCells z.cells n).toList.length=n*s:=by simp[Builtin.zeroCells,hz]
 have hst:=run_storeCells_cells (P:=P) b o (Builtin.zeroCells z.cells n).toList 0 w (by rw[hl];simpa using hc) (by rw[hl];simpa using hf) (by
  intro v hv';simp only[Builtin.zeroCells,Array.toList_map,List.mem_map]at hv';obtain⟨i,_,rfl⟩:=hv';have hlt:i % z.cells.size<z.cells.size:=Nat.mod_lt _ (by omega);rw[getElem!_pos z.cells _ hlt];exact h1 _ (by simp))
 simp only[Nat.add_zero]at hst;obtain⟨m,rfl⟩:∃ m,n=m+1:=⟨n-1,by omega⟩;simp[Builtin.clear_,run_underlying ht,hv,hst]
end Go.Proofs.YtbnkoefljcekbaaGreatDoor.C9
namespace Go.Proofs.YtbnkoefljcekbaaGreatDoor.C9
open Go.ChangeShapes Go.WideShapes Go.Deep Go.RowKit Go.Sort
section
variable {α:Type} [Inhabited α] {R:Rd α} {e:TypeId} {w w':World} {base g n cap:Nat} {l:List α}
theorem flat_toList (l:List α):(flatK R.vals R.size l.toArray).toList=l.flatMap R.vals:=by
 apply List.ext_getElem?;intro t
 by_cases ht:t<l.length*R.size
 ·have hs:0<R.size:=by
   rcases Nat.eq_zero_or_pos R.size with h | h
   ·rw[h]at ht;simp at ht
   ·exact h
  have hi:t / R.size<l.length:=Nat.div_lt_of_lt_mul (by rw[Nat.mul_comm];exact ht);have hj:t % R.size<R.size:=Nat.mod_lt _ hs;have hte:t=t / R.size*R.size+t % R.size:=by rw[Nat.mul_comm];exact(Nat.div_add_mod t R.size).symm
  have hv:(R.vals (l[t / R.size]'hi))[t % R.size]? = some ((R.vals (l[t / R.size]'hi))[t % R.size]'(by rw[R.len];exact hj)):=List.getElem?_eq_getElem _;have hg:=flatMap_vals_get l (t / R.size) (t % R.size) _ _ (List.getElem?_eq_getElem hi) hv;rw[← hte]at hg;rw[hg];have h1:(flatK R.vals R.size l.toArray).toList[t]? = some ((flatK R.vals R.size l.toArray)[t]!):=by
   rw[Array.getElem?_toList,Array.getElem?_eq_getElem (by simpa using ht),getElem!_pos _ _ (by simpa using ht)]
  rw[h1,get_flatK _ _ _ _ (by simpa using ht)]
  congr 1
  simp only[List.getElem!_toArray];rw[getElem!_pos l _ hi,getElem!_pos (R.vals (l[t / R.size]'hi)) _ (by rw[R.len];exact hj)]
 ·rw[List.getElem?_eq_none (by simp;omega),List.getElem?_eq_none (by rw[flatMap_vals_length];omega)]
theorem holdsK_of_own (h:Own R e w base (.slice (some ⟨g,0,none⟩) n cap) l):HoldsK R.vals R.size w g 0 l.toArray:=by
 obtain⟨cur,a,b,c,d,e1,f,hl⟩:=own_open h;intro j hj;have hj':j<n*R.size:=by rw[← hl];simpa using hj
 have hnc:n*R.size≤cap*R.size:=Nat.mul_le_mul_right _ c;refine⟨?_,by simp[World.frozen?,b]⟩;have e2:(cur.toList.take (n*R.size))[j]? = (flatK R.vals R.size l.toArray).toList[j]?:=by rw[f,flat_toList]
 rw[List.getElem?_take,if_pos hj',Array.getElem?_toList,Array.getElem?_toList]at e2;simp only[World.cell?,b,Nat.zero_add,Option.isSome_none,Bool.false_eq_true,if_false];rw[e2,Array.getElem?_eq_getElem hj,getElem!_pos (flatK R.vals R.size l.toArray) j hj];rfl
theorem heap_sortK (d:Array α) (m:Nat) (os:Array Obj) (k:Nat) (hk:k<w.heap.size) (hne:k≠g):(sortWorldK R.vals R.size w g 0 m d os).heap[k]? = w.heap[k]?:=by
 unfold sortWorldK putRowK putRow mapBlock grow Sort.ahead;simp only;rw[Array.getElem?_append_left (by simpa using hk),Array.getElem?_modify,if_neg (Ne.symm hne)]
theorem grown_sortK (d:Array α) (m:Nat) (os:Array Obj):w.grownBy (sortWorldK R.vals R.size w g 0 m d os) (some g) :=
 ⟨rfl,rfl,rfl,by unfold sortWorldK putRowK putRow mapBlock grow Sort.ahead;simp,fun k hk hne=>heap_sortK d m os k hk (fun e=>hne (by rw[e]))⟩
theorem own_sortK (h:Own R e w base (.slice (some ⟨g,0,none⟩) n cap) l) (l':List α) (hl':l'.length=n) (m:Nat) (os:Array Obj) (hok:∀ x∈l',R.ok (sortWorldK R.vals R.size w g 0 m l'.toArray os) x) :
  Own R e (sortWorldK R.vals R.size w g 0 m l'.toArray os) base (.slice (some ⟨g,0,none⟩) n cap) l':=by
 obtain⟨cur,a,b,c,d,e1,f,hl⟩:=own_open h;have hnc:n*R.size≤cap*R.size:=Nat.mul_le_mul_right _ c;have hg:g<w.heap.size:=(h.1.lt g rfl).2;have hcur:(sortWorldK R.vals R.size w g 0 m l'.toArray os).heap[g]? = some (.cells (putCells id 0 (flatK R.vals R.size l'.toArray) cur) e (0,0)):=by
  unfold sortWorldK putRowK putRow mapBlock grow Sort.ahead;simp only;rw[Array.getElem?_append_left (by simpa using hg),Array.getElem?_modify,if_pos rfl,b];rfl
 refine own_make a hcur c d (by simpa[putCells]using e1) ?_ hl' hok;rw[← flat_toList];apply List.ext_getElem?;intro j;rw[List.getElem?_take,Array.getElem?_toList,Array.getElem?_toList];have hsz:(flatK R.vals R.size l'.toArray).size=n*R.size:=by simp[hl']
 by_cases hj:j<n*R.size
 ·have hjc:j<cur.size:=by omega
  simp only[if_pos hj,putCells,Array.getElem?_mapIdx,Array.getElem?_eq_getElem hjc,Option.map_some];rw[if_pos (by omega),Array.getElem?_eq_getElem (by omega),Nat.sub_zero,getElem!_pos (flatK R.vals R.size l'.toArray) j (by omega)];rfl
 ·rw[if_neg hj,Array.getElem?_eq_none (by omega)]
theorem perm_of_in {d d':Array α} (h:PermIn 0 d.size d d'):d'.toList.Perm d.toList∧d'.size=d.size:=by
 obtain⟨h1,_,h3⟩:=h;refine⟨?_,h1⟩;have e1:d.extract 0 d.size=d:=by simp
 have e2:d'.extract 0 d.size=d':=by rw[← h1];simp
 rw[e1,e2]at h3;exact h3
theorem sorted_of_in {lt:α→α→Bool} {d:Array α} {n:Nat} (hn:d.size=n) (h:SortedIn lt 0 n d):d.toList.Pairwise fun x y=>lt y x=false:=by
 rw[List.pairwise_iff_getElem];intro i j hi hj hij;have:=h i j (Nat.zero_le _) hij (by rw[← hn];simpa using hj);rw[getElem!_pos d j (by simpa using hj),getElem!_pos d i (by simpa using hi)]at this
 simpa using this
end
end Go.Proofs.YtbnkoefljcekbaaGreatDoor.C9
namespace Go.Proofs.YtbnkoefljcekbaaGreatDoor.C9
open Go.ChangeShapes Go.WideShapes Go.Deep Go.RowKit
def gvals (x:GRun):Array Value:=#[.int .i64 x.work,.int .i64 x.worker,.int .i64 x.from_,.int .i64 x.end_]
structure DelP (g:Nat) (lb:Array Value) (p:GRun→Bool) (L:List GRun) (rb:Nat) (I:Nat→World→Prop):Prop where
 stab:∀ k W W',I k W→W.grownBy W' (some rb)→I k W'
 call:∀ k x W0 W,L[k]? = some x→I k W0→Below W0.heap.size W0 W→Calls Tryz.prog g (#[.agg (gvals x)]++lb) W fun e w'=>e = .returned (.bool (p x))∧I (k+1) w'∧W.heap.size≤w'.heap.size∧∀ b,(b=rb∨W0.heap.size≤b)→b<W.heap.size→w'.heap[b]? = W.heap[b]?
def IxRel (base rb n cap:Nat) (L:List GRun) (p:GRun→Bool) (I:Nat→World→Prop) (i:Value) (wr:World):Prop :=
 ∃ k:Nat,k≤n∧i = .int .i64 k∧Own RGRun 144 wr base (.slice (some ⟨rb,0,none⟩) n cap) L∧I k wr∧(∀ x∈L.take k,p x=false)
def IxAns (base rb n cap:Nat) (L:List GRun) (p:GRun→Bool) (I:Nat→World→Prop) (e:Ending) (w':World):Prop :=
 Own RGRun 144 w' base (.slice (some ⟨rb,0,none⟩) n cap) L∧((e = .returned (.int .i64 (-1))∧I n w'∧(∀ x∈L,p x=false))∨∃ k:Nat,k<n∧e = .returned (.int .i64 k)∧I (k+1) w'∧(∀ x∈L.take k,p x=false)∧∃ x,L[k]? = some x∧p x=true)
theorem own_lt {base rb n cap:Nat} {L:List GRun} {w:World} (h:Own RGRun 144 w base (.slice (some ⟨rb,0,none⟩) n cap) L):rb<w.heap.size:=(h.1.lt rb rfl).2
theorem own_fz {base rb n cap:Nat} {L:List GRun} {w:World} (h:Own RGRun 144 w base (.slice (some ⟨rb,0,none⟩) n cap) L) (j:Nat):w.frozen? ⟨rb,j,none⟩=false:=by
 obtain⟨cur,a,b,_⟩:=own_open h;exact frozen_of_row w rb _ cur _ b
theorem grun_okW (w w':World) (y:GRun) (h:RGRun.ok w y):RGRun.ok w' y:=h
theorem take_all {L:List GRun} {p:GRun→Bool} {k:Nat} {x:GRun} (h:∀ y∈L.take k,p y=false) (hx:L[k]? = some x) (hp:p x=false):∀ y∈L.take (k+1),p y=false:=fun y hy=>by
 rw[List.take_add_one,hx,Option.toList_some]at hy
 rcases List.mem_append.1 hy with hy | hy
 ·exact h y hy
 ·rw[List.mem_singleton.1 hy];exact hp
theorem indexG_any (g:Nat) (lb:Array Value) (eg:∀ args w,(callFunc g args).run Tryz.prog w = .ok (.enter g args) w) (p:GRun→Bool) (base rb n cap:Nat) (L:List GRun) (I:Nat→World→Prop) (w:World)
  (hP:DelP g lb p L rb I) (hO:Own RGRun 144 w base (.slice (some ⟨rb,0,none⟩) n cap) L) (hI:I 0 w) (hn:n≤1000000) :
  Calls Tryz.prog 157 #[.slice (some ⟨rb,0,none⟩) n cap,.func (.func g) #[] lb] w (IxAns base rb n cap L p I):=by
 have hl:=hO.len;obtain⟨hPH,hOH,hIH,hlH⟩:=hq2 hP (hq2 hO (hq2 hI (Lib.hid hl)));clear hP hO hI hl;go_enter Tryz.func157,Tryz.ntmps157;go_wp2_with fail
 go_loopw [8] (fun i wr=>IxRel base rb n cap L p I i wr) (fun i _=>n-(intOf i).toNat)
 case atStart=>exact⟨0,Nat.zero_le _,rfl,hOH.out,hIH.out,by simp⟩
 case round =>
  clear hOH hIH;obtain⟨k,hk,rfl,hO,hI,hall⟩:=hrel
  by_cases hlt:k<n
  ·obtain⟨x,hx⟩:∃ x,L[k]? = some x:=⟨L[k]'(by have:=hlH.out;omega),List.getElem?_eq_getElem _⟩;obtain⟨d0,d1,d2,d3⟩:=cells_GRun hO.slAt hx;rw[Nat.zero_add]at d0 d1 d2 d3;have hcall:=hPH.out.call k x wr wr hx hI (Below.refl _ _);have hlt2:=own_lt hO;unfold gvals at hcall
   cases hp:p x
   ·rw[hp]at hcall;have hall2:=take_all hall hx hp;have R:∀ w',I (k+1) w'→w'.heap[rb]? = wr.heap[rb]?→IxRel base rb n cap L p I (.int .i64 ((k:Int)+1)) w':=fun w' h1 h2 =>
     ⟨k+1,hlt,by go_num,own_same hO h2 (fun y _ hy=>grun_okW _ _ y hy),h1,hall2⟩
    clear hall hall2;obtain⟨hOH,hIH,hxH,hpH,hcallH,RH,hlt2H⟩:=hq2 hO (hq2 hI (hqb hx hp hcall R (Lib.hid hlt2)));clear hO hI hx hp hcall R hlt2;go_wp2_with fail
    go_at_fn g
    refine hcallH.out.mono ?_;rintro e w5 ⟨rfl,h5,h6,h7⟩;have R5:=RH.out w5 h5 (h7 rb (.inl rfl) hlt2H.out);clear h5 h6 h7;have R5H:=Lib.hid R5;clear R5;go_wp2;refine⟨?rel,?measure⟩
    case measure=>(simp[intOf];omega)
    case rel=>first | exact R5H.out | exact⟨rfl,R5H.out⟩
   ·rw[hp]at hcall;have R:∀ w',I (k+1) w'→w'.heap[rb]? = wr.heap[rb]?→IxAns base rb n cap L p I (.returned (.int .i64 (k:Int))) w':=fun w' h1 h2 =>
     ⟨own_same hO h2 (fun y _ hy=>grun_okW _ _ y hy),.inr ⟨k,hlt,rfl,h1,hall,x,hx,hp⟩⟩
    clear hall;obtain⟨hOH,hIH,hxH,hpH,hcallH,RH,hlt2H⟩:=hq2 hO (hq2 hI (hqb hx hp hcall R (Lib.hid hlt2)));clear hO hI hx hp hcall R hlt2;go_wp2_with fail
    go_at_fn g
    refine hcallH.out.mono ?_;rintro e w5 ⟨rfl,h5,h6,h7⟩;have R5:=RH.out w5 h5 (h7 rb (.inl rfl) hlt2H.out);clear h5 h6 h7;have R5H:=Lib.hid R5;clear R5;go_wp2;go_ret;exact R5H.out
  ·obtain rfl:k=n:=by omega
   rw[List.take_of_length_le (by have:=hlH.out;omega)]at hall;have R:IxAns base rb k cap L p I (.returned (.int .i64 (-1))) wr:=⟨hO,.inl ⟨rfl,hI,hall⟩⟩;clear hall;obtain⟨hOH,hIH,RH⟩:=hq2 hO (hq2 hI (Lib.hid R));clear hO hI R;go_wp2;go_ret;exact RH.out
structure DelI (L M:List GRun) (p:GRun→Bool) (i j:Nat):Prop where
 len:M.length=L.length
 low:M.take i=(L.take j).filter fun x=>!p x
 high:M.drop j=L.drop j
 lt:i<j
theorem DelI.start {L:List GRun} {p:GRun→Bool} {k:Nat} {x:GRun} (h:∀ y∈L.take k,p y=false) (hx:L[k]? = some x) (hp:p x=true):DelI L L p k (k+1):=by
 refine⟨rfl,?_,rfl,by omega⟩;rw[List.take_add_one,hx,Option.toList_some,List.filter_append,List.filter_eq_self.2 (fun y hy=>by rw[h y hy];rfl)];simp[hp]
theorem DelI.skip {L M:List GRun} {p:GRun→Bool} {i j:Nat} {x:GRun} (h:DelI L M p i j) (hx:L[j]? = some x) (hp:p x=true):DelI L M p i (j+1):=by
 refine⟨h.len,?_,?_,by have:=h.lt;omega⟩
 ·rw[h.low,List.take_add_one,hx,Option.toList_some,List.filter_append];simp[hp]
 ·rw[show j+1=j+1 from rfl,← List.drop_drop,h.high,List.drop_drop]
theorem DelI.keep {L M:List GRun} {p:GRun→Bool} {i j:Nat} {x:GRun} (h:DelI L M p i j) (hx:L[j]? = some x) (hp:p x=false):DelI L (M.set i x) p (i+1) (j+1):=by
 have hlt:=h.lt;have hj:=(List.getElem?_eq_some_iff.1 hx).1;have hl:=h.len;refine⟨by rw[List.length_set];exact hl,?_,?_,by omega⟩
 ·rw[List.take_add_one,List.take_set_of_le (Nat.le_refl _),List.getElem?_set_self (by omega),Option.toList_some,h.low,List.take_add_one,hx,Option.toList_some,List.filter_append];simp[hp]
 ·rw[List.drop_set_of_lt (by omega),← List.drop_drop,h.high,List.drop_drop]
def DeRel (base rb n cap:Nat) (L:List GRun) (p:GRun→Bool) (I:Nat→World→Prop) (iv jv:Value) (wr:World):Prop :=
 ∃ (i j:Nat) (M:List GRun),j≤n∧iv = .int .i64 i∧jv = .int .i64 j∧DelI L M p i j∧Own RGRun 144 wr base (.slice (some ⟨rb,0,none⟩) n cap) M∧I j wr
def DeAns (base:Nat) (A:Option Addr) (n cap:Nat) (L:List GRun) (p:GRun→Bool) (I:Nat→World→Prop) (e:Ending) (w':World):Prop :=
 ∃ k,k≤n∧e = .returned (.slice A k cap)∧Own RGRun 144 w' base (.slice A k cap) (L.filter fun x=>!p x)∧I n w'
theorem deleteG_any (g:Nat) (lb:Array Value) (eg:∀ args w,(callFunc g args).run Tryz.prog w = .ok (.enter g args) w) (p:GRun→Bool) (base rb n cap:Nat) (L:List GRun) (I:Nat→World→Prop) (w:World)
  (hP:DelP g lb p L rb I) (hO:Own RGRun 144 w base (.slice (some ⟨rb,0,none⟩) n cap) L) (hI:I 0 w) (hn:n≤1000000) :
  Calls Tryz.prog 113 #[.slice (some ⟨rb,0,none⟩) n cap,.func (.func g) #[] lb] w (DeAns base (some ⟨rb,0,none⟩) n cap L p I):=by
 have hl:=hO.len;have hcap:=hO.cap_le;have hix:=indexG_any g lb eg p base rb n cap L I w hP hO hI hn;obtain⟨hPH,hOH,hIH,hlH,hixH⟩:=hqb hP hO hI hl (Lib.hid hix);clear hP hO hI hl hix;go_enter Tryz.func113,Tryz.ntmps113;go_wp2_with fail;refine hixH.out.mono ?_;rintro e w1 ⟨hO1,⟨rfl,hI1,hno⟩ | ⟨k,hk,rfl,hI1,hall,x,hx,hpx⟩⟩
 ·have R:DeAns base (some ⟨rb,0,none⟩) n cap L p I (.returned (.slice (some ⟨rb,0,none⟩) n cap)) w1 :=
   ⟨n,Nat.le_refl _,rfl,by rw[List.filter_eq_self.2 (fun y hy=>by rw[hno y hy];rfl)];exact hO1,hI1⟩
  clear hO1 hI1 hno;have RH:=Lib.hid R;clear R;go_wp2;go_ret;exact RH.out
 ·have hst:DeRel base rb n cap L p I (.int .i64 (k:Int)) (.int .i64 ((k:Int)+1)) w1:=⟨k,k+1,L,hk,rfl,by go_num,DelI.start hall hx hpx,hO1,hI1⟩;have hk1:((k:Int) == -1)=false:=beq_eq_false_iff_ne.2 (by omega);clear hO1 hI1 hall hx hpx;have hstH:=Lib.hid hst;clear hst;go_wp2_with fail;clear hOH hIH hixH hk1
  go_loopw [5,6] (fun i j wr=>DeRel base rb n cap L p I i j wr) (fun _ j _=>n-(intOf j).toNat)
  case atStart=>exact hstH.out
  case round =>
   clear hstH;obtain⟨i,j,M,hj,rfl,rfl,hD,hO,hI⟩:=hrel;have hij:=hD.lt;have hMl:M.length=n:=hD.len.trans hlH.out;have hlt2:=own_lt hO
   by_cases hlt:j<n
   ·obtain⟨x,hx⟩:∃ x,L[j]? = some x:=⟨L[j]'(by have:=hlH.out;omega),List.getElem?_eq_getElem _⟩;have hMx:M[j]? = some x:=by
     have h1:M[j]? = (M.drop j)[0]?:=by rw[List.getElem?_drop,Nat.add_zero]
     rw[h1,hD.high,List.getElem?_drop,Nat.add_zero];exact hx
    obtain⟨d0,d1,d2,d3⟩:=cells_GRun hO.slAt hMx;rw[Nat.zero_add]at d0 d1 d2 d3;obtain⟨o,ho⟩:∃ o,M[i]? = some o:=⟨M[i]'(by omega),List.getElem?_eq_getElem _⟩;have hba:=(Below.refl wr.heap.size wr).alloc (Nat.le_refl _) (.cells #[.int .i64 x.work,.int .i64 x.worker,.int .i64 x.from_,.int .i64 x.end_] 144);have hcall:=hPH.out.call j x wr _ hx hI hba;unfold gvals at hcall;have hxok:RGRun.ok wr x:=hO.2 x (List.mem_of_getElem? hMx)
    cases hp:p x
    ·rw[hp]at hcall;have hD2:=hD.keep hx hp;have R:∀ w',I (j+1) w'→w'.heap[rb]? = (wr.alloc (.cells #[.int .i64 x.work,.int .i64 x.worker,.int .i64 x.from_,.int .i64 x.end_] 144)).heap[rb]? →
       (∀ c,c<4→w'.frozen? ⟨rb,0+i*4+c,none⟩=false∧∃ u,w'.cell? ⟨rb,0+i*4+c,none⟩=some u)∧DeRel base rb n cap L p I (.int .i64 ((i:Int)+1)) (.int .i64 ((j:Int)+1)) ((((w'.setCell ⟨rb,i*4,none⟩ (.int .i64 x.work)).setCell ⟨rb,i*4+1,none⟩ (.int .i64 x.worker)).setCell ⟨rb,i*4+2,none⟩ (.int .i64 x.from_)).setCell ⟨rb,i*4+3,none⟩ (.int .i64 x.end_)):=by
      intro w' h1 h2;have hO2:Own RGRun 144 w' base (.slice (some ⟨rb,0,none⟩) n cap) M:=own_same hO (h2.trans (hba.block rb hlt2)) (fun y _ hy=>grun_okW _ _ y hy);obtain⟨u0,u1,u2,u3⟩:=cells_GRun hO2.slAt ho;refine⟨fun c hc=>⟨own_fz hO2 _,?_⟩,i+1,j+1,M.set i x,hlt,by go_num,by go_num,hD2,?_,?_⟩
      ·match c,hc with
       | 0,_=>exact⟨_,u0⟩
       | 1,_=>exact⟨_,u1⟩
       | 2,_=>exact⟨_,u2⟩
       | 3,_=>exact⟨_,u3⟩
      ·exact own_put hO2 (by omega) x (grun_okW _ _ x hxok) (fun y hy=>grun_okW _ _ y hy)
      ·exact hPH.out.stab _ _ _ h1 (grown_setCells rb (RGRun.vals x) (i*4) w')
     clear hD hD2;obtain⟨hOH,hIH,hxH,hpH,hcallH,RH,hlt2H,hMxH,hoH,hbaH,hMlH,hxokH⟩:=hq2 hO (hq2 hI (hq2 hx (hqc hp hcall R hlt2 hMx ho hba hMl (Lib.hid hxok))));clear hO hI hx hp hcall R hlt2 hMx ho hba hMl hxok;go_wp2_with fail
     go_at_fn g
     refine hcallH.out.mono ?_;rintro e w5 ⟨rfl,h5,h6,h7⟩;have hv:=h7 wr.heap.size (.inr (Nat.le_refl _)) (by simp);have v0:=(World.cell?_of_block (a:=⟨wr.heap.size,0,none⟩) hv).trans (cell_new wr _ _ 0);have v1:=(World.cell?_of_block (a:=⟨wr.heap.size,1,none⟩) hv).trans (cell_new wr _ _ 1);have v2:=(World.cell?_of_block (a:=⟨wr.heap.size,2,none⟩) hv).trans (cell_new wr _ _ 2);have v3:=(World.cell?_of_block (a:=⟨wr.heap.size,3,none⟩) hv).trans (cell_new wr _ _ 3);simp only[List.getElem?_toArray,List.getElem?_cons_succ,List.getElem?_cons_zero]at v0 v1 v2 v3;obtain⟨R4,R5⟩:=RH.out w5 h5 (h7 rb (.inl rfl) (by simp;have:=hlt2H.out;omega));obtain⟨f0,c0',k0⟩:=R4 0 (by omega);obtain⟨f1,c1',k1⟩:=R4 1 (by omega);obtain⟨f2,c2',k2⟩:=R4 2 (by omega);obtain⟨f3,c3',k3⟩:=R4 3 (by omega);simp only[Nat.add_zero,Nat.zero_add]at f0 f1 f2 f3 k0 k1 k2 k3;clear h5 h6 h7 hv R4;have R5H:=Lib.hid R5;clear R5;go_wp2;refine⟨?rel,?measure⟩
     case measure=>(simp[intOf];omega)
     case rel=>first | exact R5H.out | exact⟨rfl,R5H.out⟩
    ·rw[hp]at hcall;have hD2:=hD.skip hx hp;have R:∀ w',I (j+1) w'→w'.heap[rb]? = (wr.alloc (.cells #[.int .i64 x.work,.int .i64 x.worker,.int .i64 x.from_,.int .i64 x.end_] 144)).heap[rb]? →
       DeRel base rb n cap L p I (.int .i64 (i:Int)) (.int .i64 ((j:Int)+1)) w':=fun w' h1 h2 =>
      ⟨i,j+1,M,hlt,rfl,by go_num,hD2,own_same hO (h2.trans (hba.block rb hlt2)) (fun y _ hy=>grun_okW _ _ y hy),h1⟩
     clear hD hD2;obtain⟨hOH,hIH,hxH,hpH,hcallH,RH,hlt2H,hMxH,hoH,hbaH,hMlH,hxokH⟩:=hq2 hO (hq2 hI (hq2 hx (hqc hp hcall R hlt2 hMx ho hba hMl (Lib.hid hxok))));clear hO hI hx hp hcall R hlt2 hMx ho hba hMl hxok;go_wp2_with fail
     go_at_fn g
     refine hcallH.out.mono ?_;rintro e w5 ⟨rfl,h5,h6,h7⟩;have R5:=RH.out w5 h5 (h7 rb (.inl rfl) (by simp;have:=hlt2H.out;omega));clear h5 h6 h7;have R5H:=Lib.hid R5;clear R5;go_wp2;refine⟨?rel,?measure⟩
     case measure=>(simp[intOf];omega)
     case rel=>first | exact R5H.out | exact⟨rfl,R5H.out⟩
   ·obtain rfl:j=n:=by omega
    have hcells:∀ q,q<(j-i)*4→(wr.cell? ⟨rb,i*4+q,none⟩).isSome=true∧wr.frozen? ⟨rb,i*4+q,none⟩=false:=by
     intro q hq;obtain⟨cur,a,b,c,d,e1,f,_⟩:=own_open hO;refine⟨?_,own_fz hO _⟩;have hlt4:i*4+q<cur.size:=by rw[e1];show _<cap*4;omega
     unfold World.cell?;rw[b];simp[hlt4]
    obtain⟨vs,hvl,hclr⟩:∃ vs:List Value,vs.length=(j-i)*4∧∀ ty,(Builtin.clear_ #[58] ty #[.slice (some ⟨rb,i*4,none⟩) (j-i) (cap-i)]).run Tryz.prog wr = .ok (.tuple #[]) (wr.setCells rb (i*4) vs):=by
     have h0:=fun ty=>run_clear_N (P:=Tryz.prog) wr 58 144 ty (.agg #[.int .i64 0,.int .i64 0,.int .i64 0,.int .i64 0]) 4 Tryz.underlying58 Tryz.zeroValue144 (by decide) (by decide) rb (i*4) (j-i) (cap-i) (by omega) (by omega) (fun q hq=>(hcells q hq).1) (fun q hq=>(hcells q hq).2);exact⟨_,(h0 0).1,fun ty=>(h0 ty).2⟩
    have hO2:=own_wipe hO (i:=i) (by omega) vs hvl (fun y hy=>grun_okW _ _ y hy);have hI2:=hPH.out.stab _ _ _ hI (grown_setCells rb vs (i*4) wr);have R:DeAns base (some ⟨rb,0,none⟩) j cap L p I (.returned (.slice (some ⟨rb,0,none⟩) i cap)) (wr.setCells rb (i*4) vs) :=
     ⟨i,by omega,rfl,by rw[hD.low,List.take_of_length_le (by have:=hlH.out;omega)]at hO2;exact hO2,hI2⟩
    have hji:i≤j:=by omega
    have hjc:j≤cap:=by omega
    clear hD hO2 hI2 hcells hcap;obtain⟨hOH,hIH,hvlH,RH,hMlH,hlt2H⟩:=hq2 hO (hqb hI hvl R hMl (Lib.hid hlt2));clear hO hI hvl R hMl hlt2;go_wp2;go_ret;exact RH.out
theorem own_nil_new (w:World) (base:Nat) (hb:base≤w.heap.size):Own RGRun 144 (w.alloc (.cells #[] 144)) base (.slice (some ⟨w.heap.size,0,none⟩) 0 0) [] :=
 own_make (cur:=#[]) hb (by show (w.heap.push _)[w.heap.size]? = _;exact Array.getElem?_push_size) (Nat.le_refl _) (Nat.zero_le _) rfl (by simp) rfl (fun x hx=>by cases hx)
theorem cloneG_any (A:Option Addr) (n cap:Nat) (L:List GRun) (w:World) (base:Nat) (hO:Own RGRun 144 w base (.slice A n cap) L) (hn:n≤1000000) :
  Calls Tryz.prog 160 #[.slice A n cap] w fun e w'=>∃ A' c',e = .returned (.slice A' n c')∧Own RGRun 144 w' w.heap.size (.slice A' n c') L∧Below w.heap.size w w':=by
 have q22:∀ (w:World) (a:Option Addr) (n c n' c':Nat),(binOp .eql 58 (.slice a n c) (.slice none n' c')).run Tryz.prog w = .ok (.bool a.isNone) w:=fun w a n c n' c'=>Lib.run_eql_slice_nil w _ _ a n c n' c' Tryz.underlying58;have hl:=hO.len
 rcases hO.1.2 with ⟨hv,h0⟩ | ⟨g,cap',cur,hv,_⟩
 ·injection hv with e1 e2 e3;subst e1 e2 e3;obtain rfl:L = []:=List.eq_nil_of_length_eq_zero h0;have R:Own RGRun 144 w w.heap.size (.slice none 0 0) []:=Own.nil _ _;obtain⟨hOH,hlH,RH⟩:=hq2 hO (hq2 hl (Lib.hid R));clear hO hl R;go_enter Tryz.func160,Tryz.ntmps160;go_wp2;go_ret;exact⟨none,0,rfl,RH.out,Below.refl _ _⟩
 ·injection hv with e1 e2 e3;subst e1 e3;clear e2;have hs:=hO.slAt;have hem:=own_nil_new w w.heap.size (Nat.le_refl _);obtain⟨hOH,hlH,hsH,hemH⟩:=hq2 hO (hq2 hl (hq2 hs (Lib.hid hem)));clear hO hl hs hem;go_enter Tryz.func160,Tryz.ntmps160;go_wp2_with (at_builtin;go_loud (refine wpList_app (R:=RGRun) (base:=w.heap.size) rfl (.tmp 5) (.tmp 6) 58 rfl Tryz.underlying58 elem_GRun (by decide) rfl hemH.out (some ⟨g,0,none⟩) n cap L rfl (hsH.out.below ((Below.refl _ _).alloc (Nat.le_refl _) _)) (fun _ h=>by cases h) (fun _ _ _ _ h=>h) (by simp only[List.length_nil];unfold maxLen;omega) (by simp only[List.length_nil];omega) (by simp) n (by simp) ?_);intro A' c' w' hq hg hat hbl);go_ret;rw[List.nil_append]at hq;exact⟨A',c',rfl,hq,((Below.refl w.heap.size w).alloc (Nat.le_refl _) (.cells #[] 144)).trans hbl⟩
theorem indexG_nil (g:Nat) (lb:Array Value) (w:World) :
  Calls Tryz.prog 157 #[.slice none 0 0,.func (.func g) #[] lb] w fun e w'=>e = .returned (.int .i64 (-1))∧w=w':=by
 go_enter Tryz.func157,Tryz.ntmps157;go_wp2_with fail
 go_loopw [8] (fun i wr=>i = .int .i64 0∧w=wr) (fun i _=>0)
 case atStart=>exact⟨rfl,rfl⟩
 case round =>
  obtain⟨rfl,rfl⟩:=hrel;go_wp2;go_ret;exact⟨rfl,rfl⟩
theorem deleteG_nil (g:Nat) (lb:Array Value) (w:World) :
  Calls Tryz.prog 113 #[.slice none 0 0,.func (.func g) #[] lb] w fun e w'=>e = .returned (.slice none 0 0)∧w=w':=by
 go_enter Tryz.func113,Tryz.ntmps113;go_wp2_with fail;refine(indexG_nil g lb w).mono ?_;rintro e w' ⟨rfl,rfl⟩;go_wp2;go_ret;exact⟨rfl,rfl⟩
theorem ro1_any (pb:Nat) (i:Int) (x:GRun) (W:World) (hc:W.cell? ⟨pb,0,none⟩=some (.int .i64 i)) :
  Calls Tryz.prog 161 #[.agg (gvals x),.pointer (some ⟨pb,0,none⟩)] W fun e w'=>e = .returned (.bool (x.work != i))∧Below W.heap.size W w':=by
 unfold gvals;obtain⟨a,b,c,d⟩:=x;have hlt:=cell?_lt hc;have hba:=(Below.refl W.heap.size W).alloc (Nat.le_refl _) (.cells #[.int .i64 a,.int .i64 b,.int .i64 c,.int .i64 d] 144);have hbaH:=Lib.hid hba;clear hba;go_enter Tryz.func161,Tryz.ntmps161;go_wp2;go_ret;exact⟨rfl,hbaH.out⟩
theorem filter_gr (F:FP) (P:List RR) (i:Nat) (hg:∀ r∈P,going r=true):(P.map (gr F)).filter (fun x=>!(x.work != (i:Int)))=(goingOf P i).map (gr F):=by
 unfold goingOf;rw[List.filter_map]
 congr 1
 refine List.filter_congr fun r hr=>?_;simp only[Function.comp,hg r hr,Bool.true_and];show (!!((r.work:Int)==(i:Int)))=(r.work==i);rw[Bool.not_not,Bool.eq_iff_iff,beq_iff_eq,beq_iff_eq];omega
def RoAns (F:FP) (P:List RR) (i:Nat) (w:World) (e:Ending) (w':World):Prop :=
 ∃ A k c,e = .returned (.slice A k c)∧k=(goingOf P i).length∧SlAt RGRun w' A k ((goingOf P i).map (gr F))∧Below w.heap.size w w'
theorem runsOf_any (fb:Nat) (F:FP) (A:Option Addr) (n cap:Nat) (P:List RR) (i:Nat) (w:World) (base:Nat) (h8:w.cell? ⟨fb,8,none⟩=some (.slice A n cap)) (hO:Own RGRun 144 w base (.slice A n cap) (P.map (gr F))) (hn:n≤1000000) (hg:∀ r∈P,going r=true) :
  Calls Tryz.prog 119 #[.pointer (some ⟨fb,0,none⟩),.int .i64 i] w (RoAns F P i w):=by
 have hlt:=cell?_lt h8;have hba:=(Below.refl w.heap.size w).alloc (Nat.le_refl _) (.cells #[.int .i64 i] 3);have b0:=Boxed.new w 3 (.int .i64 i);have hcl:=cloneG_any A n cap (P.map (gr F)) _ base (hO.below hba) hn;have hfl:=filter_gr F P i hg;have eg:∀ args w,(callFunc 161 args).run Tryz.prog w = .ok (.enter 161 args) w:=enters_of Tryz.func161 (by kernel_rfl) rfl;obtain⟨hOH,hbaH,hclH,hflH,hgH⟩:=hqb hO hba hcl hfl (Lib.hid hg);clear hO hba hcl hfl hg;go_enter Tryz.func119,Tryz.ntmps119;go_wp2_with fail;refine hclH.out.mono ?_;rintro e w1 ⟨A1,c1,rfl,hO1,hb1⟩;have hb01:=hbaH.out.trans (hb1.mono hbaH.out.size);have q0:w1.cell? ⟨w.heap.size,0,none⟩=some (.int .i64 i):=(hb1.cell (p:=⟨w.heap.size,0,none⟩) (by simp)).trans b0.cell;clear b0 hclH hbaH
 rcases hO1.1.2 with ⟨hv,h0⟩ | ⟨g,cap',cur,hv,hge,_⟩
 ·injection hv with e1 e2 e3;subst e1 e2 e3;have hP0:P = []:=by cases P with
   | nil=>rfl
   | cons a b=>simp at h0
  subst hP0;have R:RoAns F [] i w (.returned (.slice none 0 0)) w1:=⟨none,0,0,rfl,rfl,⟨rfl,fun h=>absurd h (Nat.lt_irrefl 0),fun x hx=>by cases hx⟩,hb01⟩;clear hO1 hb1 hb01 q0 h0;have RH:=Lib.hid R;clear R;go_wp2_with fail;refine(deleteG_nil _ _ w1).mono ?_;rintro e w2 ⟨rfl,rfl⟩;go_wp2;go_ret;exact RH.out
 ·injection hv with e1 e2 e3;subst e1 e3;clear e2;have hgl:=own_lt hO1;have hgw:w.heap.size≠g:=by simp at hge;omega
  have hwl:w.heap.size<w1.heap.size:=cell?_lt q0;have hcellW:∀ W,w1.grownBy W (some g)→W.cell? ⟨w.heap.size,0,none⟩=some (.int .i64 i):=fun W hW=>hW.cell q0 (by intro e;injection e with e;exact hgw e);have hP:DelP 161 #[.pointer (some ⟨w.heap.size,0,none⟩)] (fun x=>x.work != (i:Int)) (P.map (gr F)) g (fun _ W=>w1.grownBy W (some g)):=by
   refine⟨fun _ W W' h h2=>grown_trans h h2,fun k x W0 W hx hI hW=>?_⟩;have hIW:w1.grownBy W (some g):=grown_trans hI ⟨hW.os,hW.tape,hW.output,hW.size,fun k hk _=>hW.block k hk⟩;refine(ro1_any w.heap.size i x W (hcellW W hIW)).mono ?_;rintro e w' ⟨rfl,hb⟩;exact⟨rfl,grown_trans hIW ⟨hb.os,hb.tape,hb.output,hb.size,fun k hk _=>hb.block k hk⟩,hb.size,fun b _ hb2=>hb.block b hb2⟩
  have hdl:=deleteG_any 161 #[.pointer (some ⟨w.heap.size,0,none⟩)] eg (fun x=>x.work != (i:Int)) _ g n c1 (P.map (gr F)) _ w1 hP hO1 (World.grownBy.refl _ _) hn;clear hP hcellW hO1 q0;have hge2:w.heap.size≤g:=by simp at hge;omega
  obtain⟨hb1H,hb01H,hdlH⟩:=hq2 hb1 (hq2 hb01 (Lib.hid hdl));clear hb1 hb01 hdl;go_wp2_with fail;refine hdlH.out.mono ?_;rintro e w2 ⟨k,hk,rfl,hO2,hg2⟩;rw[hflH.out]at hO2;have R:RoAns F P i w (.returned (.slice (some ⟨g,0,none⟩) k c1)) w2 :=
   ⟨_,k,c1,rfl,by have:=hO2.len;rw[List.length_map]at this;exact this.symm,hO2.slAt,hb01H.out.grown hg2 hb01H.out.size (fun b hb=>by injection hb with hb;omega)⟩
  clear hO2 hg2 hk;have RH:=Lib.hid R;clear R;go_wp2;go_ret;exact RH.out
end Go.Proofs.YtbnkoefljcekbaaGreatDoor.C9