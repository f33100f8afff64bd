/-
 Several texts of mine as one, without what is not wanted here: XInsN, XCloneS.
-/
import Derived.Test.YtcdpdaloceengaaGreatDoorKrGb
import Derived.Shelf.Spec.SlicesInsertGrow
set_option linter.unusedVariables false
set_option linter.unusedSimpArgs false
set_option maxRecDepth 100000
set_option maxHeartbeats 8000000
namespace Go.Proofs.YtcdpdaloceengaaGreatDoor
open Go.ChangeShapes Go.WideShapes Go.Deep Go.RowKit
theorem run_copy_N {P:Program} (s:Nat) (w:World) (dT sT ty elem:TypeId) (b o dLen dCap:Nat) (a:Addr) (sLen sCap:Nat) (cs:List Value)
  (hu:P.underlying dT=some (.slice elem)) (hs:(P.info? elem).map (·.size)=some s) (m:Nat) (hm:m=Nat.min sLen dLen) (hn:cs.length=m*s)
  (hsrc:∀ j v,cs[j]? = some v→w.cell? (a.add j)=some v) (hc:∀ j,j<cs.length→(w.cell? ⟨b,o+j,none⟩).isSome=true) (hf:∀ j,j<cs.length→w.frozen? ⟨b,o+j,none⟩=false) (h1:∀ v∈cs,v.oneCell'=true) :
  (Builtin.copy_ #[dT,sT] ty #[.slice (some ⟨b,o,none⟩) dLen dCap,.slice (some a) sLen sCap]).run P w = .ok (goInt m) (w.setCells b o cs):=by
 have hl:=run_loadCells_list (P:=P) w a cs hsrc;have hst:=run_storeCells_cells (P:=P) b o cs 0 w (by simpa using hc) (by simpa using hf) h1
 cases hq:P.info? elem with
 | none=>simp[hq]at hs
 | some i =>
  have hi:i.size=s:=by simpa[hq]using hs
  rw[hn]at hl;simp[Builtin.copy_,run_underlying hu,Builtin.lenOf,Builtin.firstCells,sizeOf,typeInfo,hq,hi,← hm,hl,hst]
theorem set_take_drop (L:List Value) (o:Nat) (v:Value) (h:o<L.length) (k:Nat):(L.set o v).take (o+1)=L.take o ++ [v]∧(L.set o v).drop (o+1+k)=L.drop (o+1+k):=by
 constructor
 ·rw[List.set_eq_take_append_cons_drop,if_pos h,List.take_append,List.length_take,Nat.min_eq_left (Nat.le_of_lt h)];rw[List.take_of_length_le (by rw[List.length_take];omega),show o+1-o=1 by omega];rfl
 ·rw[List.drop_set_of_lt (by omega)]
theorem heap_setCells (g:Nat) (e:TypeId):∀ (vs:List Value) (o:Nat) (w:World) (cur:Array Value),w.heap[g]? = some (.cells cur e (0,0))→o+vs.length≤cur.size →
  ∃ cur',(w.setCells g o vs).heap[g]? = some (.cells cur' e (0,0))∧cur'.toList=cur.toList.take o++vs++cur.toList.drop (o+vs.length)
 | [],o,w,cur,h,_=>⟨cur,h,by simp⟩
 | v::r,o,w,cur,h,hl=>by
  rw[List.length_cons]at hl;have h1:=heap_setCell_same w g o cur e v h;obtain⟨cur',a,b⟩:=heap_setCells g e r (o+1) _ _ h1 (by simp;omega);refine⟨cur',a,?_⟩;rw[b,Array.toList_setIfInBounds];obtain⟨e1,e2⟩:=set_take_drop cur.toList o v (by simp;omega) r.length;rw[e1,e2,List.length_cons,show o+1+r.length=o+(r.length+1) by omega];simp
theorem grown_trans {a b c:World} {row:Option Nat} (h:a.grownBy b row) (h2:b.grownBy c row):a.grownBy c row :=
 ⟨h2.os.trans h.os,h2.tape.trans h.tape,h2.output.trans h.output,Nat.le_trans h.size h2.size,fun k hk hne=>(h2.block k (Nat.lt_of_lt_of_le hk h.size) hne).trans (h.block k hk hne)⟩
theorem grown_drew (a:World) (row:Option Nat):a.grownBy a.drew row:=⟨rfl,rfl,rfl,Nat.le_refl _,fun _ _ _=>rfl⟩
theorem grown_setCells (b:Nat):∀ (vs:List Value) (o:Nat) (w:World),w.grownBy (w.setCells b o vs) (some b)
 | [],_,w=>World.grownBy.refl _ _
 | v::r,o,w=>grown_trans (grown_setc w ⟨b,o,none⟩ v) (grown_setCells b r (o+1) _)
theorem put_up {w:World} {g:Nat} {e:TypeId} {cur:Array Value} {FX T vx FY:List Value} {o o2:Nat} (h:w.heap[g]? = some (.cells cur e (0,0))) (hc:cur.toList=FX++T) (ho:FX.length=o) (ho2:o2=o+vx.length) (hT:vx.length+FY.length≤T.length) :
  ∃ cur',((w.setCells g o2 FY).setCells g o vx).heap[g]? = some (.cells cur' e (0,0))∧cur'.size=cur.size∧cur'.toList.take (o+vx.length+FY.length)=FX++vx++FY:=by
 subst ho2;have hs:cur.size=o+T.length:=by rw[← Array.length_toList,hc,List.length_append,ho]
 obtain⟨c1,a1,b1⟩:=heap_setCells g e FY (o+vx.length) w cur h (by omega);have l1:c1.size=cur.size:=by rw[← Array.length_toList,b1];simp;omega
 obtain⟨c2,a2,b2⟩:=heap_setCells g e vx o _ c1 a1 (by omega);refine⟨c2,a2,?_,?_⟩
 ·rw[← Array.length_toList,b2];simp;omega
 ·have e1:c1.toList.take o=FX:=by
   rw[b1,hc,List.append_assoc,List.take_append_of_le_length (by simp;omega),List.take_take,Nat.min_eq_left (by omega),List.take_append_of_le_length (by omega),List.take_of_length_le (by omega)]
  have e2:c1.toList.drop (o+vx.length)=FY++cur.toList.drop (o+vx.length+FY.length):=by
   rw[b1,List.append_assoc,List.drop_append_of_le_length (by simp;omega)];rw[List.drop_of_length_le (by simp;omega),List.nil_append]
  rw[b2,e1,e2,← List.append_assoc,List.take_append_of_le_length (by simp;omega),List.take_of_length_le (by simp;omega)]
theorem put_in {w w1:World} {g:Nat} {e:TypeId} {cur:Array Value} {FX T vx FY:List Value} {o o2:Nat} (h:w.heap[g]? = some (.cells cur e (0,0))) (hc:cur.toList=FX++T) (ho:FX.length=o) (ho2:o2=o+vx.length) (hT:vx.length+FY.length≤T.length)
  (h1:w1.heap=(w.setCells g o vx).heap) :
  ∃ cur',(w1.setCells g o2 FY).heap[g]? = some (.cells cur' e (0,0))∧cur'.size=cur.size∧cur'.toList.take (o+vx.length+FY.length)=FX++vx++FY:=by
 subst ho2;have hs:cur.size=o+T.length:=by rw[← Array.length_toList,hc,List.length_append,ho]
 obtain⟨c1,a1,b1⟩:=heap_setCells g e vx o w cur h (by omega);have l1:c1.size=cur.size:=by rw[← Array.length_toList,b1];simp;omega
 rw[← h1]at a1;obtain⟨c2,a2,b2⟩:=heap_setCells g e FY (o+vx.length) _ c1 a1 (by omega);refine⟨c2,a2,?_,?_⟩
 ·rw[← Array.length_toList,b2];simp;omega
 ·have e1:c1.toList.take (o+vx.length)=FX++vx:=by
   rw[b1,List.take_append_of_le_length (by simp;omega),List.take_of_length_le (by simp;omega),hc,List.take_append_of_le_length (by omega),List.take_of_length_le (by omega)]
  rw[b2,e1,List.take_append_of_le_length (by simp;omega),List.take_of_length_le (by simp;omega)]
theorem flat_split {α:Type} (R:Rd α) (X Y:List α) (x:α):(X++x::Y).flatMap R.vals=X.flatMap R.vals++R.vals x++Y.flatMap R.vals:=by simp[List.flatMap_append,List.flatMap_cons]
theorem own_of {α:Type} {R:Rd α} {e:TypeId} {w:World} {base g cap n:Nat} {cur:Array Value} {l:List α} (hb:base≤g) (h:w.heap[g]? = some (.cells cur e (0,0))) (hl:l.length=n) (hn:n≤cap) (hc:cap≤maxLen) (hs:cur.size=cap*R.size)
  (ht:cur.toList.take (n*R.size)=l.flatMap R.vals) (hok:∀ x∈l,R.ok w x):Own R e w base (.slice (some ⟨g,0,none⟩) n cap) l:=by
 subst hl;exact⟨⟨flatMap_vals_length l,.inr ⟨g,cap,cur,rfl,hb,h,hn,hc,hs,ht⟩⟩,hok⟩
theorem own_block {α:Type} {R:Rd α} {e:TypeId} {w:World} {base n cap:Nat} {A:Option Addr} {l:List α} (h:Own R e w base (.slice A n cap) l) (hn:0<n) :
  ∃ g cur,A=some ⟨g,0,none⟩∧base≤g∧w.heap[g]? = some (.cells cur e (0,0))∧n≤cap∧cap≤maxLen∧cur.size=cap*R.size∧cur.toList.take (n*R.size)=l.flatMap R.vals:=by
 rcases h.1.2 with ⟨hv,_⟩ | ⟨g,cap',cur,hv,a,b,c,d,e1,f⟩
 ·injection hv with _ h2 _;omega
 ·injection hv with h1 h2 h3;subst h3;rw[h.len]at c f;exact⟨g,cur,h1,a,b,c,d,e1,f⟩
theorem shape_of {w:World} {g:Nat} {cs:Array Value} {e:TypeId} (h:w.heap[g]? = some (.cells cs e (0,0))):w.shape? g=some (e,cs.size):=by simp[World.shape?,h]
theorem size_of {P:Program} {e:TypeId} {i:TypeInfo} (h:P.info? e=some i) (w:World):(Go.sizeOf e).run P w = .ok i.size w:=by simp[Go.sizeOf,typeInfo,h]
end Go.Proofs.YtcdpdaloceengaaGreatDoor
namespace Go.Proofs.YtcdpdaloceengaaGreatDoor
open Go.RowKit
theorem Own.cell {α:Type} {R:Rd α} {e:TypeId} {w:World} {base:Nat} {v:Value} {l:List α} (h:Own R e w base v l) (a:Addr) (u:Value) (ha:a.block<base) (hok:∀ x∈l,R.ok w x→R.ok (w.setCell a u) x):Own R e (w.setCell a u) base v l :=
 h.kept (grown_setc w a u) (by
  cases hv:v.ownBlock with
  | none=>exact .inl rfl
  | some k=>exact .inr (by have:=(h.1.lt k hv).1;intro hc;injection hc with hc;omega)) hok
theorem vals_str (l:List ByteArray):l.flatMap RStr.vals=l.map Value.string:=by
 induction l with
 | nil=>rfl
 | cons x r ih=>rw[List.flatMap_cons,ih];rfl
theorem clone_strN (A:Option Addr) (n c:Nat) (l:List ByteArray) (w:World) (h:SlAt RStr w A n l) (hn:n≤1000000000) :
  Calls Tryz.prog 14 #[.slice A n c] w fun e w'=>∃ A' c',e = .returned (.slice A' n c')∧Own RStr 9 w' w.heap.size (.slice A' n c') l∧Below w.heap.size w w':=by
 have hz:∀ x∈l,x.size≤maxLen:=h.2.2
 cases A with
 | none =>
  have hn0:n=0:=by
   rcases Nat.eq_zero_or_pos n with h0 | h0
   ·exact h0
   ·obtain⟨_,_,h1,_⟩:=h.2.1 h0;cases h1
  subst hn0;obtain rfl:l = []:=List.eq_nil_of_length_eq_zero h.1;refine(Tryz.slices_Clone_string_nil 0 c w).mono ?_;rintro e w' ⟨rfl,rfl⟩;exact⟨none,0,rfl,Own.nil _ _,Below.refl _ _⟩
 | some a =>
  rcases Nat.eq_zero_or_pos n with h0 | h0
  ·subst h0;obtain rfl:l = []:=List.eq_nil_of_length_eq_zero h.1;refine(Tryz.slices_Clone_string_zero a c w).mono ?_;rintro e w' ⟨v,rfl,ho,_,hb⟩;have hown:Own RStr 9 w' w.heap.size v []:=⟨ho,fun x hx=>by cases hx⟩;obtain⟨A',c',rfl⟩:=hown.form;exact⟨A',c',rfl,hown,hb⟩
  ·obtain⟨b,off,hA,_⟩:=h.2.1 h0;injection hA with hA;subst hA;have hl:=h.1;refine(Tryz.slices_Clone_string b off n c l w (by omega) (by omega) (fun j hj=>?_)).mono ?_
   ·have hx:l[j]? = some (l.getD j ByteArray.empty):=by
     rw[List.getD_eq_getElem?_getD,List.getElem?_eq_getElem hj];rfl
    exact cell_Str h hx
   ·rintro e w' ⟨v,rfl,ho,_,hb⟩;rw[List.take_of_length_le (by omega),← vals_str]at ho;rw[← hl]at ho;have hown:Own RStr 9 w' w.heap.size v l:=⟨ho,hz⟩;obtain⟨A',c',rfl⟩:=hown.form;rw[hl]at hown;exact⟨A',c',by rw[hl],hown,hb⟩
end Go.Proofs.YtcdpdaloceengaaGreatDoor