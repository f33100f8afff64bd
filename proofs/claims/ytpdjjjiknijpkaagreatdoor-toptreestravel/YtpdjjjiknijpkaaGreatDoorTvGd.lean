/-
 Several texts of mine as one, without what is not wanted here: XStab, XTake, XSwpV, XRotV, XAp1, XAps.
-/
import Derived.Test.YtpdjjjiknijpkaaGreatDoorTvGb
import Derived.Deep.AppendLies
import Derived.Lib.AppendStr
import Derived.Lib.Strings
set_option linter.unusedVariables false
set_option linter.unusedSimpArgs false
set_option maxRecDepth 100000
set_option maxHeartbeats 8000000
namespace Go.Proofs.YtpdjjjiknijpkaaGreatDoor
section
variable {α:Type} (f:α→Int)
def SortedBy (l:List α):Prop:=l.Pairwise fun x y=>f x≤f y
def cls (v:Int) (l:List α):List α:=l.filter fun x=>f x==v
def SameCls (l m:List α):Prop:=∀ v,cls f v l=cls f v m
variable {f}
theorem SameCls.refl (l:List α):SameCls f l l:=fun _=>rfl
theorem SameCls.symm {l m:List α} (h:SameCls f l m):SameCls f m l:=fun v=>(h v).symm
theorem SameCls.trans {l m k:List α} (h:SameCls f l m) (h2:SameCls f m k):SameCls f l k:=fun v=>(h v).trans (h2 v)
theorem cls_app (v:Int) (l m:List α):cls f v (l++m)=cls f v l++cls f v m:=List.filter_append ..
theorem SameCls.app {a b c d:List α} (h:SameCls f a b) (h2:SameCls f c d):SameCls f (a++c) (b++d):=fun v=>by rw[cls_app,cls_app,h v,h2 v]
theorem SameCls.mem {l m:List α} (h:SameCls f l m) {x:α} (hx:x∈l):x∈m:=by
 have:x∈cls f (f x) l:=List.mem_filter.2 ⟨hx,by simp⟩;rw[h (f x)]at this;exact(List.mem_filter.1 this).1
theorem cls_nil_of {v:Int} {l:List α} (h:∀ x∈l,f x≠v):cls f v l = []:=List.filter_eq_nil_iff.2 fun x hx=>by simpa using h x hx
theorem SameCls.len {l m:List α} (h:SameCls f l m):l.length=m.length:=by
 induction l generalizing m with
 | nil =>
  cases m with
  | nil=>rfl
  | cons y r=>exact absurd (h.symm.mem List.mem_cons_self) (by simp)
 | cons x r ih =>
  obtain⟨a,b,hab⟩:=List.append_of_mem (h.mem List.mem_cons_self);have key:∃ a b,m=a++x::b∧∀ y∈a,f y≠f x:=by
   clear hab a b ih;have hc:=h (f x);have h1:cls f (f x) (x::r)=x::cls f (f x) r:=by simp[cls]
   rw[h1]at hc;clear h h1
   induction m with
   | nil=>simp[cls]at hc
   | cons y s ihs =>
    by_cases hy:f y=f x
    ·have:cls f (f x) (y::s)=y::cls f (f x) s:=by simp[cls,hy]
     rw[this]at hc;injection hc with h1 h2;subst h1;exact⟨[],s,rfl,fun z hz=>by cases hz⟩
    ·have:cls f (f x) (y::s)=cls f (f x) s:=by simp[cls,hy]
     rw[this]at hc;obtain⟨a,b,h1,h2⟩:=ihs hc;exact⟨y::a,b,by rw[h1];rfl,fun z hz=>by rcases List.mem_cons.1 hz with rfl | hz;exact hy;exact h2 z hz⟩
  obtain⟨a,b,hm,hne⟩:=key;have hr:SameCls f r (a++b):=fun v=>by
   have:=h v;rw[hm,cls_app]at this
   by_cases hv:f x=v
   ·subst hv;have h1:cls f (f x) (x::r)=x::cls f (f x) r:=by simp[cls]
    have h2:cls f (f x) (x::b)=x::cls f (f x) b:=by simp[cls]
    rw[h1,h2,cls_nil_of hne,List.nil_append]at this;injection this with _ this;rw[cls_app,cls_nil_of hne,List.nil_append];exact this
   ·have h1:cls f v (x::r)=cls f v r:=by simp[cls,hv]
    have h2:cls f v (x::b)=cls f v b:=by simp[cls,hv]
    rw[h1,h2]at this;rw[cls_app];exact this
  have:=ih hr;rw[hm,List.length_append,List.length_cons,List.length_cons,this,List.length_append];omega
theorem same_swap {a b:List α} (h:∀ x∈a,∀ y∈b,f x≠f y):SameCls f (a++b) (b++a):=fun v=>by
 rw[cls_app,cls_app]
 by_cases ha:cls f v a = []
 ·rw[ha,List.nil_append,List.append_nil]
 ·have hb:cls f v b = []:=by
   refine cls_nil_of fun y hy e=>?_;obtain⟨x,hx⟩:=List.exists_mem_of_ne_nil _ ha;have hx2:=List.mem_filter.1 hx;exact h x hx2.1 y hy (by have:=hx2.2;simp at this;omega)
  rw[hb,List.nil_append,List.append_nil]
theorem sorted_app {a b:List α} (h1:SortedBy f a) (h2:SortedBy f b) (h:∀ x∈a,∀ y∈b,f x≤f y):SortedBy f (a++b):=List.pairwise_append.2 ⟨h1,h2,h⟩
theorem sorted_left {a b:List α} (h:SortedBy f (a++b)):SortedBy f a:=(List.pairwise_append.1 h).1
theorem sorted_right {a b:List α} (h:SortedBy f (a++b)):SortedBy f b:=(List.pairwise_append.1 h).2.1
theorem sorted_cross {a b:List α} (h:SortedBy f (a++b)):∀ x∈a,∀ y∈b,f x≤f y:=(List.pairwise_append.1 h).2.2
theorem sym_step {A X Y B M1 M2:List α} (hL:SortedBy f (A++X)) (hR:SortedBy f (Y++B))
  (h1:∀ x,A.getLast? = some x→∀ y,B.head? = some y→f x≤f y) (h2:∀ x,X.head? = some x→∀ y,Y.getLast? = some y→f y<f x)
  (m1:SortedBy f M1) (m2:SortedBy f M2) (s1:SameCls f M1 (A++Y)) (s2:SameCls f M2 (X++B)):SortedBy f (M1++M2)∧SameCls f (M1++M2) ((A++X)++(Y++B)):=by
 have hA:∀ x∈A,∀ l,A.getLast? = some l→f x≤f l:=fun x hx l hl=>by
  obtain⟨i,hi⟩:∃ i,A=i ++ [l]:=List.getLast?_eq_some_iff.1 hl;rw[hi]at hx;have hs:=sorted_left hL;rw[hi]at hs
  rcases List.mem_append.1 hx with hx | hx
  ·exact sorted_cross hs x hx l (by simp)
  ·rw[List.mem_singleton.1 hx];exact Int.le_refl _
 have hY:∀ x∈Y,∀ l,Y.getLast? = some l→f x≤f l:=fun x hx l hl=>by
  obtain⟨i,hi⟩:∃ i,Y=i ++ [l]:=List.getLast?_eq_some_iff.1 hl;rw[hi]at hx;have hs:=sorted_left hR;rw[hi]at hs
  rcases List.mem_append.1 hx with hx | hx
  ·exact sorted_cross hs x hx l (by simp)
  ·rw[List.mem_singleton.1 hx];exact Int.le_refl _
 have hX:∀ x∈X,∀ l,X.head? = some l→f l≤f x:=fun x hx l hl=>by
  cases X with
  | nil=>cases hx
  | cons z r =>
   simp only[List.head?_cons,Option.some.injEq]at hl;subst hl
   rcases List.mem_cons.1 hx with rfl | hx
   ·exact Int.le_refl _
   ·exact(List.pairwise_cons.1 (sorted_right hL)).1 x hx
 have hB:∀ x∈B,∀ l,B.head? = some l→f l≤f x:=fun x hx l hl=>by
  cases B with
  | nil=>cases hx
  | cons z r =>
   simp only[List.head?_cons,Option.some.injEq]at hl;subst hl
   rcases List.mem_cons.1 hx with rfl | hx
   ·exact Int.le_refl _
   ·exact(List.pairwise_cons.1 (sorted_right hR)).1 x hx
 have AB:∀ x∈A,∀ y∈B,f x≤f y:=fun x hx y hy=>by
  obtain⟨l,hl⟩:∃ l,A.getLast? = some l:=by
   cases h:A.getLast? with
   | none=>rw[List.getLast?_eq_none_iff]at h;subst h;cases hx
   | some l=>exact⟨l,rfl⟩
  obtain⟨k,hk⟩:∃ k,B.head? = some k:=by
   cases B with
   | nil=>cases hy
   | cons z r=>exact⟨z,rfl⟩
  exact Int.le_trans (hA x hx l hl) (Int.le_trans (h1 l hl k hk) (hB y hy k hk))
 have YX:∀ x∈X,∀ y∈Y,f y<f x:=fun x hx y hy=>by
  obtain⟨l,hl⟩:∃ l,Y.getLast? = some l:=by
   cases h:Y.getLast? with
   | none=>rw[List.getLast?_eq_none_iff]at h;subst h;cases hy
   | some l=>exact⟨l,rfl⟩
  obtain⟨k,hk⟩:∃ k,X.head? = some k:=by
   cases X with
   | nil=>cases hx
   | cons z r=>exact⟨z,rfl⟩
  have:=hY y hy l hl;have:=h2 k hk l hl;have:=hX x hx k hk;omega
 refine⟨sorted_app m1 m2 fun x hx y hy=>?_,?_⟩
 ·rcases List.mem_append.1 (s1.mem hx) with a | a
  ·rcases List.mem_append.1 (s2.mem hy) with b | b
   ·exact sorted_cross hL x a y b
   ·exact AB x a y b
  ·rcases List.mem_append.1 (s2.mem hy) with b | b
   ·exact Int.le_of_lt (YX y b x a)
   ·exact sorted_cross hR x a y b
 ·have e1:SameCls f (X++Y) (Y++X):=same_swap fun x hx y hy=>by have:=YX x hx y hy;omega
  have:=(s1.app s2).trans (show SameCls f ((A++Y)++(X++B)) ((A++X)++(Y++B)) from fun v=>by
   have:=e1 v;rw[cls_app,cls_app]at this;simp only[cls_app,List.append_assoc];rw[← List.append_assoc (cls f v Y),← List.append_assoc (cls f v X),this])
  exact this
end
end Go.Proofs.YtpdjjjiknijpkaaGreatDoor
namespace Go.Proofs.YtpdjjjiknijpkaaGreatDoor
open Go.RowKit
theorem takeH {P:Program} {md:Region.Mode} {ops:Array Oper} {Q:Exit→Act→World→Prop} {S:World→Prop} {i:Nat} {d:Option Tmp} {oi:Oper} {v:Value} {fuel:Nat} {listed:Array Bool} {a:Act} {w:World} (hi:ops[i]? = some oi) (hd:oi.dst=d)
  (hs:Region.noSelect ops=true) (hf:Region.free md ops listed i=true) (hr:(Region.ready md ops listed).contains i=true)
  (hQ:∀ c a w,Q (.panic c) (a.put d v) w→Q (.panic c) a w) (hy:YieldsIf P ops S oi v a) (hS:S w)
  (h:wpAnyH P md ops Q S fuel (listed.setIfInBounds i true) (a.put d v) w):wpAnyH P md ops Q S (fuel+1) listed a w:=by
 subst hd;exact wpAnyH_take hi hs hf hr hQ hy hS h
theorem tkH {P:Program} {md:Region.Mode} {ops:Array Oper} {Q:Exit→Act→World→Prop} {S:World→Prop} {i:Nat} {d:Option Tmp} {oi:Oper} {v:Value} {fuel:Nat} {listed:Array Bool} {a:Act} {w:World}
  (hi:ops[i]? = some oi:=by rfl) (hd:oi.dst=d:=by rfl) (hs:Region.noSelect ops=true:=by kernel_rfl) (hf:Region.free md ops listed i=true:=by kernel_rfl) (hr:(Region.ready md ops listed).contains i=true:=by kernel_rfl)
  (hQ:∀ c a w,Q (.panic c) (a.put d v) w→Q (.panic c) a w:=by exact fun _ _ _ h=>h) (hy:YieldsIf P ops S oi v a) (hS:S w:=by assumption) (h:wpAnyH P md ops Q S fuel (listed.setIfInBounds i true) (a.put d v) w):wpAnyH P md ops Q S (fuel+1) listed a w :=
 takeH hi hd hs hf hr hQ hy hS h
def TK (L:List (Nat × Nat)) (p:Prop):Prop:=p
theorem tkS {p:Prop} (L:List (Nat × Nat)) (h:TK L p):p:=h
theorem tkE {p:Prop} (h:p):TK [] p:=h
theorem tkL {P:Program} {md:Region.Mode} {ops:Array Oper} {Q:Exit→Act→World→Prop} {S:World→Prop} {i dd:Nat} {L:List (Nat × Nat)} {oi:Oper} {fuel:Nat} {listed:Array Bool} {a:Act} {w:World} (v:Value)
  (hv:∀ w,S w→(execOp a.eval oi).run P w = .ok (.value v) w) (h:TK L (wpAnyH P md ops Q S fuel (listed.setIfInBounds i true) (a.put (some dd) v) w))
  (hi:ops[i]? = some oi:=by rfl) (hd:oi.dst=some dd:=by rfl) (hs:Region.noSelect ops=true:=by kernel_rfl) (hf:Region.free md ops listed i=true:=by kernel_rfl) (hr:(Region.ready md ops listed).contains i=true:=by kernel_rfl)
  (hQ:∀ c a w,Q (.panic c) (a.put (some dd) v) w→Q (.panic c) a w:=by exact fun _ _ _ h=>h) (hw:Region.wanted oi (yielded ops a.tmps)=true:=by rfl) (hS:S w:=by assumption):TK ((i,dd)::L) (wpAnyH P md ops Q S (fuel+1) listed a w) :=
 takeH hi hd hs hf hr hQ (.inl ⟨hw,hv⟩) hS h
theorem tkA {α:Type} (l:List α) (i:Nat) (x:α):l.toArray.setIfInBounds i x=(l.set i x).toArray:=List.setIfInBounds_toArray ..
theorem tkB {α:Type} (x y:α) (l:List α):(x::l).set 0 y=y::l:=List.set_cons_zero
theorem tkC {α:Type} (x y:α) (n:Nat) (l:List α):(x::l).set (n+1) y=x::l.set n y:=List.set_cons_succ
end Go.Proofs.YtpdjjjiknijpkaaGreatDoor
namespace Go.Proofs.YtpdjjjiknijpkaaGreatDoor
open Go.ChangeShapes Go.WideShapes Go.Deep Go.RowKit
structure NV where
 name:ByteArray
 ptr:Option Addr
 A:Option Addr
 n:Nat
 cap:Nat
def nv0:NV:=⟨⟨#[]⟩,none,none,0,0⟩
def RNV (C:List ByteArray):Rd NV:=⟨3,fun x=>[.string x.name,.pointer x.ptr,.slice x.A x.n x.cap],fun _ x=>x.name∈C,fun _=>0,fun _=>rfl,fun _ u h=>by simp only[List.mem_cons,List.not_mem_nil,or_false]at h;rcases h with rfl | rfl | rfl <;> rfl,fun _ _ _ _ h=>h⟩
def rkN (C:List ByteArray) (s:ByteArray):Nat:=C.countP fun m=>decide (cmpS m s = -1)
def vC (C:List ByteArray) (x:NV):Int:=- (rkN C x.name:Int)
def fI (C:List ByteArray) (x:NV):Int:=- vC C x
theorem rk_lt {C:List ByteArray} {a b:ByteArray} (ha:a∈C) (h:cmpS a b = -1):rkN C a<rkN C b:=by
 obtain⟨s,t,rfl⟩:=List.append_of_mem ha;have hm:∀ l:List ByteArray,l.countP (fun m=>decide (cmpS m a = -1))≤l.countP (fun m=>decide (cmpS m b = -1)):=fun l=>List.countP_mono_left fun x _ hx=>by
  rw[decide_eq_true_iff]at hx ⊢;exact cmpS_trans hx h
 have h1:=hm s;have h2:=hm t;have e1:(decide (cmpS a a = -1))=false:=decide_eq_false (by rw[(cmpS_zero a a).2 rfl];decide);have e2:(decide (cmpS a b = -1))=true:=decide_eq_true h;unfold rkN;rw[List.countP_append,List.countP_append,List.countP_cons,List.countP_cons,e1,e2];simp only[Bool.false_eq_true,if_false,if_true];omega
theorem rk_cmp {C:List ByteArray} {x y:NV} (hx:x.name∈C) (hy:y.name∈C):Lib.compareInt (vC C y) (vC C x)=cmpS x.name y.name:=by
 unfold vC
 rcases cmpS_range x.name y.name with e | e | e
 ·have:=rk_lt hx e;rw[e];unfold Lib.compareInt;rw[if_pos (by omega)]
 ·have h:=(cmpS_zero _ _).1 e;rw[e,h];unfold Lib.compareInt;rw[if_neg (by omega),if_neg (by omega)]
 ·have h2:cmpS y.name x.name = -1:=by rw[cmpS_swap,e]
  have:=rk_lt hy h2;rw[e];unfold Lib.compareInt;rw[if_neg (by omega),if_pos (by omega)]
structure RowV (C:List ByteArray) (w:World) (b off n:Nat) (d:List NV):Prop where
 sl:SlAt (RNV C) w (some ⟨b,off,none⟩) n d
 fz:∀ j,w.frozen? ⟨b,off+j,none⟩=false
 lt:b<w.heap.size
section
variable {C:List ByteArray}
theorem RowV.below {w w':World} {b off n:Nat} {d:List NV} (h:RowV C w b off n d) (hb:Below w.heap.size w w'):RowV C w' b off n d :=
 ⟨h.sl.below hb,fun j=>(hb.frozen (p:=⟨b,off+j,none⟩) h.lt).trans (h.fz j),Nat.lt_of_lt_of_le h.lt hb.size⟩
theorem RowV.at_ {w:World} {b off n k:Nat} {d:List NV} {x:NV} (h:RowV C w b off n d) (hx:d[k]? = some x):w.cell? ⟨b,off+k*3,none⟩=some (.string x.name)∧w.cell? ⟨b,off+k*3+1,none⟩=some (.pointer x.ptr)∧w.cell? ⟨b,off+k*3+2,none⟩=some (.slice x.A x.n x.cap):=by
 have hk:=(List.getElem?_eq_some_iff.1 hx).1;obtain⟨b',off',hA,hc⟩:=h.sl.2.1 (by have:=h.sl.1;omega);obtain⟨rfl,rfl⟩:b=b'∧off=off':=by simpa using hA
 exact⟨hc k x hx 0 _ rfl,hc k x hx 1 _ rfl,hc k x hx 2 _ rfl⟩
theorem RowV.in_ {w:World} {b off n k:Nat} {d:List NV} {x:NV} (h:RowV C w b off n d) (hx:d[k]? = some x):x.name∈C:=h.sl.2.2 x (List.mem_of_getElem? hx)
theorem RowV.put {w:World} {b off n k:Nat} {d:List NV} {x:NV} (h:RowV C w b off n d) (hk:k<n) (hx:x.name∈C):RowV C (((w.setCell ⟨b,off+k*3,none⟩ (.string x.name)).setCell ⟨b,off+k*3+1,none⟩ (.pointer x.ptr)).setCell ⟨b,off+k*3+2,none⟩ (.slice x.A x.n x.cap)) b off n (d.set k x):=by
 have hl:=h.sl.1;obtain⟨y,hy⟩:∃ y,d[k]? = some y:=⟨d[k]'(by omega),List.getElem?_eq_getElem _⟩;obtain⟨e0,e1,e2⟩:=h.at_ hy;refine⟨⟨by rw[List.length_set];exact hl,fun hn=>⟨b,off,rfl,fun i z hz j v hv=>?_⟩,fun z hz=>?_⟩,fun j=>by rw[World.frozen?_setCell,World.frozen?_setCell,World.frozen?_setCell];exact h.fz j,by simpa using h.lt⟩
 ·rw[List.getElem?_set]at hz;have o:∀ (W:World) (a c:Nat) (u:Value),c≠a→(W.setCell ⟨b,a,none⟩ u).cell? ⟨b,c,none⟩=W.cell? ⟨b,c,none⟩:=fun W a c u hne=>World.cell?_setCell_other _ _ _ _ (by intro e;exact hne (congrArg Addr.off e).symm)
  by_cases hki:k=i
  ·subst hki;rw[if_pos rfl,if_pos (by omega)]at hz;injection hz with hz;subst hz
   match j,hv with
   | 0,hv =>
    simp only[RNV,List.getElem?_cons_zero,Option.some.injEq]at hv;subst hv;show World.cell? _ ⟨b,off+k*3+0,none⟩=_;rw[Nat.add_zero,o _ _ _ _ (by omega),o _ _ _ _ (by omega)];exact World.cell?_setCell_same' _ _ _ (by rw[e0];rfl)
   | 1,hv =>
    simp only[RNV,List.getElem?_cons_succ,List.getElem?_cons_zero,Option.some.injEq]at hv;subst hv;show World.cell? _ ⟨b,off+k*3+1,none⟩=_;rw[o _ _ _ _ (by omega)];exact World.cell?_setCell_same' _ _ _ (by rw[o _ _ _ _ (by omega),e1];rfl)
   | 2,hv =>
    simp only[RNV,List.getElem?_cons_succ,List.getElem?_cons_zero,Option.some.injEq]at hv;subst hv;exact World.cell?_setCell_same' _ _ _ (by rw[o _ _ _ _ (by omega),o _ _ _ _ (by omega),e2];rfl)
   | j+3,hv=>simp[RNV]at hv
  ·rw[if_neg hki]at hz;obtain⟨f0,f1,f2⟩:=h.at_ hz
   match j,hv with
   | 0,hv =>
    simp only[RNV,List.getElem?_cons_zero,Option.some.injEq]at hv;subst hv;show World.cell? _ ⟨b,off+i*3+0,none⟩=_;rw[Nat.add_zero,o _ _ _ _ (by omega),o _ _ _ _ (by omega),o _ _ _ _ (by omega)];exact f0
   | 1,hv =>
    simp only[RNV,List.getElem?_cons_succ,List.getElem?_cons_zero,Option.some.injEq]at hv;subst hv;show World.cell? _ ⟨b,off+i*3+1,none⟩=_;rw[o _ _ _ _ (by omega),o _ _ _ _ (by omega),o _ _ _ _ (by omega)];exact f1
   | 2,hv =>
    simp only[RNV,List.getElem?_cons_succ,List.getElem?_cons_zero,Option.some.injEq]at hv;subst hv;show World.cell? _ ⟨b,off+i*3+2,none⟩=_;rw[o _ _ _ _ (by omega),o _ _ _ _ (by omega),o _ _ _ _ (by omega)];exact f2
   | j+3,hv=>simp[RNV]at hv
 ·rcases List.mem_or_eq_of_mem_set hz with hz | hz
  ·exact h.sl.2.2 z hz
  ·rw[hz];exact hx
end
def swp (d:List NV) (i j:Nat):List NV:=(d.set i (d.getD j nv0)).set j (d.getD i nv0)
theorem swp_app (P M S:List NV) (x y:NV):swp (P++x::M++y::S) P.length (P.length+1+M.length)=P++y::M++x::S:=by
 have e1:(P++x::M++y::S).getD (P.length+1+M.length) nv0=y:=by
  rw[List.getD_eq_getElem?_getD,List.getElem?_append_right (by simp;omega)];simp[show P.length+1+M.length-(P.length+(M.length+1))=0 by omega]
 have e2:(P++x::M++y::S).getD P.length nv0=x:=by
  rw[List.getD_eq_getElem?_getD,List.append_assoc,List.getElem?_append_right (Nat.le_refl _)];simp
 unfold swp;rw[e1,e2];rw[List.append_assoc,List.set_append_right _ _ (Nat.le_refl _),Nat.sub_self,List.cons_append,List.set_cons_zero,List.set_append_right _ _ (by omega)];rw[show P.length+1+M.length-P.length=M.length+1 by omega,List.set_cons_succ,List.set_append_right _ _ (Nat.le_refl _),Nat.sub_self,List.set_cons_zero];simp
def Srt (b:Nat) (w w':World):Prop:=w.grownBy w' (some b)
theorem Srt.of_below {b:Nat} {w w':World} (h:Below w.heap.size w w'):Srt b w w':=⟨h.os,h.tape,h.output,h.size,fun k hk _=>h.block k hk⟩
theorem Srt.trans {b:Nat} {w w' w'':World} (h:Srt b w w') (h2:Srt b w' w''):Srt b w w'' :=
 ⟨h2.os.trans h.os,h2.tape.trans h.tape,h2.output.trans h.output,Nat.le_trans h.size h2.size,fun k hk hne=>(h2.block k (Nat.lt_of_lt_of_le hk h.size) hne).trans (h.block k hk hne)⟩
theorem Srt.put {b o:Nat} {w:World} (u:Value):Srt b w (w.setCell ⟨b,o,none⟩ u):=grown_setc w ⟨b,o,none⟩ u
theorem Srt.drew {b:Nat} {w:World}:Srt b w w.drew:=⟨rfl,rfl,rfl,Nat.le_refl _,fun _ _ _=>rfl⟩
theorem set2_app (A M S:List NV) (x y:NV):((A++x::M++y::S).set A.length y).set (A.length+1+M.length) x=A++y::M++x::S:=by
 rw[List.append_assoc,List.set_append_right _ _ (Nat.le_refl _),Nat.sub_self,List.cons_append,List.set_cons_zero,List.set_append_right _ _ (by omega)];rw[show A.length+1+M.length-A.length=M.length+1 by omega,List.set_cons_succ,List.set_append_right _ _ (Nat.le_refl _),Nat.sub_self,List.set_cons_zero];simp
def exW (w:World) (b off i j:Nat) (x y:NV):World:=(((((w.setCell ⟨b,off+i*3,none⟩ (.string y.name)).setCell ⟨b,off+i*3+1,none⟩ (.pointer y.ptr)).setCell ⟨b,off+i*3+2,none⟩ (.slice y.A y.n y.cap)).setCell ⟨b,off+j*3,none⟩ (.string x.name)).setCell ⟨b,off+j*3+1,none⟩ (.pointer x.ptr)).setCell ⟨b,off+j*3+2,none⟩ (.slice x.A x.n x.cap)
theorem RowV.swap {C:List ByteArray} {w:World} {b off n i j:Nat} {A M S:List NV} {x y:NV} (h:RowV C w b off n (A++x::M++y::S)) (hi:A.length=i) (hj:j=i+1+M.length):RowV C (exW w b off i j x y) b off n (A++y::M++x::S):=by
 have hl:=h.sl.1;simp only[List.length_append,List.length_cons]at hl;have hx:=h.sl.2.2 x (by simp);have hy:=h.sl.2.2 y (by simp);have h1:=h.put (k:=i) (x:=y) (by omega) hy;have h2:=h1.put (k:=j) (x:=x) (by omega) hx;subst hi;subst hj;rw[set2_app]at h2;exact h2
theorem RowV.swap2 {C:List ByteArray} {w:World} {b off n i j:Nat} {A M S:List NV} {x y:NV} (h:RowV C w b off n (A++x::M++y::S)) (hi:A.length=i) (hj:j=i+1+M.length):RowV C (exW w b off j i y x) b off n (A++y::M++x::S):=by
 have hl:=h.sl.1;simp only[List.length_append,List.length_cons]at hl;have hx:=h.sl.2.2 x (by simp);have hy:=h.sl.2.2 y (by simp);have h1:=h.put (k:=j) (x:=x) (by omega) hx;have h2:=h1.put (k:=i) (x:=y) (by omega) hy;subst hi;subst hj;rw[List.set_comm _ _ (by omega),set2_app]at h2;exact h2
theorem exW_srt (w:World) (b off i j:Nat) (x y:NV):Srt b w (exW w b off i j x y):=((((Srt.put _).trans (Srt.put _)).trans (Srt.put _)).trans ((Srt.put _).trans (Srt.put _))).trans (Srt.put _)
theorem RowV.drew {C:List ByteArray} {w:World} {b off n:Nat} {d:List NV} (h:RowV C w b off n d):RowV C w.drew b off n d:=h.below ((Below.refl _ _).drew)
def SwRel (C:List ByteArray) (P L M R S:List NV) (b off n N:Nat) (w0:World) (i:Value) (wr:World):Prop :=
 ∃ k:Nat,k≤N∧i = .int .i64 k∧RowV C wr b off n (P++(R.take k++L.drop k)++M++(L.take k++R.drop k)++S)∧Srt b w0 wr
theorem swapRange_any (C:List ByteArray) (b off n cap:Nat) (P L M R S:List NV) (N a c:Nat) (g:Value) (w:World) (hP:P.length=a) (hL:L.length=N) (hR:R.length=N) (hc:c=a+N+M.length) (hn:n≤1000000000) (hrow:RowV C w b off n (P++L++M++R++S)) :
  Calls Tryz.prog 174 #[.slice (some ⟨b,off,none⟩) n cap,.int .i64 a,.int .i64 c,.int .i64 N,g] w fun e w'=>e = .returned (.tuple #[])∧RowV C w' b off n (P++R++M++L++S)∧Srt b w w':=by
 have hlen:=hrow.sl.1;simp only[List.length_append]at hlen;have hcn:c+N≤n:=by omega
 obtain⟨hrowH,hlenH,hPH,hLH,hRH,hcH⟩:=hq2 hrow (hqb hlen hP hL hR (Lib.hid hc));clear hrow hlen hP hL hR hc;go_enter Tryz.func174,Tryz.ntmps174;go_wp2_with fail
 go_loopw [10] (fun i wr=>SwRel C P L M R S b off n N w i wr) (fun i _=>N-(intOf i).toNat)
 case atStart=>exact⟨0,Nat.zero_le _,rfl,by simpa using hrowH.out,World.grownBy.refl _ _⟩
 case round =>
  obtain⟨k,hk,rfl,hrw,hs⟩:=hrel
  by_cases hlt:k<N
  ·obtain⟨x,hx⟩:∃ x,L[k]? = some x:=⟨L[k]'(by have:=hLH.out;omega),List.getElem?_eq_getElem _⟩;obtain⟨y,hy⟩:∃ y,R[k]? = some y:=⟨R[k]'(by have:=hRH.out;omega),List.getElem?_eq_getElem _⟩;have hac:a+N≤c:=by have:=hcH.out;omega
   have hd:P++(R.take k++L.drop k)++M++(L.take k++R.drop k)++S=(P++R.take k)++x::(L.drop (k+1)++M++L.take k)++y::(R.drop (k+1)++S):=by
    rw[drop_cons hx,drop_cons hy];simp
   have hd2:P++(R.take (k+1)++L.drop (k+1))++M++(L.take (k+1)++R.drop (k+1))++S=(P++R.take k)++y::(L.drop (k+1)++M++L.take k)++x::(R.drop (k+1)++S):=by
    rw[List.take_add_one,List.take_add_one,hx,hy];simp
   rw[hd]at hrw;have hgx:((P++R.take k)++x::(L.drop (k+1)++M++L.take k)++y::(R.drop (k+1)++S))[a+k]? = some x:=by
    rw[List.append_assoc,List.getElem?_append_right (by rw[List.length_append,List.length_take];have:=hPH.out;have:=hRH.out;omega)];rw[show a+k-(P++R.take k).length=0 by rw[List.length_append,List.length_take];have:=hPH.out;have:=hRH.out;omega];rfl
   have hgy:((P++R.take k)++x::(L.drop (k+1)++M++L.take k)++y::(R.drop (k+1)++S))[c+k]? = some y:=by
    have hlq:((P++R.take k)++x::(L.drop (k+1)++M++L.take k)).length=c+k:=by
     simp only[List.length_append,List.length_cons,List.length_take,List.length_drop];have:=hPH.out;have:=hLH.out;have:=hRH.out;have:=hcH.out;omega
    rw[List.getElem?_append_right (by omega),hlq,Nat.sub_self];rfl
   obtain⟨x0,x1,x2⟩:=hrw.at_ hgx;obtain⟨y0,y1,y2⟩:=hrw.at_ hgy;have fz:=hrw.fz;have f0:=fz ((a+k)*3);have f1:=fz ((a+k)*3+1);have f2:=fz ((a+k)*3+2);have f3:=fz ((c+k)*3);have f4:=fz ((c+k)*3+1);have f5:=fz ((c+k)*3+2);rw[← Nat.add_assoc]at f1 f2 f4 f5;clear fz;obtain⟨hrwH,hsH,hxH,hyH,hdH,hd2H,hgxH,hgyH⟩:=hq2 hrw (hq2 hs (hq2 hx (hqb hy hd hd2 hgx (Lib.hid hgy))));clear hrw hs hx hy hd hd2 hgx hgy;have R1:SwRel C P L M R S b off n N w (.int .i64 ((k:Int)+1)) (exW wr b off (a+k) (c+k) x y).drew:=by
    refine⟨k+1,by omega,by go_num,?_,(hsH.out.trans (exW_srt _ _ _ _ _ _ _)).trans Srt.drew⟩;rw[hd2H.out];exact(hrwH.out.swap (by rw[List.length_append,List.length_take];have:=hPH.out;have:=hRH.out;omega) (by simp only[List.length_append,List.length_take,List.length_drop];have:=hLH.out;have:=hcH.out;omega)).drew
   unfold exW at R1;have R1H:=Lib.hid R1;clear R1;go_wp2_with fail
   go_region
   go_wp2;refine⟨?rel,?measure⟩
   case measure=>(simp[intOf];omega)
   case rel=>first | exact R1H.out | exact⟨rfl,R1H.out⟩
  ·have hkN:k=N:=by omega
   have e:P++(R.take k++L.drop k)++M++(L.take k++R.drop k)++S=P++R++M++L++S:=by
    have t1:R.take k=R:=List.take_of_length_le (by have:=hRH.out;omega);have t2:L.take k=L:=List.take_of_length_le (by have:=hLH.out;omega);have t3:R.drop k = []:=List.drop_eq_nil_of_le (by have:=hRH.out;omega);have t4:L.drop k = []:=List.drop_eq_nil_of_le (by have:=hLH.out;omega);rw[t1,t2,t3,t4];simp
   rw[e]at hrw;obtain⟨hrwH,hsH,eH⟩:=hq2 hrw (hq2 hs (Lib.hid e));clear hrw hs e;go_wp2
   go_end0
   exact⟨rfl,hrwH.out,hsH.out⟩
def RtRel (C:List ByteArray) (T:List NV) (b off n m:Nat) (w0:World) (vi vj:Value) (wr:World):Prop :=
 ∃ (i j:Nat) (A L R B:List NV),vi = .int .i64 i∧vj = .int .i64 j∧1≤i∧1≤j∧i≤m∧L.length=i∧R.length=j∧A.length=m-i∧RowV C wr b off n (A++L++R++B)∧A++R++L++B=T∧Srt b w0 wr
theorem rotate_any (C:List ByteArray) (b off n cap:Nat) (P X Y S:List NV) (a m e:Nat) (g:Value) (w:World) (hP:P.length=a) (hm:m=a+X.length) (he:e=m+Y.length) (hX:1≤X.length) (hY:1≤Y.length) (hn:n≤1000000000) (hrow:RowV C w b off n (P++X++Y++S)) :
  Calls Tryz.prog 165 #[.slice (some ⟨b,off,none⟩) n cap,.int .i64 a,.int .i64 m,.int .i64 e,g] w fun e w'=>e = .returned (.tuple #[])∧RowV C w' b off n (P++Y++X++S)∧Srt b w w':=by
 have hlen:=hrow.sl.1;simp only[List.length_append]at hlen;have hen:e≤n:=by omega
 have i0:(m:Int)-(a:Int)=((m-a:Nat):Int):=by omega
 have j0:(e:Int)-(m:Int)=((e-m:Nat):Int):=by omega
 obtain⟨T,hT⟩:∃ T,P++Y++X++S=T:=⟨_,rfl⟩;have hstart:RtRel C T b off n m w (.int .i64 ((m-a:Nat):Int)) (.int .i64 ((e-m:Nat):Int)) w:=⟨m-a,e-m,P,X,Y,S,rfl,rfl,by omega,by omega,by omega,by omega,by omega,by omega,hrow,hT,World.grownBy.refl _ _⟩;have ham:a≤m:=by omega
 have hme:m≤e:=by omega
 rw[hT];obtain⟨hrowH,hlenH,hPH,hXH,hYH,hTH,hstartH,hmH,heH,i0H,j0H⟩:=hq2 hrow (hq2 hlen (hqc hP hX hY hT hstart hm he i0 (Lib.hid j0)));clear hrow hlen hP hX hY hT hstart hm he i0 j0;go_enter Tryz.func165,Tryz.ntmps165;go_wp2_with fail
 go_loopw [10,11] (fun vi vj wr=>RtRel C T b off n m w vi vj wr) (fun vi vj _=>(intOf vi).toNat+(intOf vj).toNat)
 case atStart =>
  have:=hstartH.out;rw[← i0H.out,← j0H.out]at this;exact this
 case round =>
  clear hstartH i0H j0H;obtain⟨i,j,A,L,R,B,rfl,rfl,hi1,hj1,him,hL,hR,hA,hrw,hTT,hs⟩:=hrel;have hl2:=hrw.sl.1;simp only[List.length_append]at hl2;have hmj:m+j≤n:=by omega
  rcases Nat.lt_trichotomy i j with hlt | heq | hgt
  ·have hne:((i:Int) != (j:Int))=true:=by simp;omega
   have hne2:¬ (i:Int)=(j:Int):=by omega
   have hg:¬ (j:Int)<(i:Int):=by omega
   have hb:=swapRange_any C b off n cap A L (R.take (j-i)) (R.drop (j-i)) B i (m-i) (m+j-i) g wr hA hL (by rw[List.length_drop];omega) (by rw[List.length_take];omega) hn (by simpa using hrw);have c1:(m:Int)-(i:Int)=((m-i:Nat):Int):=by omega
   have c2:(m:Int)+(j:Int)-(i:Int)=((m+j-i:Nat):Int):=by omega
   have R1:∀ w',RowV C w' b off n (A++R.drop (j-i)++R.take (j-i)++L++B)→Srt b wr w'→RtRel C T b off n m w (.int .i64 (i:Int)) (.int .i64 ((j:Int)-(i:Int))) w':=fun w' h1 h2=>by
    refine⟨i,j-i,A,R.drop (j-i),R.take (j-i),L++B,rfl,by go_num,hi1,by omega,him,by rw[List.length_drop];omega,by rw[List.length_take];omega,hA,by simpa using h1,?_,hs.trans h2⟩;rw[← hTT,List.append_assoc A,List.take_append_drop];simp
   obtain⟨hLH,hRH,hAH,hrwH,hTTH,hsH,hl2H,hbH,R1H,c1H,c2H⟩:=hq2 hL (hq2 hR (hqc hA hrw hTT hs hl2 hb R1 c1 (Lib.hid c2)));clear hL hR hA hrw hTT hs hl2 hb R1 c1 c2;go_wp2_with fail;rw[c1H.out,c2H.out];refine hbH.out.mono ?_;rintro e w1 ⟨rfl,hr1,hs1⟩;have R2:=R1H.out w1 hr1 hs1;clear hr1 hs1;have R2H:=Lib.hid R2;clear R2;go_wp2;refine⟨?rel,?measure⟩
   case measure=>(simp[intOf];omega)
   case rel=>first | exact R2H.out | exact⟨rfl,R2H.out⟩
  ·subst heq;have hne:((i:Int) != (i:Int))=false:=by simp
   have hb:=swapRange_any C b off n cap A L [] R B i (m-i) m g wr hA hL hR (by simp;omega) hn (by simpa using hrw);have c1:(m:Int)-(i:Int)=((m-i:Nat):Int):=by omega
   rw[show A++R ++ []++L++B=T by rw[← hTT];simp]at hb;obtain⟨hLH,hRH,hAH,hrwH,hTTH,hsH,hl2H,hbH,c1H⟩:=hqc hL hR hA hrw hTT hs hl2 hb (Lib.hid c1);clear hL hR hA hrw hTT hs hl2 hb c1;go_wp2_with fail;rw[c1H.out];refine hbH.out.mono ?_;rintro e w1 ⟨rfl,hr1,hs1⟩;have hs2:=hsH.out.trans hs1;clear hs1;obtain⟨hr1H,hs2H⟩:=hq2 hr1 (Lib.hid hs2);clear hr1 hs2;go_wp2
   go_end0
   exact⟨rfl,hr1H.out,hs2H.out⟩
  ·have hne:((i:Int) != (j:Int))=true:=by simp;omega
   have hne2:¬ (i:Int)=(j:Int):=by omega
   have hg:(j:Int)<(i:Int):=by omega
   have hb:=swapRange_any C b off n cap A (L.take j) (L.drop j) R B j (m-i) m g wr hA (by rw[List.length_take];omega) hR (by rw[List.length_drop];omega) hn (by rw[List.append_assoc A,List.take_append_drop];simpa using hrw);have c1:(m:Int)-(i:Int)=((m-i:Nat):Int):=by omega
   have R1:∀ w',RowV C w' b off n (A++R++L.drop j++L.take j++B)→Srt b wr w'→RtRel C T b off n m w (.int .i64 ((i:Int)-(j:Int))) (.int .i64 (j:Int)) w':=fun w' h1 h2=>by
    refine⟨i-j,j,A++R,L.drop j,L.take j,B,by go_num,rfl,by omega,hj1,by omega,by rw[List.length_drop];omega,by rw[List.length_take];omega,by rw[List.length_append];omega,h1,?_,hs.trans h2⟩;rw[← hTT,List.append_assoc (A++R),List.take_append_drop]
   obtain⟨hLH,hRH,hAH,hrwH,hTTH,hsH,hl2H,hbH,R1H,c1H⟩:=hq2 hL (hqc hR hA hrw hTT hs hl2 hb R1 (Lib.hid c1));clear hL hR hA hrw hTT hs hl2 hb R1 c1;go_wp2_with fail;rw[c1H.out];refine hbH.out.mono ?_;rintro e w1 ⟨rfl,hr1,hs1⟩;have R2:=R1H.out w1 hr1 hs1;clear hr1 hs1;have R2H:=Lib.hid R2;clear R2;go_wp2;refine⟨?rel,?measure⟩
   case measure=>(simp[intOf];omega)
   case rel=>first | exact R2H.out | exact⟨rfl,R2H.out⟩
section
variable {α:Type} {R:Rd α} {e:TypeId} {w:World} {base:Nat} {v:Value} {l:List α} {P:Program}
theorem step_app1g {ops:Array Oper} {o:Oper} {a:Act} {K:Act→World→Prop} {Q:Exit→Act→World→Prop} {E:Prop} (hgd:o.guard=none) (s x:Operand) (t:TypeId)
  (ho:o.op = .call { callee:=.builtin .append,args:=#[s,x],argTypes:=#[t,t] })
  {bytes:Nat} (ht:P.underlying t=some (.slice e)) (hE:Elem P e R.size bytes) (hsz:0<R.size)
  (hs:a.eval s=v) (hown:Own R e w base v l) (g:Nat) (y:α) (hx:a.eval x = .slice (some ⟨g,0,none⟩) 1 1) (hy:SlAt R w (some ⟨g,0,none⟩) 1 [y])
  (hok:∀ w',w.grownBy w' v.ownBlock→∀ z,z∈l ++ [y]→R.ok w z→R.ok w' z)
  (h63:l.length+1≤maxLen) (hbytes:(l.length+1)*bytes≤140737488355328) (hbase:base≤w.heap.size) (N:Nat) (hN:l.length+1=N)
  (h:∀ A' c' w',Own R e w' base (.slice A' N c') (l ++ [y])→w.grownBy w' v.ownBlock→(∀ g,(Value.slice A' N c').ownBlock=some g→v.ownBlock=some g∨w.heap.size≤g)→K (a.put o.dst (.slice A' N c')) w') :
  if Region.wanted o (yielded ops a.tmps)=true then Oper.wp P o a w K Q else E:=by
 subst hN;obtain⟨i,z,hi,hz,hz1,hz2,hz3⟩:=hE;have hnews:∀ j u,(R.vals y)[j]? = some u→w.cell? ((⟨g,0,none⟩:Addr).add j)=some u:=fun j u hu=>by
  obtain⟨b,off,hA,hc⟩:=hy.2.1 (by omega);obtain⟨rfl,rfl⟩:g=b∧0=off:=by simpa using hA
  have:=hc 0 y rfl j u hu;rw[Addr.add_lit]
  simpa using this
 refine step_append_lies w hgd s x t ho base e i z R.size bytes ht hi hz hz1 hz2 hz3 hsz v l.length (l.flatMap R.vals) hs hown.1 ⟨g,0,none⟩ 1 1 (R.vals y) hx (by rw[R.len];omega) hnews
  (fun u hu=>R.one y u hu) (by omega) (by omega) hbytes hbase w.heap.size rfl ?_
 intro g' cap w' h3 hg hat _;refine h _ _ w' ⟨?_,fun q hq=>?_⟩ hg (fun b hb=>?_)
 ·rw[List.length_append,List.length_singleton,List.flatMap_append]
  simpa using h3
 ·rcases List.mem_append.1 hq with hq' | hq'
  ·exact hok w' hg q hq (hown.2 q hq')
  ·exact hok w' hg q hq (hy.2.2 q hq')
 ·have:g'=b:=by simpa[Value.ownBlock]using hb
  subst this
  rcases hat with h4 | h4
  ·exact .inl h4
  ·exact .inr (by omega)
end
section
variable {w:World} {base:Nat} {v:Value} {l:List UInt8}
theorem strCells_vals (s:ByteArray):Lib.strCells s=s.data.toList.flatMap RU8.vals:=by
 unfold Lib.strCells;show s.data.toList.map _=_
 generalize s.data.toList=r
 induction r with
 | nil=>rfl
 | cons x r ih=>rw[List.map_cons,ih];rfl
theorem run_app_s (ty:TypeId) (hown:Own RU8 5 w base v l) (s:ByteArray) (hb:l.length+s.size≤140737488355328) (hbase:base≤w.heap.size) :
  ∃ A' c' w',(Builtin.append_ #[39,9] ty #[v,.string s]).run Tryz.prog w = .ok (.slice A' (l.length+s.size) c') w'∧Own RU8 5 w' base (.slice A' (l.length+s.size) c') (l++s.data.toList) ∧
   w.grownBy w' v.ownBlock∧(∀ b,(Value.slice A' (l.length+s.size) c').ownBlock=some b→v.ownBlock=some b∨w.heap.size≤b):=by
 obtain⟨i,z,hi,hz,hz1,hz2,hz3⟩:∃ i z,Tryz.prog.info? 5 = some i∧i.zero=some z∧i.size=1∧i.bytes=1∧z = .int .u8 0:=by
  obtain⟨i,h1,h2,h3,h4⟩:=info_parts (z:=.int .u8 0) (size:=1) (bytes:=1) (show (Tryz.prog.info? 5).map (fun i=>(i.zero,i.size,i.bytes))=some (some (.int .u8 0),1,1) by kernel_rfl);exact⟨i,_,h1,h2,h3,h4,rfl⟩
 subst hz3;have ht:=Tryz.underlying39;have hu:=Tryz.underlying9;have hm:l.length+s.size≤maxLen:=by unfold maxLen;omega
 obtain⟨v',w',hr,ho,hg,hnil⟩:=Lib.run_append_own_string (P:=Tryz.prog) w base 39 9 ty 5 i ht hu hi hz hz1 hz2 v l.length (l.flatMap RU8.vals) hown.1 s hm hb hbase;rw[strCells_vals,← List.flatMap_append]at ho;have hlen:(l++s.data.toList).length=l.length+s.size:=by rw[List.length_append,← Lib.size_eq]
 have hown':Own RU8 5 w' base v' (l++s.data.toList):=⟨by rw[hlen];exact ho,fun x _=>trivial⟩;obtain⟨A',c',hv'⟩:=hown'.form;rw[hlen]at hv';subst hv';refine⟨A',c',w',hr,hown',hg,fun b hb'=>?_⟩
 rcases hown.1.2 with ⟨rfl,hl0⟩ | ⟨g,cap,cur,rfl,hbg,hgg,hnc,hcm,hcs,htake⟩
 ·have hl0:l.length=0:=hl0
  rcases Nat.eq_zero_or_pos s.size with h0 | h0
  ·have:=hnil.2 ⟨rfl,h0⟩;rw[this]at hb'
   cases hb'
  ·have hr2:=run_append_nil_string (P:=Tryz.prog) w 39 9 ty 5 i (.int .u8 0) ht hu hi hz s h0 (by omega) (by rw[hz2];omega);rw[hr2]at hr;injection hr with h1 h2;injection h1 with h3 _ _;subst h3;exact .inr (by injection hb' with hb';exact Nat.le_of_eq hb')
 ·rcases Nat.lt_or_ge cap (l.length+s.size) with hroom | hroom
  ·have hr2:=Lib.run_append_grow_string (P:=Tryz.prog) w 39 9 ty 5 i (.int .u8 0) ht hu hi hz ⟨g,0,none⟩ l.length cap (l.flatMap RU8.vals) (by rw[hz1];exact hown.1.1) (hown.1.cells (g:=g) rfl) s hroom (by omega) (by rw[hz2];exact growslice_fits (by omega) (by omega));rw[hr2]at hr;injection hr with h1 h2;injection h1 with h3 _ _;subst h3;exact .inr (by injection hb' with hb';exact Nat.le_of_eq hb')
  ·have hcs':cur.size=cap:=by simpa[RU8]using hcs
   have hr2:=Lib.run_append_room_string (P:=Tryz.prog) w 39 9 ty 5 i ht hu hi hz1 g l.length cap cur hgg s hroom (by omega);rw[hr2]at hr;injection hr with h1 h2;injection h1 with h3 _ _;subst h3;exact .inl hb'
theorem step_app_s {ops:Array Oper} {o:Oper} {a:Act} {K:Act→World→Prop} {Q:Exit→Act→World→Prop} {E:Prop} (hgd:o.guard=none) (sl x:Operand)
  (ho:o.op = .call { callee:=.builtin .append,args:=#[sl,x],argTypes:=#[39,9] }) (hs:a.eval sl=v) (hown:Own RU8 5 w base v l) (s:ByteArray) (hx:a.eval x = .string s) (hb:l.length+s.size≤140737488355328) (hbase:base≤w.heap.size) (N:Nat) (hN:l.length+s.size=N)
  (h:∀ A' c' w',Own RU8 5 w' base (.slice A' N c') (l++s.data.toList)→w.grownBy w' v.ownBlock→(∀ b,(Value.slice A' N c').ownBlock=some b→v.ownBlock=some b∨w.heap.size≤b)→K (a.put o.dst (.slice A' N c')) w') :
  if Region.wanted o (yielded ops a.tmps)=true then Oper.wp Tryz.prog o a w K Q else E:=by
 subst hN;have hw:Region.wanted o (yielded ops a.tmps)=true:=by simp[Region.wanted,hgd]
 rw[if_pos hw];obtain⟨A',c',w',hr,h2,h3,h4⟩:=run_app_s o.type hown s hb hbase;unfold Oper.wp execOp;simp only[ho,resolve,invoke,builtin,Sem.run_bind,Sem.run_pure,Result.andThen_ok,List.map_toArray,List.map_cons,List.map_nil,hs,hx,hr];exact h A' c' w' h2 h3 h4
end
end Go.Proofs.YtpdjjjiknijpkaaGreatDoor