/-
 Several texts of mine as one, without what is not wanted here: XMap, XBRow, XStab, XRws, XPl.
-/
import Derived.Test.YtbnkoefljcekbaaGreatDoorPyGa
import Derived.Maps.OwnSet
import Derived.Maps.RangeWalk
import Derived.Laws.MakeOwn
import Derived.Deep.RegionHeld3
import Derived.Deep.AppendLies
import Init
set_option linter.unusedVariables false
set_option linter.unusedSimpArgs false
set_option maxRecDepth 100000
set_option maxHeartbeats 8000000
namespace Go.Proofs.YtbnkoefljcekbaaGreatDoor
open Go.ChangeShapes Go.WideShapes Go.Deep Go.RowKit Go.Maps
structure KD (P:Program) (k:TypeId) (κ:Type) where
 val:κ→Value
 lit:κ→Lit
 good:κ→Prop
 keyed:Keyed P k
 of_:∀ x,good x→keyOf P k (val x)=some (lit x)
 inv:∀ v l,keyOf P k v=some l→∃ x,good x∧v=val x∧l=lit x
 inj:∀ x y,good x→good y→lit x=lit y→x=y
noncomputable def rdV {α:Type} (val:α→Value) (v:Value):Option (DataW α × List MemPlace) :=
 open Classical in if h:∃ a,v=val a then some (.held (Classical.choose h),[]) else none
def InjV {α:Type} (val:α→Value):Prop:=∀ a b,val a=val b→a=b
theorem rdV_of {α:Type} {val:α→Value} (hi:InjV val) (a:α):rdV val (val a)=some (.held a,[]):=by
 unfold rdV;have h:∃ a',val a=val a':=⟨a,rfl⟩;rw[dif_pos h,hi _ _ (Classical.choose_spec h).symm]
theorem rdV_inv {α:Type} {val:α→Value} {v:Value} {y:DataW α × List MemPlace} (h:rdV val v=some y):∃ a,v=val a∧y=(.held a,[]):=by
 unfold rdV at h
 split at h
 ·rename_i hx
  injection h with h;exact⟨_,Classical.choose_spec hx,h.symm⟩
 ·cases h
section
variable {P:Program} {k:TypeId} {κ α:Type}
def TMap (K:KD P k κ) (val:α→Value) (w:World) (b:Nat) (f:κ→Option α) (c:Nat):Prop :=
 ∃ D:DataW α,w.ownsMap P k (rdV val) b c D∧Maps.size D=c∧∀ x,K.good x→Maps.has D (K.lit x)=(f x).isSome∧∀ a,f x=some a→∀ zd,D.atKey (K.lit x) zd = .held a
variable {K:KD P k κ} {val:α→Value} {w w':World} {b c:Nat} {f:κ→Option α}
theorem TMap.made (w:World) (K:KD P k κ) (val:α→Value):TMap K val (w.alloc (.map #[] 0)) w.heap.size (fun _=>none) 0 :=
 ⟨.map [],World.ownsMap_made w P k (rdV val),rfl,fun x _=>⟨rfl,fun a h=>by cases h⟩⟩
theorem TMap.lt (h:TMap K val w b f c):b<w.heap.size:=by obtain⟨D,h,_⟩:=h;exact h.lt
theorem TMap.kept {row:Option Nat} (h:TMap K val w b f c) (hg:w.grownBy w' row) (hne:some b≠row):TMap K val w' b f c:=by
 obtain⟨D,h,r⟩:=h;exact⟨D,h.kept hg hne,r⟩
theorem TMap.alloc (h:TMap K val w b f c) (o:Obj):TMap K val (w.alloc o) b f c:=h.kept (World.grownBy_alloc w o none) (by simp)
theorem TMap.below {B:Nat} (h:TMap K val w b f c) (hb:Below B w w') (hlt:b<B):TMap K val w' b f c:=by
 obtain⟨D,⟨es,clock,he,r⟩,r2⟩:=h;exact⟨D,⟨es,clock,(hb.block b hlt).trans he,r⟩,r2⟩
theorem TMap.setCell (h:TMap K val w b f c) {a:Addr} (ha:b≠a.block) (u:Value):TMap K val (w.setCell a u) b f c:=by
 obtain⟨D,h,r⟩:=h;exact⟨D,h.setCell ha u,r⟩
theorem TMap.congr {f':κ→Option α} (h:TMap K val w b f c) (hf:∀ x,K.good x→f x=f' x):TMap K val w b f' c:=by
 obtain⟨D,h,hs,hv⟩:=h;exact⟨D,h,hs,fun x hx=>by rw[← hf x hx];exact hv x hx⟩
def upd [DecidableEq κ] (f:κ→Option α) (x:κ) (a:α):κ→Option α:=fun y=>if y=x then some a else f y
theorem TMap.look [DecidableEq κ] {t e:TypeId} (h:TMap K val w b f c) (ht:P.underlying t=some (.map k e)) {z0:α} (hz:(zeroValue e).run P w = .ok (val z0) w) (hi:InjV val) {x:κ} (hx:K.good x) :
  (Instr.lookup t (.map (some b)) (K.val x) false).run P w = .ok (val ((f x).getD z0)) w∧(Instr.lookup t (.map (some b)) (K.val x) true).run P w = .ok (.tuple #[val ((f x).getD z0),.bool (f x).isSome]) w:=by
 obtain⟨D,h,hs,hv⟩:=h;obtain⟨v1,v2⟩:=hv x hx;have hat:D.atKey (K.lit x) (.held z0) = .held ((f x).getD z0):=by
  cases hf:f x with
  | none =>
   rw[hf]at v1;exact Maps.atKey_of_not_has v1 _
  | some a=>exact v2 a hf _
 obtain⟨v,ps,hr,hR⟩:=h.lookup K.keyed ht hz (rdV_of hi z0) (K.of_ x hx);obtain⟨v',ps',hr',hR'⟩:=h.look_ok K.keyed ht hz (rdV_of hi z0) (K.of_ x hx);rw[hat]at hR hR';obtain⟨a,rfl,ha⟩:=rdV_inv hR;obtain⟨a',rfl,ha'⟩:=rdV_inv hR';simp only[Prod.mk.injEq,DataW.held.injEq]at ha ha';obtain⟨rfl,_⟩:=ha;obtain⟨rfl,_⟩:=ha';rw[← v1];exact⟨hr,hr'⟩
theorem TMap.store [DecidableEq κ] {t e:TypeId} (h:TMap K val w b f c) (ht:P.underlying t=some (.map k e)) (hi:InjV val) (hc:c<maxLen) {x:κ} (hx:K.good x) (a:α) :
  ∃ w',(Instr.mapUpdate t (.map (some b)) (K.val x) (val a)).run P w = .ok () w'∧TMap K val w' b (upd f x a) (if (f x).isSome then c else c+1)∧w.mapTurned w' b:=by
 obtain⟨D,h,hs,hv⟩:=h;obtain⟨w',hr,h',ht'⟩:=h.store K.keyed ht hc (K.of_ x hx) (rdV_of hi a);refine⟨w',hr,⟨D.put (K.lit x) (.held a),?_,?_,fun y hy=>?_⟩,ht'⟩
 ·obtain⟨es,clock,he,F,hsz,hD⟩:=h';refine⟨es,clock,he,F,?_,hD⟩;have e1:Maps.size (D.put (K.lit x) (.held a))=es.size:=by rw[hD];simp[Maps.size,length_sorted]
  rw[← e1,Maps.size_put (h.tidy K.keyed),(hv x hx).1,hs];exact Nat.le_refl _
 ·rw[Maps.size_put (h.tidy K.keyed),(hv x hx).1,hs]
 ·have hk:=K.keyed.key (K.of_ x hx)
  by_cases hyx:y=x
  ·subst hyx;refine⟨?_,fun a' ha' zd=>?_⟩
   ·rw[Maps.has_put_same h.isMap hk];simp[upd]
   ·rw[Maps.atKey_put_same h.isMap hk];simp[upd]at ha';rw[ha']
  ·have hne:K.lit y≠K.lit x:=fun e=>hyx (K.inj _ _ hy hx e);refine⟨?_,fun a' ha' zd=>?_⟩
   ·rw[Maps.has_put_other hne,(hv y hy).1];simp[upd,hyx]
   ·rw[Maps.atKey_put_other hne];simp[upd,hyx]at ha';exact(hv y hy).2 a' ha' zd
variable {ops:Array Oper} {rest:List Oper} {o:Oper} {a:Act} {Q:Exit→Act→World→Prop}
theorem wpList_tstore [DecidableEq κ] (hg:o.guard=none) (m x v:Operand) (t:TypeId) (hop:o.op=Op.mapUpdate t m x v) {e:TypeId} (ht:P.underlying t=some (.map k e)) (hi:InjV val)
  (hm:a.eval m = .map (some b)) (h:TMap K val w b f c) (hc:c<maxLen) (kx:κ) (hx:a.eval x=K.val kx) (hgood:K.good kx) (y:α) (hv:a.eval v=val y)
  (hK:∀ w',TMap K val w' b (upd f kx y) (if (f kx).isSome then c else c+1)→w.grownBy w' (some b)→wpList P ops Q rest (a.put o.dst undef) w'):wpList P ops Q (o::rest) a w:=by
 refine wpList_plain hg fun K' hK'=>?_;obtain⟨w',hr,h',ht'⟩:=h.store ht hi hc hgood y;unfold Oper.wp;simp[execOp,hop,hm,hx,hv,hr,Result.andThen];exact hK' _ _ (hK w' h' ht'.grown)
end
/-! ### kinds of keys -/
def KInt {P:Program} {k:TypeId} (hk:P.underlying k=some (.int .i64)):KD P k Int :=
 ⟨fun n=>.int .i64 n,fun n=>.int .i64 n,fun n=>(Lit.int .i64 n).wf=true,int_keyed hk,fun _ h=>keyOf_int_mk hk h,fun v l h=>by obtain⟨x,rfl,rfl,hw⟩:=Maps.keyOf_int_inv hk h;exact⟨x,hw,rfl,rfl⟩,fun x y _ _ h=>by injection h⟩
theorem injInt:InjV (fun n:Int=>Value.int .i64 n):=fun _ _ h=>by injection h
theorem injBool:InjV (fun b:Bool=>Value.bool b):=fun _ _ h=>by injection h
theorem ite_le_succ (p:Prop) [Decidable p] (c:Nat):(if p then c else c+1)≤c+1:=by split <;> omega
theorem grown_below {w w':World} {b B:Nat} (hg:w.grownBy w' (some b)) (hb:B≤b) (hs:B≤w.heap.size):Below B w w' :=
 (Below.refl _ _).grown hg hs fun k hk=>by cases hk;exact hb
end Go.Proofs.YtbnkoefljcekbaaGreatDoor
namespace Go.Proofs.YtbnkoefljcekbaaGreatDoor
open Go.ChangeShapes Go.WideShapes Go.Deep Go.RowKit
def BRow (w:World) (b n:Nat) (f:Nat→Bool):Prop:=∀ j,j<n→w.cell? ⟨b,j,none⟩=some (.bool (f j))∧w.frozen? ⟨b,j,none⟩=false
theorem BRow.keep {w w':World} {b n:Nat} {f:Nat→Bool} (h:BRow w b n f) (hb:b<w.heap.size→w'.heap[b]? = w.heap[b]?):BRow w' b n f:=fun j hj=>by
 have hlt:b<w.heap.size:=cell?_lt (h j hj).1;exact⟨(World.cell?_of_block (a:=⟨b,j,none⟩) (hb hlt)).trans (h j hj).1,(World.frozen?_of_block (a:=⟨b,j,none⟩) (hb hlt)).trans (h j hj).2⟩
theorem BRow.below {w w':World} {b n K:Nat} {f:Nat→Bool} (h:BRow w b n f) (hb:Below K w w') (hK:b<K):BRow w' b n f:=h.keep fun _=>hb.block b hK
theorem BRow.kept {w w':World} {b n:Nat} {f:Nat→Bool} {row:Option Nat} (h:BRow w b n f) (hg:w.grownBy w' row) (hne:some b≠row):BRow w' b n f:=h.keep fun hlt=>hg.block b hlt hne
theorem BRow.set {w:World} {b n k:Nat} {f:Nat→Bool} (h:BRow w b n f) (u:Bool):BRow (w.setCell ⟨b,k,none⟩ (.bool u)) b n (fun j=>if j=k then u else f j):=fun j hj=>by
 refine⟨?_,by rw[World.frozen?_setCell];exact(h j hj).2⟩
 by_cases e:j=k
 ·subst e;simp only[if_true];exact World.cell?_setCell_same' _ _ _ (by rw[(h j hj).1];rfl)
 ·simp only[if_neg e];rw[World.cell?_setCell_other _ _ _ _ (by simp <;> omega)];exact(h j hj).1
theorem grown_setc (w:World) (a:Addr) (u:Value):w.grownBy (w.setCell a u) (some a.block) :=
 ⟨rfl,rfl,rfl,by simp,fun k _ hne=>heap_setCell_other w a k u (fun e=>hne (by rw[e]))⟩
def madeB (n:Nat):Array Value:=madeCells (Value.bool false).cells (n*1)
theorem run_makeB (n:Nat) (hn:n≤1000000) (W:World):(Instr.makeSlice 59 (.int .i64 (n:Int)) (.int .i64 (n:Int))).run Tryz.prog W = .ok (.slice (some ⟨W.heap.size,0,none⟩) n n) (W.alloc (.cells (madeB n) 4)):=by
 obtain⟨i,z,hi,hz,hz1,hz2,hz3⟩:∃ i z,Tryz.prog.info? 4 = some i∧i.zero=some z∧i.size=1∧i.bytes=1∧z = .bool false:=by
  obtain⟨i,h1,h2,h3,h4⟩:=info_parts (z:=.bool false) (size:=1) (bytes:=1) (show (Tryz.prog.info? 4).map (fun i=>(i.zero,i.size,i.bytes))=some (some (.bool false),1,1) by kernel_rfl);exact⟨i,_,h1,h2,h3,h4,rfl⟩
 subst hz3;have:=run_make (P:=Tryz.prog) W 59 4 i (.bool false) Tryz.underlying59 hi hz .i64 .i64 (n:Int) (n:Int) (by omega) (Int.le_refl _) (by rw[hz2];omega) (by omega);rw[this,hz1];simp only[Int.toNat_natCast];rfl
theorem madeB_get (n j:Nat) (hj:j<n):(madeB n)[j]? = some (.bool false):=by
 unfold madeB madeCells;simp[Value.cells,hj,Nat.mod_one]
theorem BRow.made (w:World) (n:Nat):BRow (w.alloc (.cells (madeB n) 4)) w.heap.size n (fun _=>false):=fun j hj=>by
 refine⟨?_,?_⟩
 ·have:(w.alloc (.cells (madeB n) 4)).cell? ⟨w.heap.size,j,none⟩=(madeB n)[j]?:=by simp[go_sem]
  rw[this];exact madeB_get n j hj
 ·simp[go_sem]
end Go.Proofs.YtbnkoefljcekbaaGreatDoor
namespace Go.Proofs.YtbnkoefljcekbaaGreatDoor
section
variable {α:Type} (f:α→Int)
def SortedBy (l:List α):Prop:=l.Pairwise fun x y=>f x≤f y
def cls (v:Int) (l:List α):List α:=l.filter fun x=>f x==v
def SameCls (l m:List α):Prop:=∀ v,cls f v l=cls f v m
variable {f}
theorem SameCls.refl (l:List α):SameCls f l l:=fun _=>rfl
theorem SameCls.symm {l m:List α} (h:SameCls f l m):SameCls f m l:=fun v=>(h v).symm
theorem SameCls.trans {l m k:List α} (h:SameCls f l m) (h2:SameCls f m k):SameCls f l k:=fun v=>(h v).trans (h2 v)
theorem cls_app (v:Int) (l m:List α):cls f v (l++m)=cls f v l++cls f v m:=List.filter_append ..
theorem SameCls.app {a b c d:List α} (h:SameCls f a b) (h2:SameCls f c d):SameCls f (a++c) (b++d):=fun v=>by rw[cls_app,cls_app,h v,h2 v]
theorem SameCls.mem {l m:List α} (h:SameCls f l m) {x:α} (hx:x∈l):x∈m:=by
 have:x∈cls f (f x) l:=List.mem_filter.2 ⟨hx,by simp⟩;rw[h (f x)]at this;exact(List.mem_filter.1 this).1
theorem cls_nil_of {v:Int} {l:List α} (h:∀ x∈l,f x≠v):cls f v l = []:=List.filter_eq_nil_iff.2 fun x hx=>by simpa using h x hx
theorem SameCls.len {l m:List α} (h:SameCls f l m):l.length=m.length:=by
 induction l generalizing m with
 | nil =>
  cases m with
  | nil=>rfl
  | cons y r=>exact absurd (h.symm.mem List.mem_cons_self) (by simp)
 | cons x r ih =>
  obtain⟨a,b,hab⟩:=List.append_of_mem (h.mem List.mem_cons_self);have key:∃ a b,m=a++x::b∧∀ y∈a,f y≠f x:=by
   clear hab a b ih;have hc:=h (f x);have h1:cls f (f x) (x::r)=x::cls f (f x) r:=by simp[cls]
   rw[h1]at hc;clear h h1
   induction m with
   | nil=>simp[cls]at hc
   | cons y s ihs =>
    by_cases hy:f y=f x
    ·have:cls f (f x) (y::s)=y::cls f (f x) s:=by simp[cls,hy]
     rw[this]at hc;injection hc with h1 h2;subst h1;exact⟨[],s,rfl,fun z hz=>by cases hz⟩
    ·have:cls f (f x) (y::s)=cls f (f x) s:=by simp[cls,hy]
     rw[this]at hc;obtain⟨a,b,h1,h2⟩:=ihs hc;exact⟨y::a,b,by rw[h1];rfl,fun z hz=>by rcases List.mem_cons.1 hz with rfl | hz;exact hy;exact h2 z hz⟩
  obtain⟨a,b,hm,hne⟩:=key;have hr:SameCls f r (a++b):=fun v=>by
   have:=h v;rw[hm,cls_app]at this
   by_cases hv:f x=v
   ·subst hv;have h1:cls f (f x) (x::r)=x::cls f (f x) r:=by simp[cls]
    have h2:cls f (f x) (x::b)=x::cls f (f x) b:=by simp[cls]
    rw[h1,h2,cls_nil_of hne,List.nil_append]at this;injection this with _ this;rw[cls_app,cls_nil_of hne,List.nil_append];exact this
   ·have h1:cls f v (x::r)=cls f v r:=by simp[cls,hv]
    have h2:cls f v (x::b)=cls f v b:=by simp[cls,hv]
    rw[h1,h2]at this;rw[cls_app];exact this
  have:=ih hr;rw[hm,List.length_append,List.length_cons,List.length_cons,this,List.length_append];omega
theorem sorted_uniq:∀ {l m:List α},SortedBy f l→SortedBy f m→SameCls f l m→l=m
 | [],m,_,_,h=>by
  cases m with
  | nil=>rfl
  | cons y r=>exact absurd (h.symm.mem List.mem_cons_self) (by simp)
 | x::r,[],_,_,h=>absurd (h.mem List.mem_cons_self) (by simp)
 | x::r,y::s,h1,h2,h=>by
  have a1:=List.pairwise_cons.1 h1;have a2:=List.pairwise_cons.1 h2;have e1:f y≤f x:=by
   rcases List.mem_cons.1 (h.mem List.mem_cons_self) with e | e
   ·rw[e];exact Int.le_refl _
   ·exact a2.1 x e
  have e2:f x≤f y:=by
   rcases List.mem_cons.1 (h.symm.mem List.mem_cons_self) with e | e
   ·rw[e];exact Int.le_refl _
   ·exact a1.1 y e
  have e3:f y=f x:=Int.le_antisymm e1 e2;have hv:=h (f x);have c1:cls f (f x) (x::r)=x::cls f (f x) r:=by simp[cls]
  have c2:cls f (f x) (y::s)=y::cls f (f x) s:=by simp[cls,e3]
  rw[c1,c2]at hv;injection hv with hxy hv;subst hxy
  congr 1
  refine sorted_uniq a1.2 a2.2 fun v=>?_
  by_cases e:f x=v
  ·subst e;exact hv
  ·have:=h v;have c3:cls f v (x::r)=cls f v r:=by simp[cls,e]
   have c4:cls f v (x::s)=cls f v s:=by simp[cls,e]
   rwa [c3,c4]at this
theorem same_swap {a b:List α} (h:∀ x∈a,∀ y∈b,f x≠f y):SameCls f (a++b) (b++a):=fun v=>by
 rw[cls_app,cls_app]
 by_cases ha:cls f v a = []
 ·rw[ha,List.nil_append,List.append_nil]
 ·have hb:cls f v b = []:=by
   refine cls_nil_of fun y hy e=>?_;obtain⟨x,hx⟩:=List.exists_mem_of_ne_nil _ ha;have hx2:=List.mem_filter.1 hx;exact h x hx2.1 y hy (by have:=hx2.2;simp at this;omega)
  rw[hb,List.nil_append,List.append_nil]
theorem sorted_app {a b:List α} (h1:SortedBy f a) (h2:SortedBy f b) (h:∀ x∈a,∀ y∈b,f x≤f y):SortedBy f (a++b):=List.pairwise_append.2 ⟨h1,h2,h⟩
theorem sorted_left {a b:List α} (h:SortedBy f (a++b)):SortedBy f a:=(List.pairwise_append.1 h).1
theorem sorted_right {a b:List α} (h:SortedBy f (a++b)):SortedBy f b:=(List.pairwise_append.1 h).2.1
theorem sorted_cross {a b:List α} (h:SortedBy f (a++b)):∀ x∈a,∀ y∈b,f x≤f y:=(List.pairwise_append.1 h).2.2
theorem sym_step {A X Y B M1 M2:List α} (hL:SortedBy f (A++X)) (hR:SortedBy f (Y++B))
  (h1:∀ x,A.getLast? = some x→∀ y,B.head? = some y→f x≤f y) (h2:∀ x,X.head? = some x→∀ y,Y.getLast? = some y→f y<f x)
  (m1:SortedBy f M1) (m2:SortedBy f M2) (s1:SameCls f M1 (A++Y)) (s2:SameCls f M2 (X++B)):SortedBy f (M1++M2)∧SameCls f (M1++M2) ((A++X)++(Y++B)):=by
 have hA:∀ x∈A,∀ l,A.getLast? = some l→f x≤f l:=fun x hx l hl=>by
  obtain⟨i,hi⟩:∃ i,A=i ++ [l]:=List.getLast?_eq_some_iff.1 hl;rw[hi]at hx;have hs:=sorted_left hL;rw[hi]at hs
  rcases List.mem_append.1 hx with hx | hx
  ·exact sorted_cross hs x hx l (by simp)
  ·rw[List.mem_singleton.1 hx];exact Int.le_refl _
 have hY:∀ x∈Y,∀ l,Y.getLast? = some l→f x≤f l:=fun x hx l hl=>by
  obtain⟨i,hi⟩:∃ i,Y=i ++ [l]:=List.getLast?_eq_some_iff.1 hl;rw[hi]at hx;have hs:=sorted_left hR;rw[hi]at hs
  rcases List.mem_append.1 hx with hx | hx
  ·exact sorted_cross hs x hx l (by simp)
  ·rw[List.mem_singleton.1 hx];exact Int.le_refl _
 have hX:∀ x∈X,∀ l,X.head? = some l→f l≤f x:=fun x hx l hl=>by
  cases X with
  | nil=>cases hx
  | cons z r =>
   simp only[List.head?_cons,Option.some.injEq]at hl;subst hl
   rcases List.mem_cons.1 hx with rfl | hx
   ·exact Int.le_refl _
   ·exact(List.pairwise_cons.1 (sorted_right hL)).1 x hx
 have hB:∀ x∈B,∀ l,B.head? = some l→f l≤f x:=fun x hx l hl=>by
  cases B with
  | nil=>cases hx
  | cons z r =>
   simp only[List.head?_cons,Option.some.injEq]at hl;subst hl
   rcases List.mem_cons.1 hx with rfl | hx
   ·exact Int.le_refl _
   ·exact(List.pairwise_cons.1 (sorted_right hR)).1 x hx
 have AB:∀ x∈A,∀ y∈B,f x≤f y:=fun x hx y hy=>by
  obtain⟨l,hl⟩:∃ l,A.getLast? = some l:=by
   cases h:A.getLast? with
   | none=>rw[List.getLast?_eq_none_iff]at h;subst h;cases hx
   | some l=>exact⟨l,rfl⟩
  obtain⟨k,hk⟩:∃ k,B.head? = some k:=by
   cases B with
   | nil=>cases hy
   | cons z r=>exact⟨z,rfl⟩
  exact Int.le_trans (hA x hx l hl) (Int.le_trans (h1 l hl k hk) (hB y hy k hk))
 have YX:∀ x∈X,∀ y∈Y,f y<f x:=fun x hx y hy=>by
  obtain⟨l,hl⟩:∃ l,Y.getLast? = some l:=by
   cases h:Y.getLast? with
   | none=>rw[List.getLast?_eq_none_iff]at h;subst h;cases hy
   | some l=>exact⟨l,rfl⟩
  obtain⟨k,hk⟩:∃ k,X.head? = some k:=by
   cases X with
   | nil=>cases hx
   | cons z r=>exact⟨z,rfl⟩
  have:=hY y hy l hl;have:=h2 k hk l hl;have:=hX x hx k hk;omega
 refine⟨sorted_app m1 m2 fun x hx y hy=>?_,?_⟩
 ·rcases List.mem_append.1 (s1.mem hx) with a | a
  ·rcases List.mem_append.1 (s2.mem hy) with b | b
   ·exact sorted_cross hL x a y b
   ·exact AB x a y b
  ·rcases List.mem_append.1 (s2.mem hy) with b | b
   ·exact Int.le_of_lt (YX y b x a)
   ·exact sorted_cross hR x a y b
 ·have e1:SameCls f (X++Y) (Y++X):=same_swap fun x hx y hy=>by have:=YX x hx y hy;omega
  have:=(s1.app s2).trans (show SameCls f ((A++Y)++(X++B)) ((A++X)++(Y++B)) from fun v=>by
   have:=e1 v;rw[cls_app,cls_app]at this;simp only[cls_app,List.append_assoc];rw[← List.append_assoc (cls f v Y),← List.append_assoc (cls f v X),this])
  exact this
end
end Go.Proofs.YtbnkoefljcekbaaGreatDoor
namespace Go.Proofs.YtbnkoefljcekbaaGreatDoor
open Go.ChangeShapes Go.WideShapes Go.Deep Go.RowKit
structure Sms (w:World) (bs n:Nat) (S:List Int):Prop where
 len:S.length=n
 cells:∀ (j:Nat) (x:Int),S[j]? = some x→w.cell? ⟨bs,j,none⟩=some (.int .i64 x)∧w.frozen? ⟨bs,j,none⟩=false
theorem Sms.keep {w w':World} {bs n:Nat} {S:List Int} (h:Sms w bs n S) (hb:w'.heap[bs]? = w.heap[bs]?):Sms w' bs n S :=
 ⟨h.len,fun j x hj=>⟨(World.cell?_of_block (a:=⟨bs,j,none⟩) hb).trans (h.cells j x hj).1,(World.frozen?_of_block (a:=⟨bs,j,none⟩) hb).trans (h.cells j x hj).2⟩⟩
theorem Sms.put {w:World} {bs n k:Nat} {S:List Int} (h:Sms w bs n S) (hk:k<n) (x:Int):Sms (w.setCell ⟨bs,k,none⟩ (.int .i64 x)) bs n (S.set k x):=by
 refine⟨by rw[List.length_set];exact h.len,fun j y hj=>?_⟩;rw[List.getElem?_set]at hj
 by_cases e:k=j
 ·subst e;rw[if_pos rfl,if_pos (by rw[h.len];exact hk)]at hj;injection hj with hj;subst hj;obtain⟨z,hz⟩:∃ z,S[k]? = some z:=⟨S[k]'(by rw[h.len];exact hk),List.getElem?_eq_getElem _⟩;obtain⟨c,f⟩:=h.cells k z hz;exact⟨World.cell?_setCell_same' _ _ _ (by rw[c];rfl),by rw[World.frozen?_setCell];exact f⟩
 ·rw[if_neg e]at hj;obtain⟨c,f⟩:=h.cells j y hj;exact⟨by rw[World.cell?_setCell_other _ _ _ _ (by simp <;> omega)];exact c,by rw[World.frozen?_setCell];exact f⟩
section
variable {α:Type} {R:Rd α} {e:TypeId} {w:World} {base:Nat} {v:Value} {l:List α} {P:Program}
theorem step_app1g {ops:Array Oper} {o:Oper} {a:Act} {K:Act→World→Prop} {Q:Exit→Act→World→Prop} {E:Prop} (hgd:o.guard=none) (s x:Operand) (t:TypeId)
  (ho:o.op = .call { callee:=.builtin .append,args:=#[s,x],argTypes:=#[t,t] })
  {bytes:Nat} (ht:P.underlying t=some (.slice e)) (hE:Elem P e R.size bytes) (hsz:0<R.size)
  (hs:a.eval s=v) (hown:Own R e w base v l) (g:Nat) (y:α) (hx:a.eval x = .slice (some ⟨g,0,none⟩) 1 1) (hy:SlAt R w (some ⟨g,0,none⟩) 1 [y])
  (hok:∀ w',w.grownBy w' v.ownBlock→∀ z,z∈l ++ [y]→R.ok w z→R.ok w' z)
  (h63:l.length+1≤maxLen) (hbytes:(l.length+1)*bytes≤140737488355328) (hbase:base≤w.heap.size) (N:Nat) (hN:l.length+1=N)
  (h:∀ A' c' w',Own R e w' base (.slice A' N c') (l ++ [y])→w.grownBy w' v.ownBlock→(∀ g,(Value.slice A' N c').ownBlock=some g→v.ownBlock=some g∨w.heap.size≤g)→K (a.put o.dst (.slice A' N c')) w') :
  if Region.wanted o (yielded ops a.tmps)=true then Oper.wp P o a w K Q else E:=by
 subst hN;obtain⟨i,z,hi,hz,hz1,hz2,hz3⟩:=hE;have hnews:∀ j u,(R.vals y)[j]? = some u→w.cell? ((⟨g,0,none⟩:Addr).add j)=some u:=fun j u hu=>by
  obtain⟨b,off,hA,hc⟩:=hy.2.1 (by omega);obtain⟨rfl,rfl⟩:g=b∧0=off:=by simpa using hA
  have:=hc 0 y rfl j u hu;rw[Addr.add_lit]
  simpa using this
 refine step_append_lies w hgd s x t ho base e i z R.size bytes ht hi hz hz1 hz2 hz3 hsz v l.length (l.flatMap R.vals) hs hown.1 ⟨g,0,none⟩ 1 1 (R.vals y) hx (by rw[R.len];omega) hnews
  (fun u hu=>R.one y u hu) (by omega) (by omega) hbytes hbase w.heap.size rfl ?_
 intro g' cap w' h3 hg hat _;refine h _ _ w' ⟨?_,fun q hq=>?_⟩ hg (fun b hb=>?_)
 ·rw[List.length_append,List.length_singleton,List.flatMap_append]
  simpa using h3
 ·rcases List.mem_append.1 hq with hq' | hq'
  ·exact hok w' hg q hq (hown.2 q hq')
  ·exact hok w' hg q hq (hy.2.2 q hq')
 ·have:g'=b:=by simpa[Value.ownBlock]using hb
  subst this
  rcases hat with h4 | h4
  ·exact .inl h4
  ·exact .inr (by omega)
end
def madeI (n:Nat):Array Value:=madeCells (Value.int .i64 0).cells (n*1)
theorem run_makeInts (n:Nat) (hn:n≤1000000) (W:World):(Instr.makeSlice 56 (.int .i64 (n:Int)) (.int .i64 (n:Int))).run Tryz.prog W = .ok (.slice (some ⟨W.heap.size,0,none⟩) n n) (W.alloc (.cells (madeI n) 3)):=by
 obtain⟨i,z,hi,hz,hz1,hz2,hz3⟩:∃ i z,Tryz.prog.info? 3 = some i∧i.zero=some z∧i.size=1∧i.bytes=8∧z = .int .i64 0:=by
  obtain⟨i,h1,h2,h3,h4⟩:=info_parts (z:=.int .i64 0) (size:=1) (bytes:=8) (show (Tryz.prog.info? 3).map (fun i=>(i.zero,i.size,i.bytes))=some (some (.int .i64 0),1,8) by kernel_rfl);exact⟨i,_,h1,h2,h3,h4,rfl⟩
 subst hz3;have:=run_make (P:=Tryz.prog) W 56 3 i (.int .i64 0) Tryz.underlying56 hi hz .i64 .i64 (n:Int) (n:Int) (by omega) (Int.le_refl _) (by rw[hz2];omega) (by omega);rw[this,hz1];simp only[Int.toNat_natCast];rfl
theorem madeI_get (n j:Nat) (hj:j<n):(madeI n)[j]? = some (.int .i64 0):=by
 unfold madeI madeCells;simp[Value.cells,hj,Nat.mod_one]
theorem Sms.made (w:World) (n:Nat):Sms (w.alloc (.cells (madeI n) 3)) w.heap.size n (List.replicate n 0):=by
 refine⟨by simp,fun j x hj=>?_⟩;have hjn:j<n:=by have:=(List.getElem?_eq_some_iff.1 hj).1;simpa using this
 have:x=0:=(List.mem_replicate.1 (List.mem_of_getElem? hj)).2;subst this;refine⟨?_,by simp[go_sem]⟩;have:(w.alloc (.cells (madeI n) 3)).cell? ⟨w.heap.size,j,none⟩=(madeI n)[j]?:=by simp[go_sem]
 rw[this];exact madeI_get n j hjn
end Go.Proofs.YtbnkoefljcekbaaGreatDoor
namespace Go.Proofs.YtbnkoefljcekbaaGreatDoor
structure RR where
 work:Nat
 worker:Nat
 from_:Int
 to_:Int
 end_:Int
deriving DecidableEq
structure FP where
 nW:Nat
 nX:Nat
 fit:Nat→Nat→Bool
 wfrom:Nat→Int
 wto:Nat→Int
 slots:Nat→Int
 speed:Nat→Int
 endAt:Nat→Nat→Int→Option Int
 secs:Nat→Nat→Int
 loss:Nat→Int→Bool
 lossAt:List Int
 tries:Int
 doubles:Bool
 order:List Nat
 after:Nat→List Nat
structure QS where
 at_:Int
 runs:List RR
 done:Nat→Bool
 lost:Nat→Int
structure PS where
 now:Int
 runs:List RR
 out:List RR
 done:Nat→Bool
 lost:Nat→Int
 last:Nat→Int
 begun:Nat→Int
def going (r:RR):Bool:=r.end_==0
def cand (F:FP) (t:Int) (r:RR):Bool:=going r&&F.endAt r.worker r.work r.from_==some t
def hasDone (F:FP) (t:Int) (R:List RR) (k:Nat):Bool:=R.any fun r=>r.work==k&&cand F t r
def isBest (F:FP) (t:Int) (R:List RR) (r:RR):Bool:=cand F t r&&R.all fun r'=>!(r'.work==r.work&&cand F t r')||decide (r.worker≤r'.worker)
def finRun (F:FP) (t:Int) (R:List RR) (r:RR):RR:=if (going r&&hasDone F t R r.work)=true then { r with to_:=t,end_:=if isBest F t R r=true then 1 else 3 } else r
def finQ (F:FP) (q:QS):QS:={ q with runs:=q.runs.map (finRun F q.at_ q.runs),done:=fun k=>q.done k||hasDone F q.at_ q.runs k }
def goes (F:FP) (k:Nat) (t:Int):Bool:=F.wto k==t||F.loss k t
def loseRun (F:FP) (t:Int) (r:RR):RR:=if (going r&&goes F r.worker t)=true then { r with to_:=t,end_:=2 } else r
def lostNow (F:FP) (t:Int) (R:List RR) (k:Nat):Nat:=R.countP fun r=>r.work==k&&(going r&&goes F r.worker t)
def loseQ (F:FP) (q:QS):QS:={ q with runs:=q.runs.map (loseRun F q.at_),lost:=fun k=>q.lost k+(lostNow F q.at_ q.runs k:Nat) }
def busy (R:List RR) (k:Nat):Nat:=R.countP fun r=>going r&&r.worker==k
def canW (F:FP) (t:Int) (R:List RR) (i:Nat) (but:Option Nat) (k:Nat):Bool :=
 !(some k==but)&&(decide (F.wfrom k≤t)&&(decide (t<F.wto k)&&(decide ((busy R k:Int)<F.slots k)&&F.fit k i)))
def bestW (ok:Nat→Bool) (sp:Nat→Int):Nat→Option Nat
 | 0=>none
 | k+1=>if ok k=true then (match bestW ok sp k with
   | none=>some k
   | some b=>if sp b<sp k then some k else some b) else bestW ok sp k
def beginR (F:FP) (t:Int) (i:Nat) (but:Option Nat) (R:List RR):List RR:=match bestW (canW F t R i but) F.speed F.nW with
 | none=>R
 | some k=>R ++ [⟨i,k,t,0,0⟩]
def readyB (F:FP) (done:Nat→Bool) (i:Nat):Bool:=(F.after i).all done
def runsAny (R:List RR) (i:Nat):Bool:=R.any fun r=>going r&&r.work==i
def canS (F:FP) (done:Nat→Bool) (lost:Nat→Int) (R:List RR) (i:Nat):Bool:=!done i&&(decide (lost i<F.tries)&&(!runsAny R i&&readyB F done i))
def strtR (F:FP) (q:QS) (R:List RR) (i:Nat):List RR:=if canS F q.done q.lost R i=true then beginR F q.at_ i none R else R
def startQ (F:FP) (q:QS):QS:={ q with runs:=F.order.foldl (strtR F q) q.runs }
def goingOf (R:List RR) (i:Nat):List RR:=R.filter fun r=>going r&&r.work==i
def late (F:FP) (r:RR):Int:=r.from_+2*F.secs r.worker r.work
def dblR (F:FP) (t:Int) (lost:Nat→Int) (R:List RR) (i:Nat):List RR:=match goingOf R i with
 | [r]=>if (decide (late F r≤t)&&decide (lost i<F.tries))=true then beginR F t i (some r.worker) R else R
 | _=>R
def dblQ (F:FP) (q:QS):QS:=if F.doubles=true then { q with runs:=(List.range F.nX).foldl (dblR F q.at_ q.lost) q.runs } else q
def stepQ (F:FP) (q:QS):QS:=dblQ F (startQ F (loseQ F (finQ F q)))
def above (t:Int):List Int→Option Int
 | []=>none
 | x::l=>match above t l with
  | none=>if t<x then some x else none
  | some m=>if t<x∧x<m then some x else some m
def candsQ (F:FP) (R:List RR):List Int :=
 ((List.range F.nW).flatMap fun k=>[F.wfrom k,F.wto k])++F.lossAt++((R.filter going).flatMap fun r=>(F.endAt r.worker r.work r.from_).toList ++ [late F r])
def nextQ (F:FP) (q:QS):Option Int:=above q.at_ (candsQ F q.runs)
inductive QTrace (F:FP):QS→QS→Prop
 | last (q:QS):nextQ F (stepQ F q)=none→QTrace F q (stepQ F q)
 | more (q:QS) (n:Int) (q':QS):nextQ F (stepQ F q)=some n→QTrace F { stepQ F q with at_:=n } q'→QTrace F q q'
/-! the program -/
def finP (F:FP) (p:PS):PS :=
 { p with runs:=p.runs.filter (fun r=>!hasDone F p.now p.runs r.work),out:=p.out++(p.runs.filter fun r=>hasDone F p.now p.runs r.work).map (finRun F p.now p.runs),done:=fun k=>p.done k||hasDone F p.now p.runs k,last:=fun k=>if hasDone F p.now p.runs k=true then p.now else p.last k }
def loseP (F:FP) (p:PS):PS :=
 { p with runs:=p.runs.filter (fun r=>!goes F r.worker p.now),out:=p.out++(p.runs.filter fun r=>goes F r.worker p.now).map (loseRun F p.now),lost:=fun k=>p.lost k+(lostNow F p.now p.runs k:Nat),last:=fun k=>if lostNow F p.now p.runs k=0 then p.last k else p.now }
def beginP (F:FP) (t:Int) (i:Nat) (but:Option Nat) (x:List RR × (Nat→Int)):List RR × (Nat→Int):=match bestW (canW F t x.1 i but) F.speed F.nW with
 | none=>x
 | some k=>(x.1 ++ [⟨i,k,t,0,0⟩],fun j=>if j=i then x.2 j+1 else x.2 j)
def startP (F:FP) (p:PS):PS :=
 let x:=(F.order.filter fun i=>canS F p.done p.lost p.runs i).foldl (fun x i=>beginP F p.now i none x) (p.runs,p.begun)
 { p with runs:=x.1,begun:=x.2 }
def dblX (F:FP) (t:Int) (lost:Nat→Int) (x:List RR × (Nat→Int)) (i:Nat):List RR × (Nat→Int):=match goingOf x.1 i with
 | [r]=>if (decide (late F r≤t)&&decide (lost i<F.tries))=true then beginP F t i (some r.worker) x else x
 | _=>x
def dblP (F:FP) (p:PS):PS :=
 if F.doubles=true then { p with runs:=((List.range F.nX).foldl (dblX F p.now p.lost) (p.runs,p.begun)).1,begun:=((List.range F.nX).foldl (dblX F p.now p.lost) (p.runs,p.begun)).2 } else p
def PStep (F:FP) (p p':PS):Prop:=∃ rs:List RR,rs.Perm p.runs∧p'=dblP F (startP F (loseP F (finP F { p with runs:=rs })))
def candsP (F:FP) (R:List RR):List Int :=
 ((List.range F.nW).map F.wfrom)++(R.flatMap fun r=>[(F.endAt r.worker r.work r.from_).getD (-1),F.wto r.worker]++(if F.doubles=true then [late F r] else []))++F.lossAt
def nextP (F:FP) (p:PS):Option Int:=above p.now (candsP F p.runs)
inductive PTrace (F:FP):PS→PS→Prop
 | last (p p':PS):PStep F p p'→nextP F p'=none→PTrace F p p'
 | more (p p1:PS) (n:Int) (p':PS):PStep F p p1→nextP F p1=some n→PTrace F { p1 with now:=n } p'→PTrace F p p'
end Go.Proofs.YtbnkoefljcekbaaGreatDoor