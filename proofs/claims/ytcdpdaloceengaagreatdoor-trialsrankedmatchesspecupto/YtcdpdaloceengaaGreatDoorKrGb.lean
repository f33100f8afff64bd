/-
 Several texts of mine as one, without what is not wanted here: XMap, XRange, XDel, XTake, XBackT, XTailIn, XBRow.
-/
import Derived.Test.YtcdpdaloceengaaGreatDoorKrGa
import Derived.Maps.OwnSet
import Derived.Maps.RangeWalk
import Derived.Maps.Ext
import Derived.StringKeys
import Derived.Test.YtcdpdaloceengaaGreatDoorKrShelf
import Derived.Shelf.SlicesE.DeleteFunc
import Derived.Sort.OwnSortedInts
import Derived.Lib.OwnBridge
import Derived.Deep.RegionHeld3
import Derived.RangeFuncNested
import Derived.RangeFuncLeaves
import Derived.RangeFuncCalls
import Derived.RangeFuncBox
import Derived.Shelf.Abstract
import Derived.OwnWalkIn
import Derived.TacticsInMore
import Derived.LoopNIn
import Derived.LoopIn
import Derived.IntWalk
import Derived.OrdersIn
import Derived.StillTailTactics
import Derived.Laws.MakeOwn
set_option linter.unusedVariables false
set_option linter.unusedSimpArgs false
set_option maxRecDepth 100000
set_option maxHeartbeats 8000000
namespace Go.Proofs.YtcdpdaloceengaaGreatDoor
open Go.ChangeShapes Go.WideShapes Go.Deep Go.RowKit Go.Maps
structure KD (P:Program) (k:TypeId) (κ:Type) where
 val:κ→Value
 lit:κ→Lit
 good:κ→Prop
 keyed:Keyed P k
 of_:∀ x,good x→keyOf P k (val x)=some (lit x)
 inv:∀ v l,keyOf P k v=some l→∃ x,good x∧v=val x∧l=lit x
 inj:∀ x y,good x→good y→lit x=lit y→x=y
noncomputable def rdV {α:Type} (val:α→Value) (v:Value):Option (DataW α × List MemPlace) :=
 open Classical in if h:∃ a,v=val a then some (.held (Classical.choose h),[]) else none
def InjV {α:Type} (val:α→Value):Prop:=∀ a b,val a=val b→a=b
theorem rdV_of {α:Type} {val:α→Value} (hi:InjV val) (a:α):rdV val (val a)=some (.held a,[]):=by
 unfold rdV;have h:∃ a',val a=val a':=⟨a,rfl⟩;rw[dif_pos h,hi _ _ (Classical.choose_spec h).symm]
theorem rdV_inv {α:Type} {val:α→Value} {v:Value} {y:DataW α × List MemPlace} (h:rdV val v=some y):∃ a,v=val a∧y=(.held a,[]):=by
 unfold rdV at h
 split at h
 ·rename_i hx
  injection h with h;exact⟨_,Classical.choose_spec hx,h.symm⟩
 ·cases h
section
variable {P:Program} {k:TypeId} {κ α:Type}
def TMap (K:KD P k κ) (val:α→Value) (w:World) (b:Nat) (f:κ→Option α) (c:Nat):Prop :=
 ∃ D:DataW α,w.ownsMap P k (rdV val) b c D∧Maps.size D=c∧∀ x,K.good x→Maps.has D (K.lit x)=(f x).isSome∧∀ a,f x=some a→∀ zd,D.atKey (K.lit x) zd = .held a
variable {K:KD P k κ} {val:α→Value} {w w':World} {b c:Nat} {f:κ→Option α}
theorem TMap.made (w:World) (K:KD P k κ) (val:α→Value):TMap K val (w.alloc (.map #[] 0)) w.heap.size (fun _=>none) 0 :=
 ⟨.map [],World.ownsMap_made w P k (rdV val),rfl,fun x _=>⟨rfl,fun a h=>by cases h⟩⟩
theorem TMap.lt (h:TMap K val w b f c):b<w.heap.size:=by obtain⟨D,h,_⟩:=h;exact h.lt
theorem TMap.kept {row:Option Nat} (h:TMap K val w b f c) (hg:w.grownBy w' row) (hne:some b≠row):TMap K val w' b f c:=by
 obtain⟨D,h,r⟩:=h;exact⟨D,h.kept hg hne,r⟩
theorem TMap.alloc (h:TMap K val w b f c) (o:Obj):TMap K val (w.alloc o) b f c:=h.kept (World.grownBy_alloc w o none) (by simp)
theorem TMap.below {B:Nat} (h:TMap K val w b f c) (hb:Below B w w') (hlt:b<B):TMap K val w' b f c:=by
 obtain⟨D,⟨es,clock,he,r⟩,r2⟩:=h;exact⟨D,⟨es,clock,(hb.block b hlt).trans he,r⟩,r2⟩
theorem TMap.setCell (h:TMap K val w b f c) {a:Addr} (ha:b≠a.block) (u:Value):TMap K val (w.setCell a u) b f c:=by
 obtain⟨D,h,r⟩:=h;exact⟨D,h.setCell ha u,r⟩
theorem TMap.congr {f':κ→Option α} (h:TMap K val w b f c) (hf:∀ x,K.good x→f x=f' x):TMap K val w b f' c:=by
 obtain⟨D,h,hs,hv⟩:=h;exact⟨D,h,hs,fun x hx=>by rw[← hf x hx];exact hv x hx⟩
def upd [DecidableEq κ] (f:κ→Option α) (x:κ) (a:α):κ→Option α:=fun y=>if y=x then some a else f y
theorem TMap.look [DecidableEq κ] {t e:TypeId} (h:TMap K val w b f c) (ht:P.underlying t=some (.map k e)) {z0:α} (hz:(zeroValue e).run P w = .ok (val z0) w) (hi:InjV val) {x:κ} (hx:K.good x) :
  (Instr.lookup t (.map (some b)) (K.val x) false).run P w = .ok (val ((f x).getD z0)) w∧(Instr.lookup t (.map (some b)) (K.val x) true).run P w = .ok (.tuple #[val ((f x).getD z0),.bool (f x).isSome]) w:=by
 obtain⟨D,h,hs,hv⟩:=h;obtain⟨v1,v2⟩:=hv x hx;have hat:D.atKey (K.lit x) (.held z0) = .held ((f x).getD z0):=by
  cases hf:f x with
  | none =>
   rw[hf]at v1;exact Maps.atKey_of_not_has v1 _
  | some a=>exact v2 a hf _
 obtain⟨v,ps,hr,hR⟩:=h.lookup K.keyed ht hz (rdV_of hi z0) (K.of_ x hx);obtain⟨v',ps',hr',hR'⟩:=h.look_ok K.keyed ht hz (rdV_of hi z0) (K.of_ x hx);rw[hat]at hR hR';obtain⟨a,rfl,ha⟩:=rdV_inv hR;obtain⟨a',rfl,ha'⟩:=rdV_inv hR';simp only[Prod.mk.injEq,DataW.held.injEq]at ha ha';obtain⟨rfl,_⟩:=ha;obtain⟨rfl,_⟩:=ha';rw[← v1];exact⟨hr,hr'⟩
theorem TMap.store [DecidableEq κ] {t e:TypeId} (h:TMap K val w b f c) (ht:P.underlying t=some (.map k e)) (hi:InjV val) (hc:c<maxLen) {x:κ} (hx:K.good x) (a:α) :
  ∃ w',(Instr.mapUpdate t (.map (some b)) (K.val x) (val a)).run P w = .ok () w'∧TMap K val w' b (upd f x a) (if (f x).isSome then c else c+1)∧w.mapTurned w' b:=by
 obtain⟨D,h,hs,hv⟩:=h;obtain⟨w',hr,h',ht'⟩:=h.store K.keyed ht hc (K.of_ x hx) (rdV_of hi a);refine⟨w',hr,⟨D.put (K.lit x) (.held a),?_,?_,fun y hy=>?_⟩,ht'⟩
 ·obtain⟨es,clock,he,F,hsz,hD⟩:=h';refine⟨es,clock,he,F,?_,hD⟩;have e1:Maps.size (D.put (K.lit x) (.held a))=es.size:=by rw[hD];simp[Maps.size,length_sorted]
  rw[← e1,Maps.size_put (h.tidy K.keyed),(hv x hx).1,hs];exact Nat.le_refl _
 ·rw[Maps.size_put (h.tidy K.keyed),(hv x hx).1,hs]
 ·have hk:=K.keyed.key (K.of_ x hx)
  by_cases hyx:y=x
  ·subst hyx;refine⟨?_,fun a' ha' zd=>?_⟩
   ·rw[Maps.has_put_same h.isMap hk];simp[upd]
   ·rw[Maps.atKey_put_same h.isMap hk];simp[upd]at ha';rw[ha']
  ·have hne:K.lit y≠K.lit x:=fun e=>hyx (K.inj _ _ hy hx e);refine⟨?_,fun a' ha' zd=>?_⟩
   ·rw[Maps.has_put_other hne,(hv y hy).1];simp[upd,hyx]
   ·rw[Maps.atKey_put_other hne];simp[upd,hyx]at ha';exact(hv y hy).2 a' ha' zd
variable {ops:Array Oper} {rest:List Oper} {o:Oper} {a:Act} {Q:Exit→Act→World→Prop}
theorem wpList_tlook [DecidableEq κ] (hg:o.guard=none) (m x:Operand) (t:TypeId) (hop:o.op=Op.lookup t m x false) {e:TypeId} (ht:P.underlying t=some (.map k e)) (z0:α) (hz:(zeroValue e).run P w = .ok (val z0) w) (hi:InjV val)
  (hm:a.eval m = .map (some b)) (h:TMap K val w b f c) (kx:κ) (hx:a.eval x=K.val kx) (hgood:K.good kx) (hK:wpList P ops Q rest (a.put o.dst (val ((f kx).getD z0))) w):wpList P ops Q (o::rest) a w:=by
 refine wpList_plain hg fun K' hK'=>?_;have hr:=(h.look ht hz hi hgood).1;unfold Oper.wp;simp[execOp,hop,hm,hx,hr,Result.andThen];exact hK' _ _ hK
theorem wpList_tstore [DecidableEq κ] (hg:o.guard=none) (m x v:Operand) (t:TypeId) (hop:o.op=Op.mapUpdate t m x v) {e:TypeId} (ht:P.underlying t=some (.map k e)) (hi:InjV val)
  (hm:a.eval m = .map (some b)) (h:TMap K val w b f c) (hc:c<maxLen) (kx:κ) (hx:a.eval x=K.val kx) (hgood:K.good kx) (y:α) (hv:a.eval v=val y)
  (hK:∀ w',TMap K val w' b (upd f kx y) (if (f kx).isSome then c else c+1)→w.grownBy w' (some b)→wpList P ops Q rest (a.put o.dst undef) w'):wpList P ops Q (o::rest) a w:=by
 refine wpList_plain hg fun K' hK'=>?_;obtain⟨w',hr,h',ht'⟩:=h.store ht hi hc hgood y;unfold Oper.wp;simp[execOp,hop,hm,hx,hv,hr,Result.andThen];exact hK' _ _ (hK w' h' ht'.grown)
end
/-! ### kinds of keys -/
theorem ite_le_succ (p:Prop) [Decidable p] (c:Nat):(if p then c else c+1)≤c+1:=by split <;> omega
theorem grown_below {w w':World} {b B:Nat} (hg:w.grownBy w' (some b)) (hb:B≤b) (hs:B≤w.heap.size):Below B w w' :=
 (Below.refl _ _).grown hg hs fun k hk=>by cases hk;exact hb
section
variable {P:Program} {k:TypeId} {κ α:Type} {K:KD P k κ} {val:α→Value} {w w':World} {b r c cnt:Nat} {f:κ→Option α} {left:κ→Bool}
def TRange (K:KD P k κ) (val:α→Value) (w:World) (b r c:Nat) (f:κ→Option α) (left:κ→Bool) (cnt:Nat):Prop :=
 ∃ (D:DataW α) (lf:Lit→Bool),w.ranges P k (rdV val) b r c D lf cnt∧(∀ x,K.good x→Maps.has D (K.lit x)=(f x).isSome∧∀ a,f x=some a→∀ zd,D.atKey (K.lit x) zd = .held a)∧∀ x,K.good x→lf (K.lit x)=left x
theorem TRange.left_eq (h:TRange K val w b r c f left cnt):w.rangeLeft b r=cnt:=by obtain⟨_,_,h,_⟩:=h;exact h.left_eq
theorem TRange.lt (h:TRange K val w b r c f left cnt):r<w.heap.size:=by obtain⟨_,_,h,_⟩:=h;exact h.lt
theorem TRange.kept {row:Option Nat} (h:TRange K val w b r c f left cnt) (hg:w.grownBy w' row) (hb:some b≠row) (hr:some r≠row):TRange K val w' b r c f left cnt:=by
 obtain⟨D,lf,h,q⟩:=h;exact⟨D,lf,h.kept hg hb hr,q⟩
theorem TRange.alloc (h:TRange K val w b r c f left cnt) (o:Obj):TRange K val (w.alloc o) b r c f left cnt:=h.kept (World.grownBy_alloc w o none) (by simp) (by simp)
theorem below_grown {B:Nat} (hb:Below B w w') (hB:B=w.heap.size):w.grownBy w' none:=by
 subst hB;exact⟨hb.os,hb.tape,hb.output,hb.size,fun k hk _=>hb.block k hk⟩
theorem TRange.below (h:TRange K val w b r c f left cnt) (hb:Below w.heap.size w w'):TRange K val w' b r c f left cnt:=h.kept (below_grown hb rfl) (by simp) (by simp)
theorem TRange.congr {left':κ→Bool} (h:TRange K val w b r c f left cnt) (hl:∀ x,K.good x→left x=left' x):TRange K val w b r c f left' cnt:=by
 obtain⟨D,lf,h,q,e⟩:=h;exact⟨D,lf,h,q,fun x hx=>(e x hx).trans (hl x hx)⟩
variable {ops:Array Oper} {rest:List Oper} {o:Oper} {a:Act} {Q:Exit→Act→World→Prop}
theorem wpList_trange (hg:o.guard=none) (m:Operand) (t:TypeId) (hop:o.op=Op.range t m) {e:TypeId} (ht:P.underlying t=some (.map k e)) (hm:a.eval m = .map (some b)) (h:TMap K val w b f c)
  (hK:∀ w',TRange K val w' b w.heap.size c f (fun x=>(f x).isSome) c→w.grownBy w' none→w'.heap.size=w.heap.size+1→wpList P ops Q rest (a.put o.dst (.pointer (some ⟨w.heap.size,0,none⟩))) w') :
  wpList P ops Q (o::rest) a w:=by
 obtain⟨D,h,hs,hv⟩:=h;refine wpList_range_own w hg m t hop k e K.keyed ht (rdV val) b c D hm h ?_;intro w' hr hgr hsz;rw[hs]at hr;exact hK w' ⟨D,_,hr,hv,fun x hx=>(hv x hx).1⟩ hgr hsz
theorem wpList_tnext [DecidableEq κ] (hg:o.guard=none) (it:Operand) (hop:o.op=Op.next it false) (hit:a.eval it = .pointer (some ⟨r,0,none⟩)) (hi:InjV val) (h:TRange K val w b r c f left cnt)
  (hDone:cnt=0→(∀ x,K.good x→left x=false)→wpList P ops Q rest (a.put o.dst (.tuple #[.bool false])) w)
  (hMore:∀ (x:κ) (y:α) (w':World) (cnt':Nat),K.good x→left x=true→f x=some y→TRange K val w' b r c f (fun z=>left z && !decide (z=x)) cnt'→cnt'<cnt →
   w.grownBy w' (some r)→w'.heap.size=w.heap.size→(Instr.entry (.pointer (some ⟨r,0,none⟩))).run P w' = .ok (.tuple #[K.val x,val y]) w'→wpList P ops Q rest (a.put o.dst (.tuple #[.bool true,K.val x,val y])) w') :
  wpList P ops Q (o::rest) a w:=by
 obtain⟨D,lf,h,hv,hl⟩:=h;refine wpList_next_ranges w hg it hop k K.keyed (rdV val) K.val val (fun key kl hk=>by obtain⟨x,_,rfl,_⟩:=K.inv _ _ hk;exact⟨x,rfl⟩) (fun v y hy=>by obtain⟨c,rfl,_⟩:=rdV_inv hy;exact⟨c,rfl⟩)
  b r c D lf cnt hit h (fun h0 hd=>hDone h0 fun x hx=>by rw[← hl x hx];exact hd _) ?_
 intro x0 y kl yy w' cnt' hkey hlk hR hat hrg hlt hgr hsz hen;obtain⟨x,hx,ex,rfl⟩:=K.inv _ _ hkey;rw[ex]at hen ⊢;rw[rdV_of hi]at hR;obtain rfl:yy=(.held y,[]):=(Option.some.inj hR).symm;have hhas:=Maps.has_true_of_atKey hat;have hf:f x=some y:=by
  rw[(hv x hx).1]at hhas;obtain⟨a,ha⟩:=Option.isSome_iff_exists.1 hhas;have h1:=(hv x hx).2 a ha .nil;rw[hat]at h1;injection h1 with h1;rw[ha,h1]
 refine hMore x y w' cnt' hx (by rw[← hl x hx];exact hlk) hf ⟨D,_,hrg,hv,fun z hz=>?_⟩ hlt hgr hsz hen;simp only;rw[hl z hz]
 by_cases e:z=x
 ·subst e;rw[WideAt.sameKey_self (K.keyed.key (K.of_ z hz)),decide_eq_true rfl]
 ·rw[Maps.sameKey_ne (fun h=>e (K.inj _ _ hz hx h)),decide_eq_false e]
end
def KStr {P:Program} {k:TypeId} (hk:P.underlying k=some .string):KD P k ByteArray :=
 ⟨fun s=>.string s,fun s=>.string s.data.toList,fun s=>s.size≤maxLen,string_keyed hk,fun _ h=>WideMaps.keyOf_string_mk hk h,fun v l h=>by obtain⟨s,e1,e2,e3⟩:=WideMaps.string_of_keyOf hk h;exact⟨s,e3,e1,e2⟩,fun x y _ _ h=>by
  cases x;cases y
  simpa using h⟩
end Go.Proofs.YtcdpdaloceengaaGreatDoor
namespace Go.Proofs.YtcdpdaloceengaaGreatDoor
open Go.ChangeShapes Go.WideShapes Go.Deep Go.RowKit Go.Sort
theorem elem_Int:Elem Tryz.prog 3 RInt.size 8:=elem_of (z:=.int .i64 0) (by kernel_rfl) (by decide)
theorem vals_int (l:List Int):l.flatMap RInt.vals=l.map (Value.int .i64):=by
 induction l with
 | nil=>rfl
 | cons x s ih=>rw[List.flatMap_cons,ih];rfl
theorem idx_none (g:Nat) (lb:Array Value) (w:World) :
  Calls Tryz.prog 64 #[.slice none 0 0,.func (.func g) #[] lb] w fun e w'=>e = .returned (.int .i64 (-1))∧w=w':=by
 go_enter Tryz.func64,Tryz.ntmps64;go_wp2_with fail
 go_loopw [8] (fun i wr=>i = .int .i64 0∧w=wr) (fun i _=>0)
 case atStart=>exact⟨rfl,rfl⟩
 case round =>
  obtain⟨rfl,rfl⟩:=hrel;go_wp2;go_ret;exact⟨rfl,rfl⟩
theorem del_none (g:Nat) (lb:Array Value) (w:World) :
  Calls Tryz.prog 43 #[.slice none 0 0,.func (.func g) #[] lb] w fun e w'=>e = .returned (.slice none 0 0)∧w=w':=by
 go_enter Tryz.func43,Tryz.ntmps43;go_wp2_with fail;refine(idx_none g lb w).mono ?_;rintro e w' ⟨rfl,rfl⟩;go_wp2;go_ret;exact⟨rfl,rfl⟩
theorem del_own (g:Nat) (lb:Array Value) (eg:∀ args w,(callFunc g args).run Tryz.prog w = .ok (.enter g args) w) (p:Int→Bool) (A:Option Addr) (n cap:Nat) (l:List Int) (w:World) (base:Nat) (h:Own RInt 3 w base (.slice A n cap) l) (hn:n≤1000000)
  (hp:∀ W x,w.grownBy W (Value.ownBlock (.slice A n cap))→Calls Tryz.prog g (#[.int .i64 x]++lb) W fun e w'=>e = .returned (.bool (p x))∧∃ q,w'=W.drewN q) :
  Calls Tryz.prog 43 #[.slice A n cap,.func (.func g) #[] lb] w fun e w'=>∃ k,e = .returned (.slice A k cap)∧Own RInt 3 w' base (.slice A k cap) (l.filter (fun x=>!p x))∧w.grownBy w' (Value.ownBlock (.slice A n cap)):=by
 have hl:=h.len;have hown:=h.1;rw[vals_int]at hown
 rcases h.1.2 with ⟨e0,hn0⟩ | ⟨b,cap',cur,e0,hb,hg,h1,h2,h3,h4⟩
 ·injection e0 with e1 e2 e3;subst e1 e2 e3;obtain rfl:l = []:=List.eq_nil_of_length_eq_zero hl;refine(del_none g lb w).mono ?_;rintro e w' ⟨rfl,rfl⟩;exact⟨0,rfl,by simpa using h,World.grownBy.refl _ _⟩
 ·injection e0 with e1 e2 e3;subst e1 e3;subst e2;rw[vals_int]at h4;have hH:=holds_of_blockI (ss:=l) hg (by simpa[RInt]using h4);have hc:=AnyE.slices_DeleteFunc Tryz.delI (Value.int .i64) (fun _=>rfl) p g lb eg 0 Tryz.zeroValue3 b 0 cap l.toArray w
   (fun W x hW=>hp W x ⟨hW.os,hW.tape,hW.output,hW.size,fun k hk _=>hW.block k hk⟩)
   (fun m os dk x _=>hp _ x (grownBy_sortedI (n:=m) (os:=os) dk)) hH (by simp;omega) (by simpa using h1)
  rw[List.size_toArray]at hc;refine hc.mono ?_;rintro e w' ⟨rfl,q,rfl⟩;have hk:(l.filter fun x=>!p x).length≤l.length:=List.length_filter_le _ _;have hr:=Lib.ownsRow_putRow (q:=q) (k:=(l.filter fun x=>!p x).length) (zs:=l) (ys:=(l.filter fun x=>!p x)++List.replicate (l.length-(l.filter fun x=>!p x).length) 0) hown (by simp;omega) hk;rw[List.take_left]at hr;refine⟨_,rfl,⟨?_,fun x hx=>h.2 x (List.mem_filter.1 hx).1⟩,?_⟩
  ·rw[vals_int]
   simpa[show RInt.size=1 from rfl]using hr
  ·have:=grownBy_sortedI (w:=w) (g:=b) (n:=q) (os:=#[]) ((l.filter fun x=>!p x)++List.replicate (l.length-(l.filter fun x=>!p x).length) 0).toArray;rw[grow_empty]at this
   simpa[Value.ownBlock]using this
end Go.Proofs.YtcdpdaloceengaaGreatDoor
namespace Go.Proofs.YtcdpdaloceengaaGreatDoor
open Go.RowKit
theorem takeH {P:Program} {md:Region.Mode} {ops:Array Oper} {Q:Exit→Act→World→Prop} {S:World→Prop} {i:Nat} {d:Option Tmp} {oi:Oper} {v:Value} {fuel:Nat} {listed:Array Bool} {a:Act} {w:World} (hi:ops[i]? = some oi) (hd:oi.dst=d)
  (hs:Region.noSelect ops=true) (hf:Region.free md ops listed i=true) (hr:(Region.ready md ops listed).contains i=true)
  (hQ:∀ c a w,Q (.panic c) (a.put d v) w→Q (.panic c) a w) (hy:YieldsIf P ops S oi v a) (hS:S w)
  (h:wpAnyH P md ops Q S fuel (listed.setIfInBounds i true) (a.put d v) w):wpAnyH P md ops Q S (fuel+1) listed a w:=by
 subst hd;exact wpAnyH_take hi hs hf hr hQ hy hS h
def TK (L:List (Nat × Nat)) (p:Prop):Prop:=p
theorem tkS {p:Prop} (L:List (Nat × Nat)) (h:TK L p):p:=h
theorem tkE {p:Prop} (h:p):TK [] p:=h
theorem tkL {P:Program} {md:Region.Mode} {ops:Array Oper} {Q:Exit→Act→World→Prop} {S:World→Prop} {i dd:Nat} {L:List (Nat × Nat)} {oi:Oper} {fuel:Nat} {listed:Array Bool} {a:Act} {w:World} (v:Value)
  (hv:∀ w,S w→(execOp a.eval oi).run P w = .ok (.value v) w) (h:TK L (wpAnyH P md ops Q S fuel (listed.setIfInBounds i true) (a.put (some dd) v) w))
  (hi:ops[i]? = some oi:=by rfl) (hd:oi.dst=some dd:=by rfl) (hs:Region.noSelect ops=true:=by kernel_rfl) (hf:Region.free md ops listed i=true:=by kernel_rfl) (hr:(Region.ready md ops listed).contains i=true:=by kernel_rfl)
  (hQ:∀ c a w,Q (.panic c) (a.put (some dd) v) w→Q (.panic c) a w:=by exact fun _ _ _ h=>h) (hw:Region.wanted oi (yielded ops a.tmps)=true:=by rfl) (hS:S w:=by assumption):TK ((i,dd)::L) (wpAnyH P md ops Q S (fuel+1) listed a w) :=
 takeH hi hd hs hf hr hQ (.inl ⟨hw,hv⟩) hS h
theorem skL {P:Program} {md:Region.Mode} {ops:Array Oper} {Q:Exit→Act→World→Prop} {S:World→Prop} {i dd:Nat} {L:List (Nat × Nat)} {oi:Oper} {fuel:Nat} {listed:Array Bool} {a:Act} {w:World}
  (h:TK L (wpAnyH P md ops Q S fuel (listed.setIfInBounds i true) (a.put (some dd) undef) w)) (hi:ops[i]? = some oi:=by rfl) (hd:oi.dst=some dd:=by rfl)
  (hs:Region.noSelect ops=true:=by kernel_rfl) (hf:Region.free md ops listed i=true:=by kernel_rfl) (hr:(Region.ready md ops listed).contains i=true:=by kernel_rfl)
  (hQ:∀ c a w,Q (.panic c) (a.put (some dd) undef) w→Q (.panic c) a w:=by exact fun _ _ _ h=>h) (hy:YieldsIf P ops S oi undef a:=by exact Or.inr ⟨by rfl,rfl⟩) (hS:S w:=by assumption):TK ((i,dd)::L) (wpAnyH P md ops Q S (fuel+1) listed a w) :=
 takeH hi hd hs hf hr hQ hy hS h
theorem tkA {α:Type} (l:List α) (i:Nat) (x:α):l.toArray.setIfInBounds i x=(l.set i x).toArray:=List.setIfInBounds_toArray ..
theorem tkB {α:Type} (x y:α) (l:List α):(x::l).set 0 y=y::l:=List.set_cons_zero
theorem tkC {α:Type} (x y:α) (n:Nat) (l:List α):(x::l).set (n+1) y=x::l.set n y:=List.set_cons_succ
end Go.Proofs.YtcdpdaloceengaaGreatDoor
namespace Go.Proofs.YtcdpdaloceengaaGreatDoor
open Go.RowKit Go.Shelf
attribute [local go_sem] Oper.semAt_some
def trV (x:TestRun):Value:=.agg #[.string x.test,.string x.key,.int .i64 x.at_,.bool x.pass,.int .i64 x.seconds]
structure BelBut (q n:Nat) (w w':World):Prop where
 size:w.heap.size≤w'.heap.size
 block:∀ k,k<n→k≠q→w'.heap[k]? = w.heap[k]?
theorem BelBut.refl (q n:Nat) (w:World):BelBut q n w w:=⟨Nat.le_refl _,fun _ _ _=>rfl⟩
theorem BelBut.trans {q n:Nat} {a b c:World} (h:BelBut q n a b) (k:BelBut q n b c):BelBut q n a c:=⟨Nat.le_trans h.size k.size,fun j hj hq=>(k.block j hj hq).trans (h.block j hj hq)⟩
theorem BelBut.cell {q n:Nat} {w w':World} (h:BelBut q n w w') {p:Addr} (hp:p.block<n) (hq:p.block≠q):w'.cell? p=w.cell? p:=World.cell?_of_block (w:=w) (h.block p.block hp hq)
theorem BelBut.of {q n:Nat} {w w':World} (h:Below n w w'):BelBut q n w w':=⟨h.size,fun k hk _=>h.block k hk⟩
theorem BelBut.put {q n:Nat} (W:World) (l:Nat) (o':Obj) (hl:n≤l):BelBut q n W (W.putObj l o'):=by
 refine⟨by simp[World.putObj],fun k hk _=>?_⟩;simp only[World.putObj];rw[Array.getElem?_setIfInBounds_ne (by omega)]
theorem BelBut.setCell {q n:Nat} {a w:World} (h:BelBut q n a w) {p:Addr} (hp:p.block=q) (u:Value):BelBut q n a (w.setCell p u) :=
 ⟨by simpa using h.size,fun k hk hq=>(Below.heap_setCell w p u k (by rw[hp];exact hq)).trans (h.block k hk hq)⟩
def downF (n:Nat):List (Fin n):=(List.finRange n).reverse
theorem downF_len (n:Nat):(downF n).length=n:=by simp[downF]
theorem downF_get {n k:Nat} (hk:k<n):(downF n)[k]? = some ⟨n-1-k,by omega⟩:=by
 rw[List.getElem?_eq_getElem (by simpa[downF]using hk)];simp[downF,List.getElem_reverse]
theorem downF_take {n k:Nat} (hk:k<n):(downF n).take (k+1)=(downF n).take k ++ [⟨n-1-k,by omega⟩]:=by
 rw[List.take_add_one,downF_get hk];rfl
def encT (l:List TestRun) (i:Fin l.length):Array Value:=#[.int .i64 (i.val:Int),trV l[i]]
theorem back1_in (F:Fence) (n:Nat) (h8:F.fn 33) (hro:F.round=none) (hn:1≤n) (lp Bs n₀ len cap:Nat) (A:Option Addr) (l:List TestRun) (hlen:len≤3000) (q:Nat) (hA:0<len→∃ b off,A=some ⟨b,off,none⟩∧b<n₀∧b≠q) (hBn:Bs<n₀) (hBq:Bs≠q)
  (J Jx:List (Fin l.length)→World→Prop)
  (hY:∀ pre (x:Fin l.length) W,J pre W→pre.length<l.length→YieldAt F (n-1) Tryz.prog lp (encT l x) W fun e W' =>
   (e = .returned (.bool true)∧J (pre ++ [x]) W'∧BelBut q n₀ W W')∨(e = .returned (.bool false)∧Jx (pre ++ [x]) W'))
  (W:World) (hBs:W.cell? ⟨Bs,0,none⟩=some (.slice A len cap)) (hsl:SlAt RTestRun W A len l) (h0:J [] W) :
  CallsIn F n Tryz.prog 33 #[.func (.yield lp) #[] #[],.pointer (some ⟨Bs,0,none⟩)] W fun e W'=>(∃ v,e = .returned v) ∧
   (J (downF l.length) W'∨∃ k,k≤l.length∧Jx ((downF l.length).take k) W'):=by
 have hll:=hsl.1;have n1:IntKind.i64.wrap ((len:Int)-1)=(len:Int)-1:=IntWalk.i64_in _ (by omega);refine callsIn_of_wp Tryz.func33 rfl h8 ?_ hro;simp only[Tryz.ntmps33,List.size_toArray,List.length_cons,List.length_nil,Nat.reduceAdd,Nat.reduceSub,Array.replicate_succ,Array.replicate_zero,List.push_toArray,List.append_toArray,List.nil_append,List.cons_append];obtain⟨hllH,hslH⟩:=hq2 hll (Lib.hid hsl);clear hll hsl
 gi_wp2
 clear n1
 gi_loopw [3] (fun i wr=>∃ k:Nat,k≤len∧i = .int .i64 ((len:Int)-1-k)∧J ((downF l.length).take k) wr∧BelBut q n₀ W wr)
  (fun i _=>(intOf i+1).toNat)
 case atStart=>exact⟨0,Nat.zero_le _,by simp,h0,BelBut.refl _ _ _⟩
 case round =>
  obtain⟨k,hk,rfl,hJs,hnx⟩:=hrel;have hc0:=(hnx.cell (p:=⟨Bs,0,none⟩) hBn hBq).trans hBs
  by_cases hlt:k<len
  ·obtain⟨b,off,hA1,hb,hbq⟩:=hA (by omega);subst hA1;have hkl:k<l.length:=by rw[hllH.out];exact hlt
   obtain⟨p,hp⟩:∃ p:Nat,p=l.length-1-k:=⟨_,rfl⟩;have hpl:p<l.length:=by omega
   have hpI:(len:Int)-1-k=(p:Int):=by have:=hllH.out;omega
   have hx:l[p]? = some l[p]:=List.getElem?_eq_getElem hpl;obtain⟨d0,d1,d2,d3,d4⟩:=cells_TestRun hslH.out hx;have c0:=(hnx.cell (p:=⟨b,off+p*5,none⟩) hb hbq).trans d0;have c1:=(hnx.cell (p:=⟨b,off+p*5+1,none⟩) hb hbq).trans d1;have c2:=(hnx.cell (p:=⟨b,off+p*5+2,none⟩) hb hbq).trans d2;have c3:=(hnx.cell (p:=⟨b,off+p*5+3,none⟩) hb hbq).trans d3;have c4:=(hnx.cell (p:=⟨b,off+p*5+4,none⟩) hb hbq).trans d4;clear d0 d1 d2 d3 d4;obtain⟨fn,tmps,assign,body,hy,hR⟩:=hY _ (⟨p,hpl⟩:Fin l.length) wr hJs (by rw[List.length_take,downF_len];omega)
   dsimp only[encT,trV,Fin.getElem_fin]at hy
   have htk:(downF l.length).take (k+1)=(downF l.length).take k ++ [⟨p,hpl⟩]:=by subst hp;exact downF_take hkl
   obtain⟨x,hxe⟩:∃ x,x=l[p]:=⟨_,rfl⟩;rw[← hxe]at c0 c1 c2 c3 c4 hy;have h2:(p:Int)<(len:Int):=by have:=hllH.out;omega
   rw[hpI];have n2:IntKind.i64.wrap ((p:Int)-1)=(p:Int)-1:=IntWalk.i64_in _ (by omega);have hmeas:((p:Int)-1+1).toNat<((p:Int)+1).toNat:=by omega
   have hnext:((len:Int)-1-((k+1:Nat):Int))=(p:Int)-1:=by omega
   clear hx;obtain⟨hpH,hxeH,htkH,hpIH,hnextH,hmeasH⟩:=hq2 hp (hqb hxe htk hpI hnext (Lib.hid hmeas));clear hp hxe htk hpI hnext hmeas
   gi_wp2
   refine hR.mono ?_;rintro e W3 (⟨rfl,hJ3,hk3⟩ | ⟨rfl,hJx3⟩)
   ·rw[← htkH.out]at hJ3
    gi_wp2
    go_roundw
    case rel=>exact⟨k+1,by omega,by rw[hnextH.out],hJ3,hnx.trans hk3⟩
    case measure=>exact hmeasH.out
   ·rw[← htkH.out]at hJx3
    gi_wp2
    refine bodyPost_ret (results_none rfl _ _ _) rfl ?_;exact⟨⟨_,rfl⟩,.inr ⟨k+1,by omega,hJx3⟩⟩
  ·obtain rfl:k=len:=by omega
   have hall:(downF l.length).take k=downF l.length:=List.take_of_length_le (by rw[downF_len,hllH.out];exact Nat.le_refl _);rw[hall]at hJs;have hz:(k:Int)-1-k = -1:=by omega
   rw[hz];clear hz hall
   gi_wp2
   go_end0
   exact⟨⟨_,rfl⟩,.inl hJs⟩
theorem back_any (A:Option Addr) (len cap:Nat) (w:World) :
  Calls Tryz.prog 13 #[.slice A len cap] w fun e w' =>
   e = .returned (.func (.func 33) #[] #[.pointer (some ⟨w.heap.size,0,none⟩)])∧w'=w.alloc (.cells #[.slice A len cap] 22):=by
 go_enter Tryz.func13,Tryz.ntmps13;go_wp2;go_ret;exact⟨rfl,rfl⟩
theorem back_stops (F:Fence) (n:Nat) (h8:F.fn 33) (hro:F.round=none) (hn:1≤n) (Bs n₀ len cap:Nat) (A:Option Addr) (l:List TestRun) (hlen:len≤3000) (q:Nat) (hA:0<len→∃ b off,A=some ⟨b,off,none⟩∧b<n₀∧b≠q) (hBn:Bs<n₀) (hBq:Bs≠q) (w:World) (hn₀:n₀≤w.heap.size)
  (hc:w.cell? ⟨Bs,0,none⟩=some (.slice A len cap)) (hsl:SlAt RTestRun w A len l) :
  SeqStopsK F n Tryz.prog 33 #[.pointer (some ⟨Bs,0,none⟩)] (encT l) (BelBut q n₀) (fun ys=>ys=downF l.length)
   (fun pre=>∃ k,k≤l.length∧pre=(downF l.length).take k) l.length w:=fun lp J Jx W hW _ _ hY h0=>by
 refine(back1_in F n h8 hro hn lp Bs n₀ len cap A l hlen q hA hBn hBq J Jx hY W ((hW.cell (p:=⟨Bs,0,none⟩) (by show Bs<_;omega)).trans hc) (hsl.below hW) h0).mono ?_;rintro e W' ⟨he,hj | ⟨k,hk,hj⟩⟩
 ·exact⟨he,.inl ⟨_,rfl,hj⟩⟩
 ·exact⟨he,.inr ⟨_,⟨k,hk,rfl⟩,hj⟩⟩
end Go.Proofs.YtcdpdaloceengaaGreatDoor
namespace Go.Proofs.YtcdpdaloceengaaGreatDoor
section
variable {P:Program} {ops:Array Oper} {Q:Exit→Act→World→Prop} {md:Region.Mode} {lp n:Nat}
def noOut (Q:Exit→Act→World→Prop):Exit→Act→World→Prop
 | .outgrown,_,_=>False
 | e,a,w=>Q e a w
theorem noOut_lets:¬ LetsOut (noOut Q):=fun ⟨_,_,h⟩=>h
theorem rows_in {row:String} {args:Array Value} {w:World} {R:Value→World→Prop} (h:Rows P row args w R):RowsIn (Fence.wide.inRound lp) n P row args w R :=
 fun c cs _=>let ⟨v,w',r,s⟩:=h c cs;⟨v,w',r,stepsIn_wide.2 s⟩
theorem oper_in {o:Oper} {a:Act} {w:World} {next next':Act→World→Prop} (hd:∀ c,o.op≠.defer c) (hn:∀ a w,next a w→next' a w) (h:o.wp P a w next (noOut Q)) :
  o.wpIn (Fence.wide.inRound lp) n P a w next' Q:=by
 refine⟨fun _ _=>trivial,?_⟩;rw[Oper.semAt_plain _ _ _ hd];unfold Oper.wp at h
 generalize (execOp a.eval o).run P w=r at h
 cases r with
 | ok x w' =>
  cases x with
  | value v=>exact hn _ _ h
  | skip=>exact hn _ _ h
  | defer d=>exact hn _ _ h
  | enter f args =>
   refine⟨fun h=>(by cases h),CallsIn.inRound lp (callsIn_wide.2 (Calls.mono h ?_))⟩;rintro e w'' he
   cases e with
   | returned v=>exact hn _ _ he
   | panicked c=>exact he
   | outgrown=>exact absurd he noOut_lets
  | row row args=>exact⟨fun h=>(by cases h),(rows_in h).mono fun _ _ he=>hn _ _ he⟩
  | _=>exact absurd h (by simp[Oper.upon])
 | halt x w'=>cases x <;> first | exact h | exact absurd h (by simp[Oper.upon])
theorem op_in {i:Nat} {a:Act} {w:World} {K K':Act→World→Prop} (hd:∀ (i:Nat) (o:Oper),ops[i]? = some o→∀ c,o.op≠.defer c) (hK:∀ a w,K a w→K' a w) (h:wpOp P ops (noOut Q) i K a w) :
  wpOpIn (Fence.wide.inRound lp) n P ops Q i K' a w:=by
 unfold wpOp at h;unfold wpOpIn
 cases ho:ops[i]? with
 | none=>rw[ho]at h;exact hK _ _ h
 | some o =>
  rw[ho]at h;simp only at h ⊢
  split at h
  ·rename_i hw
   rw[if_pos hw]
   rcases h with h | h
   ·exact oper_in (hd i o ho) hK h
   ·exact absurd h.2 noOut_lets
  ·rename_i hw
   rw[if_neg hw];exact⟨fun _ _=>trivial,hK _ _ h⟩
theorem any_in (hd:∀ (i:Nat) (o:Oper),ops[i]? = some o→∀ c,o.op≠.defer c):∀ (fuel:Nat) (listed:Array Bool) (a:Act) (w:World),wpAny P md ops (noOut Q) fuel listed a w→wpAnyIn (Fence.wide.inRound lp) n P md ops Q fuel listed a w
 | 0,_,_,_,h=>h
 | fuel+1,_,_,_,h=>⟨h.1,fun i hi=>op_in hd (fun a w h=>any_in hd fuel _ a w h) (h.2 i hi)⟩
def noDefer (l:List Oper):Bool:=l.all fun o=>match o.op with | .defer _=>false | _=>true
theorem noDefer_spec {l:List Oper} (h:noDefer l=true):∀ (i:Nat) (o:Oper),l.toArray[i]? = some o→∀ c,o.op≠.defer c:=fun i o ho c e=>by
 have hm:o∈l:=by rw[List.getElem?_toArray]at ho;exact List.mem_of_getElem? ho
 have:=List.all_eq_true.1 h o hm;rw[e]at this
 cases this
end
end Go.Proofs.YtcdpdaloceengaaGreatDoor
namespace Go.Proofs.YtcdpdaloceengaaGreatDoor
open Go.ChangeShapes Go.WideShapes Go.Deep Go.RowKit
def BRow (w:World) (b n:Nat) (f:Nat→Bool):Prop:=∀ j,j<n→w.cell? ⟨b,j,none⟩=some (.bool (f j))∧w.frozen? ⟨b,j,none⟩=false
theorem BRow.keep {w w':World} {b n:Nat} {f:Nat→Bool} (h:BRow w b n f) (hb:b<w.heap.size→w'.heap[b]? = w.heap[b]?):BRow w' b n f:=fun j hj=>by
 have hlt:b<w.heap.size:=cell?_lt (h j hj).1;exact⟨(World.cell?_of_block (a:=⟨b,j,none⟩) (hb hlt)).trans (h j hj).1,(World.frozen?_of_block (a:=⟨b,j,none⟩) (hb hlt)).trans (h j hj).2⟩
theorem BRow.below {w w':World} {b n K:Nat} {f:Nat→Bool} (h:BRow w b n f) (hb:Below K w w') (hK:b<K):BRow w' b n f:=h.keep fun _=>hb.block b hK
theorem BRow.kept {w w':World} {b n:Nat} {f:Nat→Bool} {row:Option Nat} (h:BRow w b n f) (hg:w.grownBy w' row) (hne:some b≠row):BRow w' b n f:=h.keep fun hlt=>hg.block b hlt hne
theorem BRow.set {w:World} {b n k:Nat} {f:Nat→Bool} (h:BRow w b n f) (u:Bool):BRow (w.setCell ⟨b,k,none⟩ (.bool u)) b n (fun j=>if j=k then u else f j):=fun j hj=>by
 refine⟨?_,by rw[World.frozen?_setCell];exact(h j hj).2⟩
 by_cases e:j=k
 ·subst e;simp only[if_true];exact World.cell?_setCell_same' _ _ _ (by rw[(h j hj).1];rfl)
 ·simp only[if_neg e];rw[World.cell?_setCell_other _ _ _ _ (by simp <;> omega)];exact(h j hj).1
theorem grown_setc (w:World) (a:Addr) (u:Value):w.grownBy (w.setCell a u) (some a.block) :=
 ⟨rfl,rfl,rfl,by simp,fun k _ hne=>heap_setCell_other w a k u (fun e=>hne (by rw[e]))⟩
def madeB (n:Nat):Array Value:=madeCells (Value.bool false).cells (n*1)
theorem run_makeB (n:Nat) (hn:n≤1000000) (W:World):(Instr.makeSlice 64 (.int .i64 (n:Int)) (.int .i64 (n:Int))).run Tryz.prog W = .ok (.slice (some ⟨W.heap.size,0,none⟩) n n) (W.alloc (.cells (madeB n) 4)):=by
 obtain⟨i,z,hi,hz,hz1,hz2,hz3⟩:∃ i z,Tryz.prog.info? 4 = some i∧i.zero=some z∧i.size=1∧i.bytes=1∧z = .bool false:=by
  obtain⟨i,h1,h2,h3,h4⟩:=info_parts (z:=.bool false) (size:=1) (bytes:=1) (show (Tryz.prog.info? 4).map (fun i=>(i.zero,i.size,i.bytes))=some (some (.bool false),1,1) by kernel_rfl);exact⟨i,_,h1,h2,h3,h4,rfl⟩
 subst hz3;have:=run_make (P:=Tryz.prog) W 64 4 i (.bool false) Tryz.underlying64 hi hz .i64 .i64 (n:Int) (n:Int) (by omega) (Int.le_refl _) (by rw[hz2];omega) (by omega);rw[this,hz1];simp only[Int.toNat_natCast];rfl
theorem madeB_get (n j:Nat) (hj:j<n):(madeB n)[j]? = some (.bool false):=by
 unfold madeB madeCells;simp[Value.cells,hj,Nat.mod_one]
theorem BRow.made (w:World) (n:Nat):BRow (w.alloc (.cells (madeB n) 4)) w.heap.size n (fun _=>false):=fun j hj=>by
 refine⟨?_,?_⟩
 ·have:(w.alloc (.cells (madeB n) 4)).cell? ⟨w.heap.size,j,none⟩=(madeB n)[j]?:=by simp[go_sem]
  rw[this];exact madeB_get n j hj
 ·simp[go_sem]
end Go.Proofs.YtcdpdaloceengaaGreatDoor