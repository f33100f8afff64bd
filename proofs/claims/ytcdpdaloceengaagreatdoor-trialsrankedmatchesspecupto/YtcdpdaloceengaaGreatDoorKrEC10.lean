/-
 Several texts of mine as one, without what is not wanted here: XRnO, XRnW.
-/
import Derived.Test.YtcdpdaloceengaaGreatDoorKrDC10
import Derived.Maps.OwnIn
set_option linter.unusedVariables false
set_option linter.unusedSimpArgs false
set_option maxRecDepth 100000
set_option maxHeartbeats 8000000
namespace Go.Proofs.YtcdpdaloceengaaGreatDoor.C10
open Go.ChangeShapes Go.WideShapes Go.Deep Go.RowKit Go.Shelf Go.Maps
attribute [local go_sem] Oper.semAt_some
section
variable {P:Program} {k:TypeId} {κ α:Type} {K:KD P k κ} {val:α→Value} {w w':World} {b c:Nat} {f:κ→Option α} {F:Fence} {nF:Nat} {ops:Array Oper} {rest:List Oper} {o:Oper} {a:Act} {Q:Exit→Act→World→Prop}
theorem wpListIn_tlook [DecidableEq κ] (hg:o.guard=none) (m x:Operand) (t:TypeId) (hop:o.op=Op.lookup t m x false) {e:TypeId} (ht:P.underlying t=some (.map k e)) (z0:α) (hz:(zeroValue e).run P w = .ok (val z0) w) (hi:InjV val)
  (hm:a.eval m = .map (some b)) (h:TMap K val w b f c) (kx:κ) (hx:a.eval x=K.val kx) (hgood:K.good kx) (hK:wpListIn F nF P ops Q rest (a.put o.dst (val ((f kx).getD z0))) w):wpListIn F nF P ops Q (o::rest) a w:=by
 refine wpListIn_plain hg fun K' hK'=>?_;have hr:=(h.look ht hz hi hgood).1;unfold Oper.wpIn;refine⟨by simp[Oper.about,hop],?_⟩;rw[Oper.semAt_plain F _ _ (by rw[hop];intro c hc';cases hc')];simp[execOp,hop,hm,hx,hr,Result.andThen];exact hK' _ _ hK
theorem wpListIn_tstore [DecidableEq κ] (hg:o.guard=none) (m x v:Operand) (t:TypeId) (hop:o.op=Op.mapUpdate t m x v) {e:TypeId} (ht:P.underlying t=some (.map k e)) (hi:InjV val)
  (hm:a.eval m = .map (some b)) (h:TMap K val w b f c) (hc:c<maxLen) (kx:κ) (hx:a.eval x=K.val kx) (hgood:K.good kx) (y:α) (hv:a.eval v=val y)
  (hK:∀ w',TMap K val w' b (upd f kx y) (if (f kx).isSome then c else c+1)→w.grownBy w' (some b)→wpListIn F nF P ops Q rest (a.put o.dst undef) w'):wpListIn F nF P ops Q (o::rest) a w:=by
 refine wpListIn_plain hg fun K' hK'=>?_;obtain⟨w',hr,h',ht'⟩:=h.store ht hi hc hgood y;unfold Oper.wpIn;refine⟨by simp[Oper.about,hop],?_⟩;rw[Oper.semAt_plain F _ _ (by rw[hop];intro c hc';cases hc')];simp[execOp,hop,hm,hx,hv,hr,Result.andThen];exact hK' _ _ (hK w' h' ht'.grown)
end
theorem region_held_in {P:Program} {Q:Exit→Act→World→Prop} {lp n:Nat} {S:World→Prop} {id:Nat} {a:Act} {w:World} {l:List Oper} (hm:P.follows .mixedOrders=true) (hd:noDefer l=true) (hS:S w.drew)
  (h:S w.drew→wpAnyH P .any l.toArray (noOut Q) S l.toArray.size (Array.replicate l.toArray.size false) a w.drew):(Code.region id l.toArray true).wpIn (Fence.wide.inRound lp) n P Q a w :=
 wpIn_region_any hm (any_in (noDefer_spec hd) _ _ _ _ (wpAny_of_held _ _ _ _ (h hS)))
structure RkS (lb pb mb:Nat) (last:Int) (n₀:Nat) (w:World) (f:ByteArray→Option Rec) (c:Nat) (W:World):Prop where
 c5:W.cell? ⟨lb,0,none⟩=some (.int .i64 last)
 cp:W.cell? ⟨pb,0,none⟩=some (.map (some mb))
 map:TMap KB valN W mb f c
 bel:Below w.heap.size w W
 le:n₀≤W.heap.size
theorem keepsN_below {B:Nat} {W w':World} (hb:Below W.heap.size W w'):KeepsFrom B W w' :=
 ⟨hb.size,fun k o _ hk _=>(hb.block k (Array.getElem?_eq_some_iff.1 hk).1).trans hk⟩
section
variable {lb pb mb n₀ c:Nat} {last:Int} {w W W':World} {f:ByteArray→Option Rec}
theorem RkS.grown {row:Option Nat} (h:RkS lb pb mb last n₀ w f c W) (hl:lb<n₀) (hp:pb<n₀) (hm:mb<n₀) (hw:w.heap.size≤n₀) (hg:W.grownBy W' row) (hr:∀ r,row=some r→n₀≤r):RkS lb pb mb last n₀ w f c W':=by
 have e:∀ k,k<n₀→W'.heap[k]? = W.heap[k]?:=fun k hk=>hg.block k (Nat.lt_of_lt_of_le hk h.le) (fun e=>by have:=hr k e.symm;omega);refine⟨(World.cell?_of_block (a:=⟨lb,0,none⟩) (e lb hl)).trans h.c5,(World.cell?_of_block (a:=⟨pb,0,none⟩) (e pb hp)).trans h.cp,tmap_heap h.map (e mb hm),?_,Nat.le_trans h.le hg.size⟩;exact h.bel.grown hg h.bel.size (fun k e=>Nat.le_trans hw (hr k e))
theorem RkS.below (h:RkS lb pb mb last n₀ w f c W) (hb:Below W.heap.size W W'):RkS lb pb mb last n₀ w f c W' :=
 ⟨keepC hb h.c5,keepC hb h.cp,h.map.below hb h.map.lt,h.bel.trans (hb.mono h.bel.size),Nat.le_trans h.le hb.size⟩
theorem RkS.putMap {f':ByteArray→Option Rec} {c':Nat} (h:RkS lb pb mb last n₀ w f c W) (hm:TMap KB valN W' mb f' c') (hg:W.grownBy W' (some mb)) (h1:lb≠mb) (h2:pb≠mb) (h3:w.heap.size≤mb):RkS lb pb mb last n₀ w f' c' W':=by
 have e:∀ k,k<W.heap.size→k≠mb→W'.heap[k]? = W.heap[k]?:=fun k hk hne=>hg.block k hk (fun e=>hne (by injection e));refine⟨(World.cell?_of_block (a:=⟨lb,0,none⟩) (e lb (cell?_lt h.c5) h1)).trans h.c5,(World.cell?_of_block (a:=⟨pb,0,none⟩) (e pb (cell?_lt h.cp) h2)).trans h.cp,hm,?_,Nat.le_trans h.le hg.size⟩;exact h.bel.grown hg h.bel.size (fun k e=>by cases e;exact h3)
end
theorem belBut_grown {q n:Nat} {W W':World} (hg:W.grownBy W' (some q)) (hn:n≤W.heap.size):BelBut q n W W' :=
 ⟨hg.size,fun k hk hq=>hg.block k (Nat.lt_of_lt_of_le hk hn) (fun e=>hq (by injection e))⟩
theorem keepsN_grown {B q:Nat} {W w':World} (hg:W.grownBy w' (some q)) (hq:q<B):KeepsFrom B W w' :=
 ⟨hg.size,fun k o hB hk _=>(hg.block k (Array.getElem?_eq_some_iff.1 hk).1 (fun e=>by injection e;omega)).trans hk⟩
theorem rk_round {lb pb mb n₀ c c':Nat} {last:Int} {w W w2:World} {f f':ByteArray→Option Rec} (hI:RkS lb pb mb last n₀ w f c W) (cs:Array Value) (T:TypeId) (hm:TMap KB valN w2 mb f' c') (hg:(W.alloc (.cells cs T)).drew.grownBy w2 (some mb)) (h1:lb≠mb) (h2:pb≠mb) (h3:w.heap.size≤mb) (h4:mb<n₀) :
  KeepsFrom n₀ W w2∧BelBut mb n₀ W w2∧RkS lb pb mb last n₀ w f' c' w2:=by
 have hb:Below W.heap.size W (W.alloc (.cells cs T)).drew:=((Below.refl _ _).alloc (Nat.le_refl _) _).drew;have hV:=hI.below hb;exact⟨(keepsN_below hb).trans (keepsN_grown hg h4),(BelBut.of (hb.mono hI.le)).trans (belBut_grown hg hV.le),hV.putMap hm hg h1 h2 h3⟩
theorem insN_of_sort {f:ByteArray→Rec} (hf:∀ s,RecP (f s)) {names P:List ByteArray} (hP:P.Perm names) (hs:P.Pairwise fun a b=>cmpN f a b≤0) (hR:names.Pairwise fun a b=>cmpS a b = -1):InsN f names names.length P:=by
 have hnd:names.Nodup:=hR.imp fun {a b} h e=>by rw[e,(cmpS_zero b b).2 rfl]at h;omega
 have hp2:P.Nodup:=hP.nodup_iff.2 hnd;refine⟨by rw[List.take_length];exact hP,(hs.and hp2).imp fun {a b} h=>?_⟩;rw[← cmpN_lt hf]
 rcases cmpN_range hf a b with e | e | e
 ·exact e
 ·exact absurd (cmpN_zero hf e) h.2
 ·have:=h.1;omega
def runsL (l:List TestRun) (pre:List (Fin l.length)):List TestRun:=(pre.map fun i=>l[i]).reverse
theorem runsL_snoc (l:List TestRun) (pre:List (Fin l.length)) (x:Fin l.length):runsL l (pre ++ [x])=l[x]::runsL l pre:=by
 unfold runsL;rw[List.map_append,List.reverse_append,List.map_singleton];rfl
theorem runsL_all (l:List TestRun):runsL l (downF l.length)=l:=by
 unfold runsL downF;rw[List.map_reverse,List.reverse_reverse];refine List.ext_getElem? fun i=>?_
 by_cases hi:i<l.length
 ·rw[List.getElem?_map,List.getElem?_eq_getElem (by simpa using hi),List.getElem?_eq_getElem hi];simp
 ·rw[List.getElem?_eq_none (by simp;omega),List.getElem?_eq_none (by omega)]
def IrN (l:List TestRun) (last:Int) (lb pb mb n₀:Nat) (w:World) (pre:List (Fin l.length)) (W:World):Prop:=∃ c,c≤pre.length∧RkS lb pb mb last n₀ w (fM last (runsL l pre)) c W
structure Tr5 (b:Nat) (x:TestRun) (W:World):Prop where
 c0:W.cell? ⟨b,0,none⟩=some (.string x.test)
 c1:W.cell? ⟨b,1,none⟩=some (.string x.key)
 c2:W.cell? ⟨b,2,none⟩=some (.int .i64 x.at_)
 c3:W.cell? ⟨b,3,none⟩=some (.bool x.pass)
 c4:W.cell? ⟨b,4,none⟩=some (.int .i64 x.seconds)
theorem Tr5.new (w:World) (x:TestRun):Tr5 w.heap.size x (w.alloc (.cells #[.string x.test,.string x.key,.int .i64 x.at_,.bool x.pass,.int .i64 x.seconds] 39)):=by
 constructor <;> simp[go_sem]
theorem Tr5.kept {b:Nat} {x:TestRun} {W w':World} {row:Option Nat} (h:Tr5 b x W) (hg:W.grownBy w' row) (hr:∀ r,row=some r→∃ o:Obj,W.heap[r]? = some o∧o.isCells=false):Tr5 b x w' :=
 ⟨cell_kept h.c0 hg hr,cell_kept h.c1 hg hr,cell_kept h.c2 hg hr,cell_kept h.c3 hg hr,cell_kept h.c4 hg hr⟩
theorem Tr5.below {b:Nat} {x:TestRun} {W w':World} (h:Tr5 b x W) (hb:Below W.heap.size W w'):Tr5 b x w' :=
 ⟨keepC hb h.c0,keepC hb h.c1,keepC hb h.c2,keepC hb h.c3,keepC hb h.c4⟩
def AxN (T:Array Value) (l:List TestRun) (K:Nat) (x:Fin l.length) (a':Act) (W:World):Prop :=
 ∃ Bx,K≤Bx∧Tr5 Bx l[x] W∧a' = { tmps:=((#[53,54].zip (encT l x)).foldl (fun t (p,v)=>t.setIfInBounds p v) T).setIfInBounds 13 (.pointer (some ⟨Bx,0,none⟩)),defers:=[] }
theorem slAt_putObj {W:World} {A:Option Addr} {n D:Nat} {L:List ByteArray} (h:SlAt RStr W A n L) (hD:W.heap[D]? = some (.deferred (some []))):SlAt RStr (W.putObj D (.deferred none)) A n L:=by
 obtain⟨h1,h2,h3⟩:=h;refine⟨h1,fun hn=>?_,h3⟩;obtain⟨b,off,hA,hc⟩:=h2 hn;exact⟨b,off,hA,fun i x hx j v hv=>cell_kept (hc i x hx j v hv) (grownBy_putObj' _ D (.deferred none)) (fun r e=>by cases e;exact⟨_,hD,rfl⟩)⟩
theorem rk_law {g:Operand} {assign body:Code} {Q:Exit→Act→World→Prop} {T:Array Value} {wS w:World} {l:List TestRun} {Bs len cap lb pb mb:Nat} {last:Int} {A:Option Addr}
  (hg:(Act.mk T []).eval g = .func (.func 33) #[] #[.pointer (some ⟨Bs,0,none⟩)])
  (hlen:len≤3000) (hA:0<len→∃ b off,A=some ⟨b,off,none⟩∧b<wS.heap.size∧b≠mb) (hBn:Bs<wS.heap.size) (hBq:Bs≠mb) (hc:wS.cell? ⟨Bs,0,none⟩=some (.slice A len cap)) (hsl:SlAt RTestRun wS A len l) (h1:lb<wS.heap.size) (h2:pb<wS.heap.size) (h3:mb<wS.heap.size) (hwS:w.heap.size≤wS.heap.size)
  (h0:RkS lb pb mb last wS.heap.size w (fun _=>none) 0 wS)
  (hassign:∀ (lp:Nat) (pre:List (Fin l.length)) (x:Fin l.length) (W:World) (Kp:Act→World→Prop),IrN l last lb pb mb wS.heap.size w pre W→(∀ a' W',KeepsFrom wS.heap.size W W'→BelBut mb wS.heap.size W W'→IrN l last lb pb mb wS.heap.size w pre W'→AxN T l wS.heap.size x a' W'→Kp a' W') →
   assign.wpIn (Fence.wide.inRound lp) (9-1-1) Tryz.prog (Exit.then Kp (fun _ _ _=>False)) { tmps:=(#[53,54].zip (encT l x)).foldl (fun t (p,v)=>t.setIfInBounds p v) T,defers:=[] } W)
  (hbody:∀ (lp:Nat) (pre:List (Fin l.length)) (x:Fin l.length) (a':Act) (W:World),wS.heap.size≤lp→(∃ r,W.heap[lp]? = some (.loop r))→IrN l last lb pb mb wS.heap.size w pre W→AxN T l wS.heap.size x a' W→pre.length<l.length→body.wpIn (Fence.wide.inRound lp) (9-1-1) Tryz.prog (ownPostG wS.heap.size (BelBut mb wS.heap.size) (IrN l last lb pb mb wS.heap.size w) (fun _ _ _=>False) (pre ++ [x]) W) a' W)
  (hdone:∀ (D:Nat) (xs:List (Fin l.length)) (W:World),wS.heap.size≤D→xs=downF l.length→IrN l last lb pb mb wS.heap.size w xs W→W.heap[D]? = some (.deferred (some []))→Q .normal { tmps:=T,defers:={ target:=.collected D,args:=#[] } :: [] } W) :
  (Code.rangeFunc g #[53,54] assign body).wpIn Fence.wide 9 Tryz.prog Q { tmps:=T,defers:=[] } wS :=
 wpIn_rangeFunc_ownH rfl (by omega) hg trivial (enters_of Tryz.func33 (by kernel_rfl) rfl)
  (back_stops Fence.wide (9-1) trivial rfl (by omega) Bs wS.heap.size len cap A l hlen mb hA hBn hBq wS (Nat.le_refl _) hc hsl) BelBut.trans (fun W l o o' hl _ _ _=>BelBut.put W l o' hl) (Below.refl _ _) (fun _=>rfl)
  (IrN l last lb pb mb wS.heap.size w) (fun _ _ _=>False)
  (fun s W W' row ⟨c,hc,hs⟩ hg hr=>⟨c,hc,RkS.grown hs h1 h2 h3 hwS hg (fun r e=>(hr r e).1)⟩)
  (fun cd s W W' row hs hg hr=>hs)
  ⟨0,Nat.zero_le _,h0⟩
  (AxN T l wS.heap.size)
  (fun x a' _ X Y row hs hg hr=>by obtain⟨Bx,h1,h2,h3⟩:=hs;exact⟨Bx,h1,h2.kept hg (fun r e=>(hr r e).2),h3⟩)
  hassign hbody hdone (fun D c pre W _ _ h=>h.elim)
end Go.Proofs.YtcdpdaloceengaaGreatDoor.C10
namespace Go.Proofs.YtcdpdaloceengaaGreatDoor.C10
open Go.ChangeShapes Go.WideShapes Go.Deep Go.RowKit Go.Maps
def RcRel (l:List TestRun) (last:Int) (n:ByteArray) (rb xb:Nat) (w:World) (i:Value) (wr:World):Prop :=
 ∃ k:Nat,k≤l.length∧i = .int .i64 ((k:Int)-1)∧Blk wr xb [.string n,.int .i64 (recF last n (l.drop k)).bad,.int .i64 (recF last n (l.drop k)).took,.int .i64 (recF last n (l.drop k)).all]∧Blk wr rb [.string ⟨#[]⟩,.int .i64 0,.int .i64 0,.int .i64 0]∧Below w.heap.size w wr
theorem recordOf_any (A:Option Addr) (len cap:Nat) (l:List TestRun) (n:ByteArray) (last:Int) (w:World) (hl:SlAt RTestRun w A len l) (hlen:len≤3000) (hsec:∀ r∈l,0≤r.seconds∧r.seconds≤100000) (h0:1≤last) (h1:last≤3000) :
  Calls Tryz.prog 22 #[.slice A len cap,.string n,.int .i64 last] w fun e w'=>e = .returned (.agg #[.string n,.int .i64 (recF last n l).bad,.int .i64 (recF last n l).took,.int .i64 (recF last n l).all])∧Below w.heap.size w w':=by
 have hll:=hl.1;obtain⟨W1,hW1⟩:∃ Y,w.alloc (.cells #[.string ⟨#[]⟩,.int .i64 0,.int .i64 0,.int .i64 0] 49)=Y:=⟨_,rfl⟩;obtain⟨W2,hW2⟩:∃ Y,W1.alloc (.cells #[.string n,.int .i64 0,.int .i64 0,.int .i64 0] 49)=Y:=⟨_,rfl⟩;obtain⟨rb,hrb⟩:∃ b,w.heap.size=b:=⟨_,rfl⟩;obtain⟨xb,hxb⟩:∃ b,rb+1=b:=⟨_,rfl⟩;have hs1:W1.heap.size=xb:=by rw[← hW1,← hxb,← hrb];simp
 have hb1:Below w.heap.size w W1:=by rw[← hW1];exact(Below.refl _ _).alloc (Nat.le_refl _) _
 have hb12:Below W1.heap.size W1 W2:=by rw[← hW2];exact(Below.refl _ _).alloc (Nat.le_refl _) _
 have hb2:=hb1.trans (hb12.mono hb1.size);have hB1:Blk W1 rb [.string ⟨#[]⟩,.int .i64 0,.int .i64 0,.int .i64 0]:=by rw[← hW1,← hrb];exact blk_new w [.string ⟨#[]⟩,.int .i64 0,.int .i64 0,.int .i64 0] _
 have hR2:=blk_below hB1 (by simp) hb12;have hX2:Blk W2 xb [.string n,.int .i64 0,.int .i64 0,.int .i64 0]:=by rw[← hW2,← hs1];exact blk_new W1 [.string n,.int .i64 0,.int .i64 0,.int .i64 0] _
 have hne:rb≠xb:=by omega
 have hst:RcRel l last n rb xb w (.int .i64 ((len:Int)-1)) W2:=by
  refine⟨len,by omega,rfl,?_,hR2,hb2⟩;rw[List.drop_of_length_le (by omega)];exact hX2
 have hwl:IntKind.i64.wrap ((len:Int)-1)=(len:Int)-1:=IntWalk.i64_in _ (by omega);have hrbw:w.heap.size≤rb:=Nat.le_of_eq hrb;have hxbw:w.heap.size≤xb:=by omega
 obtain⟨Z,hZ⟩:∃ Z,(fun (e:Ending) (w':World)=>e = .returned (.agg #[.string n,.int .i64 (recF last n l).bad,.int .i64 (recF last n l).took,.int .i64 (recF last n l).all])∧Below w.heap.size w w')=Z:=⟨_,rfl⟩;rw[hZ];obtain⟨hlH,hllH,hsecH,hW1H,hW2H,hrbH,hxbH,hs1H,hb1H,hb12H,hb2H,hB1H,hR2H,hX2H,hstH,hZH⟩:=hq2 hl (hq2 hll (hq2 hsec (hqb hW1 hW2 hrb hxb (hqc hs1 hb1 hb12 hb2 hB1 hR2 hX2 hst (Lib.hid hZ)))));clear hl hll hsec hW1 hW2 hrb hxb hs1 hb1 hb12 hb2 hB1 hR2 hX2 hst hZ;go_enter Tryz.func22,Tryz.ntmps22;go_wp2_with fail;simp only[hrbH.out,hxbH.out,hW1H.out,hW2H.out];clear hwl
 go_loopw [8] (fun i wr=>RcRel l last n rb xb w i wr) (fun i _=>(intOf i+1).toNat)
 case atStart=>exact hstH.out
 case round =>
  clear hstH;obtain⟨k,hk,rfl,hX,hR,hb⟩:=hrel;have hok:=recF_ok last n (l.drop k) (fun r hr=>hsecH.out r (List.mem_of_mem_drop hr));have hml:=recF_most (last:=last) (by omega) n (l.drop k);have hlk:(l.drop k).length≤3000:=by rw[List.length_drop];have:=hllH.out;omega
  obtain⟨⟨p1,p2⟩,⟨p3,p4⟩,p5,p6⟩:=hok;obtain⟨x,hx⟩:∃ x,recF last n (l.drop k)=x:=⟨_,rfl⟩;rw[hx]at hX p1 p2 p3 p4 p5 p6 hml;obtain⟨bad,took,all⟩:=x;simp only at hX p1 p2 p3 p4 p5 p6 hml;have x0:=(hX 0 _ rfl).1;have x1:=(hX 1 _ rfl).1;have x2:=(hX 2 _ rfl).1;have x3:=(hX 3 _ rfl).1;have z1:=(hX 1 _ rfl).2;have z2:=(hX 2 _ rfl).2;have z3:=(hX 3 _ rfl).2;have RZ:recF last n l=⟨bad,took,all⟩→∀ W,Below w.heap.size w W→Z (.returned (.agg #[.string n,.int .i64 bad,.int .i64 took,.int .i64 all])) W:=fun e W h=>by rw[← hZH.out];exact⟨by rw[e],h⟩
  have y0:=(hR 0 _ rfl).1;have y1:=(hR 1 _ rfl).1;have y2:=(hR 2 _ rfl).1;have y3:=(hR 3 _ rfl).1;have v0:=(hR 0 _ rfl).2;have v1:=(hR 1 _ rfl).2;have v2:=(hR 2 _ rfl).2;have v3:=(hR 3 _ rfl).2
  by_cases hk0:k=0
  ·subst hk0;rw[List.drop_zero]at hx;have hge:decide (((0:Nat):Int)-1 ≥ 0)=false:=by decide
   have RZ:=RZ hx
   skip
   have hbz:Below w.heap.size w ((((wr.setCell ⟨rb,0,none⟩ (.string n)).setCell ⟨rb,1,none⟩ (.int .i64 bad)).setCell ⟨rb,2,none⟩ (.int .i64 took)).setCell ⟨rb,3,none⟩ (.int .i64 all)) :=
    (((hb.setCell (p:=⟨rb,0,none⟩) hrbw _).setCell (p:=⟨rb,1,none⟩) hrbw _).setCell (p:=⟨rb,2,none⟩) hrbw _).setCell (p:=⟨rb,3,none⟩) hrbw _
   have hBz:=(((hR.set (k:=0) (by simp) (.string n)).set (k:=1) (by simp) (.int .i64 bad)).set (k:=2) (by simp) (.int .i64 took)).set (k:=3) (by simp) (.int .i64 all);have r0:=(hBz 0 _ rfl).1;have r1:=(hBz 1 _ rfl).1;have r2:=(hBz 2 _ rfl).1;have r3:=(hBz 3 _ rfl).1;have RR:=RZ _ hbz;obtain⟨hXH,hRH,hbH,hxH,RZH,hbzH,hBzH,RRH⟩:=hq2 hX (hq2 hR (hq2 hb (hqb hx RZ hbz hBz (Lib.hid RR))));clear hX hR hb hx RZ hbz hBz RR;go_wp2;exact bodyPost_ret (v:=.agg #[.string n,.int .i64 bad,.int .i64 took,.int .i64 all]) (by simp[results,Tryz.results22,go_sem,r0,r1,r2,r3]) rfl RRH.out
  ·obtain⟨m,rfl⟩:∃ m,k=m+1:=⟨k-1,by omega⟩;have hcd:((m+1:Nat):Int)-1=(m:Int):=by omega
   rw[hcd];have hge:decide ((m:Int) ≥ 0)=true:=decide_eq_true (by omega)
   by_cases hfull:all<last
   ·have hlt:decide (all<last)=true:=decide_eq_true hfull;obtain⟨br,or_,hA,_⟩:=hlH.out.2.1 (by have:=hllH.out;omega);have hslr:=hlH.out.below hb;rw[hA]at hslr ⊢;obtain⟨r,hr⟩:∃ r,l[m]? = some r:=⟨l[m]'(by omega),List.getElem?_eq_getElem _⟩;have hrs:=hsecH.out r (List.mem_of_getElem? hr);obtain⟨e0,e1,e2,e3,e4⟩:=cells_TestRun hslr hr;have hdr:=recF_drop last n hr;rw[hx]at hdr;obtain⟨rte,rke,rat,rps,rse⟩:=r;simp only at e0 e1 e2 e3 e4 hrs;have hm0:(0:Int)≤(m:Int):=by omega
    have hmn:(m:Int)<(len:Int):=by have:=hllH.out;omega
    have hwm:IntKind.i64.wrap ((m:Int)-1)=(m:Int)-1:=IntWalk.i64_in _ (by omega);have Rn:∀ (b' t' a':Int) (W:World),recF last n (l.drop m)=⟨b',t',a'⟩→Blk W xb [.string n,.int .i64 b',.int .i64 t',.int .i64 a']→Blk W rb [.string ⟨#[]⟩,.int .i64 0,.int .i64 0,.int .i64 0]→Below w.heap.size w W→RcRel l last n rb xb w (.int .i64 ((m:Int)-1)) W:=fun b' t' a' W h1 h2 h3 h4=>⟨m,by omega,rfl,by rw[h1];exact h2,h3,h4⟩;clear y0 y1 y2 y3 v0 v1 v2 v3 RZ
    by_cases hn:rte=n
    ·have hne2:(rte.toList==n.toList)=true:=by rw[beq_data,decide_eq_true hn]
     have hst2:recS last n ⟨rte,rke,rat,rps,rse⟩ ⟨bad,took,all⟩=⟨if rps=true then bad else bad+1,took+rse,all+1⟩:=by unfold recS;rw[if_pos ⟨hn,hfull⟩]
     rw[hst2]at hdr;have hwa:IntKind.i64.wrap (all+1)=all+1:=IntWalk.i64_in _ (by omega);have hwt:IntKind.i64.wrap (took+rse)=took+rse:=IntWalk.i64_in _ (by omega);have hwb:IntKind.i64.wrap (bad+1)=bad+1:=IntWalk.i64_in _ (by omega);obtain⟨W5,hW5⟩:∃ Y,wr.setCell ⟨xb,3,none⟩ (.int .i64 (all+1))=Y:=⟨_,rfl⟩;have hX5:Blk W5 xb [.string n,.int .i64 bad,.int .i64 took,.int .i64 (all+1)]:=by rw[← hW5];exact hX.set (k:=3) (by simp) _
     have hg5:=grown_setc wr ⟨xb,3,none⟩ (.int .i64 (all+1));rw[hW5]at hg5;have hR5:=hR.keep (hg5.block rb (hR.lt (by simp)) (fun e=>hne (by injection e with e <;> first | exact e | exact e.symm)));have hb5:Below w.heap.size w W5:=by rw[← hW5];exact hb.setCell (p:=⟨xb,3,none⟩) hxbw _
     have hbrx:br≠xb:=fun e=>by
      have h2:=hlH.out;rw[hA]at h2;have h1:=cell?_lt (cells_TestRun h2 hr).1;simp only at h1;omega
     have f3:W5.cell? ⟨br,or_+m*5+3,none⟩=some (.bool rps):=by rw[← hW5,World.cell?_setCell_other _ _ _ _ (by simp <;> omega)];exact e3
     have f4:W5.cell? ⟨br,or_+m*5+4,none⟩=some (.int .i64 rse):=by rw[← hW5,World.cell?_setCell_other _ _ _ _ (by simp <;> omega)];exact e4
     obtain⟨RnH,hXH,hRH,hbH,hxH,hrH,hslrH,hAH,hst2H,hW5H,hX5H,hg5H,hR5H,hb5H,hdrH⟩:=hq2 Rn (hq2 hX (hqb hR hb hx hr (hqc hslr hA hst2 hW5 hX5 hg5 hR5 hb5 (Lib.hid hdr))));clear Rn hX hR hb hx hr hslr hA hst2 hW5 hX5 hg5 hR5 hb5 hdr;go_wp2_with fail;rw[hW5H.out];clear e0 e1 e2 e3 e4 x0 x1 x2 x3 z1 z2 z3;have x2:=(hX5H.out 2 _ rfl).1;have z2:=(hX5H.out 2 _ rfl).2
     go_region
     obtain⟨W7,hW7⟩:∃ Y,(W5.setCell ⟨xb,2,none⟩ (.int .i64 (took+rse))).drew=Y:=⟨_,rfl⟩;have hX7:Blk W7 xb [.string n,.int .i64 bad,.int .i64 (took+rse),.int .i64 (all+1)]:=by rw[← hW7];exact(hX5H.out.set (k:=2) (by simp) _).keep rfl
     have hR7:Blk W7 rb [.string ⟨#[]⟩,.int .i64 0,.int .i64 0,.int .i64 0]:=by
      rw[← hW7];exact(hR5H.out.keep ((grown_setc W5 ⟨xb,2,none⟩ (.int .i64 (took+rse))).block rb (hR5H.out.lt (by simp)) (fun e=>hne (by injection e with e <;> first | exact e | exact e.symm)))).keep rfl
     have hb7:Below w.heap.size w W7:=by rw[← hW7];exact(hb5H.out.setCell (p:=⟨xb,2,none⟩) hxbw _).drew
     have g3:W7.cell? ⟨br,or_+m*5+3,none⟩=some (.bool rps):=by
      rw[← hW7];show (W5.setCell ⟨xb,2,none⟩ (.int .i64 (took+rse))).cell? _=_;rw[World.cell?_setCell_other _ _ _ _ (by simp <;> omega)];exact f3
     rw[hW7];clear f3 f4 x2 z2;have x1:=(hX7 1 _ rfl).1;have z1:=(hX7 1 _ rfl).2;have hdr:=hdrH.out
     cases rps
     ·rw[if_neg (by decide)]at hdr;have hX9:=hX7.set (k:=1) (by simp) (.int .i64 (bad+1));have hR9:=hR7.keep ((grown_setc W7 ⟨xb,1,none⟩ (.int .i64 (bad+1))).block rb (hR7.lt (by simp)) (fun e=>hne (by injection e with e <;> first | exact e | exact e.symm)));have R:=RnH.out _ _ _ _ hdr hX9 hR9 (hb7.setCell (p:=⟨xb,1,none⟩) hxbw _);obtain⟨RH,hX7H,hR7H,hb7H,hX9H,hR9H,hdrH,hW7H⟩:=hq2 R (hq2 hX7 (hq2 hR7 (hqb hb7 hX9 hR9 hdr (Lib.hid hW7))));clear R hX7 hR7 hb7 hX9 hR9 hdr hW7;go_wp2;refine⟨?rel,?measure⟩
      case measure=>exact(by simp[intOf])
      case rel=>first | exact RH.out | exact⟨rfl,RH.out⟩
     ·rw[if_pos rfl]at hdr;have R:=RnH.out _ _ _ _ hdr hX7 hR7 hb7;obtain⟨RH,hX7H,hR7H,hb7H,hdrH,hW7H⟩:=hq2 R (hqb hX7 hR7 hb7 hdr (Lib.hid hW7));clear R hX7 hR7 hb7 hdr hW7;go_wp2;refine⟨?rel,?measure⟩
      case measure=>exact(by simp[intOf])
      case rel=>first | exact RH.out | exact⟨rfl,RH.out⟩
    ·have hne2:(rte.toList==n.toList)=false:=by rw[beq_data,decide_eq_false hn]
     have hst2:recS last n ⟨rte,rke,rat,rps,rse⟩ ⟨bad,took,all⟩=⟨bad,took,all⟩:=by unfold recS;rw[if_neg (fun h=>hn h.1)]
     rw[hst2]at hdr;have R:=Rn _ _ _ wr hdr hX hR hb;obtain⟨RH,RnH,hXH,hRH,hbH,hxH,hdrH,hrH,hslrH,hAH,hst2H⟩:=hq2 R (hq2 Rn (hqc hX hR hb hx hdr hr hslr hA (Lib.hid hst2)));clear R Rn hX hR hb hx hdr hr hslr hA hst2;go_wp2;refine⟨?rel,?measure⟩
     case measure=>exact(by simp[intOf])
     case rel=>first | exact RH.out | exact⟨rfl,RH.out⟩
   ·have hlt:decide (all<last)=false:=decide_eq_false hfull;have hfu:=recF_full n (last:=last) (l:=l) (k:=m+1) (by rw[hx];simp only;omega);have RZ:=RZ (hfu.trans hx);clear hfu
    skip
    have hbz:Below w.heap.size w ((((wr.setCell ⟨rb,0,none⟩ (.string n)).setCell ⟨rb,1,none⟩ (.int .i64 bad)).setCell ⟨rb,2,none⟩ (.int .i64 took)).setCell ⟨rb,3,none⟩ (.int .i64 all)) :=
     (((hb.setCell (p:=⟨rb,0,none⟩) hrbw _).setCell (p:=⟨rb,1,none⟩) hrbw _).setCell (p:=⟨rb,2,none⟩) hrbw _).setCell (p:=⟨rb,3,none⟩) hrbw _
    have hBz:=(((hR.set (k:=0) (by simp) (.string n)).set (k:=1) (by simp) (.int .i64 bad)).set (k:=2) (by simp) (.int .i64 took)).set (k:=3) (by simp) (.int .i64 all);have r0:=(hBz 0 _ rfl).1;have r1:=(hBz 1 _ rfl).1;have r2:=(hBz 2 _ rfl).1;have r3:=(hBz 3 _ rfl).1;have RR:=RZ _ hbz;obtain⟨hXH,hRH,hbH,hxH,RZH,hbzH,hBzH,RRH⟩:=hq2 hX (hq2 hR (hq2 hb (hqb hx RZ hbz hBz (Lib.hid RR))));clear hX hR hb hx RZ hbz hBz RR;go_wp2;exact bodyPost_ret (v:=.agg #[.string n,.int .i64 bad,.int .i64 took,.int .i64 all]) (by simp[results,Tryz.results22,go_sem,r0,r1,r2,r3]) rfl RRH.out
end Go.Proofs.YtcdpdaloceengaaGreatDoor.C10