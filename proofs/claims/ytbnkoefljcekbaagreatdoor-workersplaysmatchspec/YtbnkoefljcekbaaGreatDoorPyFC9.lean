/-
 Several texts of mine as one, without what is not wanted here: XFm, XFmA, XBackI, XCrQ.
-/
import Derived.Test.YtbnkoefljcekbaaGreatDoorPyEC9
import Derived.RangeFuncNested
import Derived.RangeFuncLeaves
import Derived.RangeFuncBox
import Derived.Shelf.Abstract
import Derived.TacticsInMore
import Derived.LoopNIn
import Derived.LoopIn
import Derived.IntWalk
import Derived.Test.YtbnkoefljcekbaaGreatDoorPyGh
set_option linter.unusedVariables false
set_option linter.unusedSimpArgs false
set_option maxRecDepth 100000
set_option maxHeartbeats 8000000
namespace Go.Proofs.YtbnkoefljcekbaaGreatDoor.C9
open Go.ChangeShapes Go.WideShapes Go.Deep Go.RowKit
def Blk (w:World) (b:Nat) (vs:List Value):Prop:=∀ j v,vs[j]? = some v→w.cell? ⟨b,j,none⟩=some v∧w.frozen? ⟨b,j,none⟩=false
theorem Blk.keep {w w':World} {b:Nat} {vs:List Value} (h:Blk w b vs) (hb:w'.heap[b]? = w.heap[b]?):Blk w' b vs:=fun j v hj =>
 ⟨(World.cell?_of_block (a:=⟨b,j,none⟩) hb).trans (h j v hj).1,(World.frozen?_of_block (a:=⟨b,j,none⟩) hb).trans (h j v hj).2⟩
theorem Blk.lt {w:World} {b:Nat} {vs:List Value} (h:Blk w b vs) (hv:vs≠[]):b<w.heap.size:=by
 cases vs with
 | nil=>exact absurd rfl hv
 | cons v vs=>exact cell?_lt (h 0 v rfl).1
theorem Blk.set {w:World} {b k:Nat} {vs:List Value} (h:Blk w b vs) (hk:k<vs.length) (u:Value):Blk (w.setCell ⟨b,k,none⟩ u) b (vs.set k u):=by
 intro j v hj;rw[List.getElem?_set]at hj
 by_cases e:k=j
 ·subst e;rw[if_pos rfl,if_pos hk]at hj;injection hj with hj;subst hj;obtain⟨c,f⟩:=h k vs[k] (List.getElem?_eq_getElem hk);exact⟨World.cell?_setCell_same' _ _ _ (by rw[c];rfl),by rw[World.frozen?_setCell];exact f⟩
 ·rw[if_neg e]at hj;obtain⟨c,f⟩:=h j v hj;exact⟨by rw[World.cell?_setCell_other _ _ _ _ (by simp <;> omega)];exact c,by rw[World.frozen?_setCell];exact f⟩
def IRow (w:World) (b n:Nat) (f:Nat→Int):Prop:=∀ j,j<n→w.cell? ⟨b,j,none⟩=some (.int .i64 (f j))∧w.frozen? ⟨b,j,none⟩=false
theorem IRow.keep {w w':World} {b n:Nat} {f:Nat→Int} (h:IRow w b n f) (hb:w'.heap[b]? = w.heap[b]?):IRow w' b n f:=fun j hj =>
 ⟨(World.cell?_of_block (a:=⟨b,j,none⟩) hb).trans (h j hj).1,(World.frozen?_of_block (a:=⟨b,j,none⟩) hb).trans (h j hj).2⟩
theorem IRow.set {w:World} {b n k:Nat} {f:Nat→Int} (h:IRow w b n f) (u:Int):IRow (w.setCell ⟨b,k,none⟩ (.int .i64 u)) b n (fun j=>if j=k then u else f j):=fun j hj=>by
 refine⟨?_,by rw[World.frozen?_setCell];exact(h j hj).2⟩
 by_cases e:j=k
 ·subst e;simp only[if_true];exact World.cell?_setCell_same' _ _ _ (by rw[(h j hj).1];rfl)
 ·simp only[if_neg e];rw[World.cell?_setCell_other _ _ _ _ (by simp <;> omega)];exact(h j hj).1
theorem brow_kp {w w':World} {b n:Nat} {f:Nat→Bool} (h:BRow w b n f) (hb:w'.heap[b]? = w.heap[b]?):BRow w' b n f:=h.keep fun _=>hb
theorem own_kp {α:Type} {R:Rd α} {e:TypeId} {w w':World} {base:Nat} {v:Value} {l:List α} {row:Option Nat} (h:Own R e w base v l) (hg:w.grownBy w' row) (hne:∀ b,v.ownBlock=some b→row≠some b) (hok:∀ x∈l,R.ok w x→R.ok w' x):Own R e w' base v l :=
 h.kept hg (by
  cases hv:v.ownBlock with
  | none=>exact .inl rfl
  | some b=>exact .inr fun e=>hne b hv e.symm) hok
def wkd:Worker:=⟨ByteArray.empty,⟨none,0,0,[]⟩,0,0,0,0,⟨none,0,0,[]⟩⟩
def wod:Work:=⟨ByteArray.empty,⟨none,0,0,[]⟩,0,⟨none,0,0,[]⟩⟩
def wkOf (x:Farm) (k:Nat):Worker:=x.workers.l.getD k wkd
def woOf (x:Farm) (i:Nat):Work:=x.works.l.getD i wod
theorem wkOf_get {x:Farm} {k:Nat} {w:Worker} (h:x.workers.l[k]? = some w):wkOf x k=w:=by unfold wkOf;rw[List.getD_eq_getElem?_getD,h];rfl
theorem woOf_get {x:Farm} {k:Nat} {w:Work} (h:x.works.l[k]? = some w):woOf x k=w:=by unfold woOf;rw[List.getD_eq_getElem?_getD,h];rfl
def fpOf (x:Farm) (o:List Nat):FP where
 nW:=x.workers.l.length
 nX:=x.works.l.length
 fit:=fun k i=>fitF (woOf x i).needs.l (wkOf x k).has.l
 wfrom:=fun k=>(wkOf x k).from_
 wto:=fun k=>(wkOf x k).to_
 slots:=fun k=>(wkOf x k).slots
 speed:=fun k=>(wkOf x k).speed
 endAt:=fun k i t=>if (endsF (wkOf x k) (woOf x i).size t).2=true then some (endsF (wkOf x k) (woOf x i).size t).1 else none
 secs:=fun k i=>secsF (wkOf x k) (woOf x i).size
 loss:=fun k t=>decide ((⟨(wkOf x k).name,t⟩:Loss)∈x.lost.l)
 lossAt:=x.lost.l.map (·.at_)
 tries:=x.tries
 doubles:=x.doubles
 order:=o
 after:=gOf x.works.l
structure FarmOk (x:Farm):Prop where
 wk:∀ w∈x.workers.l,workerF w=0
 wkr:x.workers.l.Pairwise fun a b=>cmpS a.name b.name = -1
 wkn:x.workers.l.length≤50
 wo:WOk x.works.l
 lon:x.lost.l.length≤200
 lo:∀ s∈x.lost.l,(∃ w∈x.workers.l,w.name=s.worker)∧0≤s.at_∧s.at_≤1000000000
 tri:1≤x.tries∧x.tries≤10
def gr (F:FP) (r:RR):GRun:=⟨r.work,r.worker,r.from_,(F.endAt r.worker r.work r.from_).getD (-1)⟩
def toRun (x:Farm) (r:RR):Run:=⟨(woOf x r.work).id_,(wkOf x r.worker).name,r.from_,r.to_,r.end_⟩
structure FX where
 x:Farm
 S:List Int
 F:FP
 base:Nat
 f:Nat
 mb:Nat
 cb:Nat
 db:Nat
 lb:Nat
 tb:Nat
 gb:Nat
 c:Nat
def FX.N (X:FX):Nat:=X.x.works.n
def FX.bl (X:FX):List Nat:=[X.f,X.mb,X.cb,X.db,X.lb,X.tb,X.gb]
def FX.cells (X:FX) (now:Int) (rv ov:Value):List Value :=
 [.slice X.x.workers.A X.x.workers.n X.x.workers.cap,.slice X.x.works.A X.x.works.n X.x.works.cap,.slice X.x.lost.A X.x.lost.n X.x.lost.cap,.int .i64 X.x.tries,.bool X.x.doubles,
 .slice (some ⟨X.cb,0,none⟩) X.N X.N,.map (some X.mb),.int .i64 now,rv,.slice (some ⟨X.db,0,none⟩) X.N X.N,.slice (some ⟨X.lb,0,none⟩) X.N X.N,ov,.slice (some ⟨X.tb,0,none⟩) X.N X.N,.slice (some ⟨X.gb,0,none⟩) X.N X.N]
structure FC (X:FX) (K:KD Tryz.prog 71 Loss) (rv ov:Value) (s:PS) (w0 W:World):Prop where
 blk:Blk W X.f (X.cells s.now rv ov)
 crit:Sms W X.cb X.N X.S
 done:BRow W X.db X.N s.done
 lost:IRow W X.lb X.N s.lost
 last:IRow W X.tb X.N s.last
 begun:IRow W X.gb X.N s.begun
 map:TMap K (fun b:Bool=>Value.bool b) W X.mb (fun l=>if l∈X.x.lost.l then some true else none) X.c
 out:Own RRun 34 W X.base ov (s.out.map (toRun X.x))
 nd:X.bl.Nodup
 ge:∀ b∈X.bl,X.base≤b
 lt:∀ b∈X.bl,b<W.heap.size
 apart:∀ b∈X.bl,ov.ownBlock≠some b
 base:X.base=w0.heap.size
 bel:Below w0.heap.size w0 W
section
variable {X:FX} {K:KD Tryz.prog 71 Loss} {rv ov:Value} {s:PS} {w0 W W':World}
theorem FC.memf (h:FC X K rv ov s w0 W):X.f∈X.bl∧X.mb∈X.bl∧X.cb∈X.bl∧X.db∈X.bl∧X.lb∈X.bl∧X.tb∈X.bl∧X.gb∈X.bl:=by unfold FX.bl;simp
theorem FC.ne (h:FC X K rv ov s w0 W):X.f≠X.mb∧X.f≠X.cb∧X.f≠X.db∧X.f≠X.lb∧X.f≠X.tb∧X.f≠X.gb∧X.mb≠X.cb∧X.mb≠X.db∧X.mb≠X.lb∧X.mb≠X.tb∧X.mb≠X.gb∧X.cb≠X.db∧X.cb≠X.lb∧X.cb≠X.tb∧X.cb≠X.gb∧X.db≠X.lb∧X.db≠X.tb∧X.db≠X.gb∧X.lb≠X.tb∧X.lb≠X.gb∧X.tb≠X.gb:=by
 have:=h.nd;simp only[FX.bl,List.nodup_cons,List.mem_cons,List.not_mem_nil,or_false,not_or]at this;obtain⟨⟨a1,a2,a3,a4,a5,a6⟩,⟨b1,b2,b3,b4,b5⟩,⟨c1,c2,c3,c4⟩,⟨d1,d2,d3⟩,⟨e1,e2⟩,f1,_⟩:=this;exact⟨a1,a2,a3,a4,a5,a6,b1,b2,b3,b4,b5,c1,c2,c3,c4,d1,d2,d3,e1,e2,f1⟩
theorem run_ok_any (w w':World) (x:Run) (h:RRun.ok w x):RRun.ok w' x:=h
theorem FC.parts (h:FC X K rv ov s w0 W) {row:Option Nat} (hg:W.grownBy W' row) :
  (row≠some X.f→Blk W' X.f (X.cells s.now rv ov))∧(row≠some X.cb→Sms W' X.cb X.N X.S)∧(row≠some X.db→BRow W' X.db X.N s.done)∧(row≠some X.lb→IRow W' X.lb X.N s.lost)∧(row≠some X.tb→IRow W' X.tb X.N s.last) ∧
  (row≠some X.gb→IRow W' X.gb X.N s.begun)∧(row≠some X.mb→TMap K (fun b:Bool=>Value.bool b) W' X.mb (fun l=>if l∈X.x.lost.l then some true else none) X.c) ∧
  ((∀ b,ov.ownBlock=some b→row≠some b)→Own RRun 34 W' X.base ov (s.out.map (toRun X.x)))∧(∀ b∈X.bl,b<W'.heap.size)∧((∀ b,row=some b→X.base≤b)→Below w0.heap.size w0 W'):=by
 obtain⟨m1,m2,m3,m4,m5,m6,m7⟩:=h.memf;have hk:∀ b,b∈X.bl→row≠some b→W'.heap[b]? = W.heap[b]?:=fun b hb hne=>hg.block b (h.lt b hb) (fun e=>hne e.symm);refine⟨fun e=>h.blk.keep (hk _ m1 e),fun e=>h.crit.keep (hk _ m3 e),fun e=>brow_kp h.done (hk _ m4 e),fun e=>h.lost.keep (hk _ m5 e),fun e=>h.last.keep (hk _ m6 e),fun e=>h.begun.keep (hk _ m7 e),
  fun e=>h.map.kept hg (fun e2=>e e2.symm),fun e=>own_kp h.out hg e (fun x _ hx=>run_ok_any _ _ x hx),fun b hb=>Nat.lt_of_lt_of_le (h.lt b hb) hg.size,fun e=>?_⟩
 exact h.bel.grown hg h.bel.size (fun b hb=>by have:=e b hb;rw[h.base]at this;exact this)
theorem below_g {w w':World} (h:Below w.heap.size w w'):w.grownBy w' none:=⟨h.os,h.tape,h.output,h.size,fun k hk _=>h.block k hk⟩
theorem FC.below (h:FC X K rv ov s w0 W) (hb:Below W.heap.size W W'):FC X K rv ov s w0 W':=by
 obtain⟨p1,p2,p3,p4,p5,p6,p7,p8,p9,p10⟩:=h.parts (below_g hb);exact⟨p1 (by simp),p2 (by simp),p3 (by simp),p4 (by simp),p5 (by simp),p6 (by simp),p7 (by simp),p8 (by simp),h.nd,h.ge,p9,h.apart,h.base,p10 (by simp)⟩
theorem FC.far (h:FC X K rv ov s w0 W) {row:Option Nat} (hg:W.grownBy W' row) (hb:∀ b,row=some b→b ∉ X.bl∧ov.ownBlock≠some b∧X.base≤b):FC X K rv ov s w0 W':=by
 obtain⟨m1,m2,m3,m4,m5,m6,m7⟩:=h.memf;obtain⟨p1,p2,p3,p4,p5,p6,p7,p8,p9,p10⟩:=h.parts hg;have ne:∀ c∈X.bl,row≠some c:=fun c hc e=>(hb c e).1 hc;exact⟨p1 (ne _ m1),p2 (ne _ m3),p3 (ne _ m4),p4 (ne _ m5),p5 (ne _ m6),p6 (ne _ m7),p7 (ne _ m2),p8 (fun c hc e=>(hb c e).2.1 hc),h.nd,h.ge,p9,h.apart,h.base,p10 (fun c hc=>(hb c hc).2.2)⟩
theorem FC.lift (h:FC X K rv ov s w0 W) {b:Nat} (hb:b∈X.bl) (hg:W.grownBy W' (some b)) (s':PS) (rv':Value)
  (h1:b=X.f∧Blk W' X.f (X.cells s'.now rv' ov)∨b≠X.f∧s'.now=s.now∧rv'=rv)
  (h2:b=X.db∧BRow W' X.db X.N s'.done∨b≠X.db∧s'.done=s.done) (h3:b=X.lb∧IRow W' X.lb X.N s'.lost∨b≠X.lb∧s'.lost=s.lost) (h4:b=X.tb∧IRow W' X.tb X.N s'.last∨b≠X.tb∧s'.last=s.last)
  (h5:b=X.gb∧IRow W' X.gb X.N s'.begun∨b≠X.gb∧s'.begun=s.begun) (h6:b≠X.cb) (h7:b≠X.mb) (ho:s'.out=s.out):FC X K rv' ov s' w0 W':=by
 obtain⟨p1,p2,p3,p4,p5,p6,p7,p8,p9,p10⟩:=h.parts hg;have ne:∀ c,b≠c→some b≠some c:=fun c hc e=>hc (by injection e);refine⟨?_,p2 (ne _ h6),?_,?_,?_,?_,p7 (ne _ h7),?_,h.nd,h.ge,p9,h.apart,h.base,p10 (fun c hc=>by injection hc with hc;rw[← hc];exact h.ge b hb)⟩
 ·rcases h1 with ⟨_,h1⟩ | ⟨h1,e1,e2⟩
  ·exact h1
  ·rw[e1,e2];exact p1 (ne _ h1)
 ·rcases h2 with ⟨_,h2⟩ | ⟨h2,e⟩
  ·exact h2
  ·rw[e];exact p3 (ne _ h2)
 ·rcases h3 with ⟨_,h3⟩ | ⟨h3,e⟩
  ·exact h3
  ·rw[e];exact p4 (ne _ h3)
 ·rcases h4 with ⟨_,h4⟩ | ⟨h4,e⟩
  ·exact h4
  ·rw[e];exact p5 (ne _ h4)
 ·rcases h5 with ⟨_,h5⟩ | ⟨h5,e⟩
  ·exact h5
  ·rw[e];exact p6 (ne _ h5)
 ·rw[ho];exact p8 (fun c hc e=>h.apart b hb (by rw[hc,e]))
theorem FC.setDone (h:FC X K rv ov s w0 W) (k:Nat) (u:Bool):FC X K rv ov { s with done:=fun j=>if j=k then u else s.done j } w0 (W.setCell ⟨X.db,k,none⟩ (.bool u)):=by
 obtain⟨m1,m2,m3,m4,m5,m6,m7⟩:=h.memf;obtain⟨e1,e2,e3,e4,e5,e6,f1,f2,f3,f4,f5,g1,g2,g3,g4,i1,i2,i3,j1,j2,k1⟩:=h.ne;exact h.lift m4 (grown_setc W ⟨X.db,k,none⟩ _) _ rv (.inr ⟨e3.symm,rfl,rfl⟩) (.inl ⟨rfl,h.done.set u⟩) (.inr ⟨i1,rfl⟩) (.inr ⟨i2,rfl⟩) (.inr ⟨i3,rfl⟩) g1.symm f2.symm rfl
theorem FC.setLost (h:FC X K rv ov s w0 W) (k:Nat) (u:Int):FC X K rv ov { s with lost:=fun j=>if j=k then u else s.lost j } w0 (W.setCell ⟨X.lb,k,none⟩ (.int .i64 u)):=by
 obtain⟨m1,m2,m3,m4,m5,m6,m7⟩:=h.memf;obtain⟨e1,e2,e3,e4,e5,e6,f1,f2,f3,f4,f5,g1,g2,g3,g4,i1,i2,i3,j1,j2,k1⟩:=h.ne;exact h.lift m5 (grown_setc W ⟨X.lb,k,none⟩ _) _ rv (.inr ⟨e4.symm,rfl,rfl⟩) (.inr ⟨i1.symm,rfl⟩) (.inl ⟨rfl,h.lost.set u⟩) (.inr ⟨j1,rfl⟩) (.inr ⟨j2,rfl⟩) g2.symm f3.symm rfl
theorem FC.setLast (h:FC X K rv ov s w0 W) (k:Nat) (u:Int):FC X K rv ov { s with last:=fun j=>if j=k then u else s.last j } w0 (W.setCell ⟨X.tb,k,none⟩ (.int .i64 u)):=by
 obtain⟨m1,m2,m3,m4,m5,m6,m7⟩:=h.memf;obtain⟨e1,e2,e3,e4,e5,e6,f1,f2,f3,f4,f5,g1,g2,g3,g4,i1,i2,i3,j1,j2,k1⟩:=h.ne;exact h.lift m6 (grown_setc W ⟨X.tb,k,none⟩ _) _ rv (.inr ⟨e5.symm,rfl,rfl⟩) (.inr ⟨i2.symm,rfl⟩) (.inr ⟨j1.symm,rfl⟩) (.inl ⟨rfl,h.last.set u⟩) (.inr ⟨k1,rfl⟩) g3.symm f4.symm rfl
theorem FC.setBegun (h:FC X K rv ov s w0 W) (k:Nat) (u:Int):FC X K rv ov { s with begun:=fun j=>if j=k then u else s.begun j } w0 (W.setCell ⟨X.gb,k,none⟩ (.int .i64 u)):=by
 obtain⟨m1,m2,m3,m4,m5,m6,m7⟩:=h.memf;obtain⟨e1,e2,e3,e4,e5,e6,f1,f2,f3,f4,f5,g1,g2,g3,g4,i1,i2,i3,j1,j2,k1⟩:=h.ne;exact h.lift m7 (grown_setc W ⟨X.gb,k,none⟩ _) _ rv (.inr ⟨e6.symm,rfl,rfl⟩) (.inr ⟨i3.symm,rfl⟩) (.inr ⟨j2.symm,rfl⟩) (.inr ⟨k1.symm,rfl⟩) (.inl ⟨rfl,h.begun.set u⟩) g4.symm f5.symm rfl
theorem FC.setNow (h:FC X K rv ov s w0 W) (u:Int):FC X K rv ov { s with now:=u } w0 (W.setCell ⟨X.f,7,none⟩ (.int .i64 u)):=by
 obtain⟨m1,m2,m3,m4,m5,m6,m7⟩:=h.memf;obtain⟨e1,e2,e3,e4,e5,e6,f1,f2,f3,f4,f5,g1,g2,g3,g4,i1,i2,i3,j1,j2,k1⟩:=h.ne;exact h.lift m1 (grown_setc W ⟨X.f,7,none⟩ _) _ rv (.inl ⟨rfl,h.blk.set (k:=7) (by simp[FX.cells]) _⟩) (.inr ⟨e3,rfl⟩) (.inr ⟨e4,rfl⟩) (.inr ⟨e5,rfl⟩) (.inr ⟨e6,rfl⟩) e2 e1 rfl
theorem FC.setRuns (h:FC X K rv ov s w0 W) (rv':Value) (P:List RR):FC X K rv' ov { s with runs:=P } w0 (W.setCell ⟨X.f,8,none⟩ rv'):=by
 obtain⟨m1,m2,m3,m4,m5,m6,m7⟩:=h.memf;obtain⟨e1,e2,e3,e4,e5,e6,f1,f2,f3,f4,f5,g1,g2,g3,g4,i1,i2,i3,j1,j2,k1⟩:=h.ne;exact h.lift m1 (grown_setc W ⟨X.f,8,none⟩ _) _ rv' (.inl ⟨rfl,h.blk.set (k:=8) (by simp[FX.cells]) _⟩) (.inr ⟨e3,rfl⟩) (.inr ⟨e4,rfl⟩) (.inr ⟨e5,rfl⟩) (.inr ⟨e6,rfl⟩) e2 e1 rfl
theorem FC.setOut (h:FC X K rv ov s w0 W) {ov':Value} {L:List RR} (hg:W.grownBy W' ov.ownBlock) (ho:Own RRun 34 W' X.base ov' (L.map (toRun X.x))) (hat:∀ b,ov'.ownBlock=some b→ov.ownBlock=some b∨W.heap.size≤b) :
  FC X K rv ov' { s with out:=L } w0 (W'.setCell ⟨X.f,11,none⟩ ov'):=by
 obtain⟨m1,m2,m3,m4,m5,m6,m7⟩:=h.memf;obtain⟨e1,e2,e3,e4,e5,e6,f1,f2,f3,f4,f5,g1,g2,g3,g4,i1,i2,i3,j1,j2,k1⟩:=h.ne;obtain⟨p1,p2,p3,p4,p5,p6,p7,p8,p9,p10⟩:=h.parts hg;have ne:∀ c∈X.bl,ov.ownBlock≠some c:=fun c hc=>h.apart c hc;have hap:∀ b∈X.bl,ov'.ownBlock≠some b:=fun b hb e=>by
  rcases hat b e with e2 | hc
  ·exact ne b hb e2
  ·have:=h.lt b hb;omega
 have hg2:=grown_setc W' ⟨X.f,11,none⟩ ov';have hk:∀ b,b∈X.bl→b≠X.f→(W'.setCell ⟨X.f,11,none⟩ ov').heap[b]? = W'.heap[b]?:=fun b hb hne=>hg2.block b (p9 b hb) (fun e=>hne (by injection e));have hbel:=p10 (fun b hb=>(h.out.1.lt b hb).1);exact⟨(p1 (ne _ m1)).set (k:=11) (by simp[FX.cells]) _,(p2 (ne _ m3)).keep (hk _ m3 e2.symm),brow_kp (p3 (ne _ m4)) (hk _ m4 e3.symm),(p4 (ne _ m5)).keep (hk _ m5 e4.symm),(p5 (ne _ m6)).keep (hk _ m6 e5.symm),(p6 (ne _ m7)).keep (hk _ m7 e6.symm),
  (p7 (ne _ m2)).setCell (by simpa using e1.symm) _,own_kp ho hg2 (fun b hb e=>hap X.f m1 (by rw[hb];exact e.symm)) (fun x _ hx=>run_ok_any _ _ x hx),h.nd,h.ge,fun b hb=>by simpa using p9 b hb,hap,h.base,
  hbel.setCell (p:=⟨X.f,11,none⟩) (by have:=h.ge X.f m1;rw[h.base]at this;exact this) _⟩
structure FA (X:FX) (K:KD Tryz.prog 71 Loss) (rv ov:Value) (s:PS) (w0 W:World):Prop where
 core:FC X K rv ov s w0 W
 runs:Own RGRun 144 W X.base rv (s.runs.map (gr X.F))
 rap:∀ b∈X.bl,rv.ownBlock≠some b
 rov:∀ b,rv.ownBlock=some b→ov.ownBlock≠some b
theorem grun_ok_any (w w':World) (x:GRun) (h:RGRun.ok w x):RGRun.ok w' x:=h
theorem FA.below (h:FA X K rv ov s w0 W) (hb:Below W.heap.size W W'):FA X K rv ov s w0 W':=⟨h.core.below hb,h.runs.below hb,h.rap,h.rov⟩
theorem FA.put (h:FA X K rv ov s w0 W) {rv':Value} {L:List RR} (hg:W.grownBy W' rv.ownBlock) (ho:Own RGRun 144 W' X.base rv' (L.map (gr X.F))) (hat:∀ b,rv'.ownBlock=some b→rv.ownBlock=some b∨W.heap.size≤b) :
  FA X K rv' ov { s with runs:=L } w0 (W'.setCell ⟨X.f,8,none⟩ rv'):=by
 have hlo:∀ b,rv.ownBlock=some b→X.base≤b:=fun b hb=>(h.runs.1.lt b hb).1;have hc:=h.core.far hg (fun b hb=>⟨fun hm=>h.rap b hm hb,h.rov b hb,hlo b hb⟩);have hap:∀ b∈X.bl,rv'.ownBlock≠some b:=fun b hb e=>by
  rcases hat b e with e2 | e2
  ·exact h.rap b hb e2
  ·have:=h.core.lt b hb;omega
 have hg2:=grown_setc W' ⟨X.f,8,none⟩ rv';refine⟨hc.setRuns rv' L,own_kp ho hg2 (fun b hb e=>hap X.f h.core.memf.1 (by rw[hb];exact e.symm)) (fun x _ hx=>grun_ok_any _ _ x hx),hap,fun b hb e=>?_⟩
 rcases hat b hb with e2 | e2
 ·exact h.rov b e2 e
 ·have:=(h.core.out.1.lt b e).2;omega
structure FS (X:FX) (s:PS) (w0:World):Prop where
 ok:FarmOk X.x
 F:∃ o,X.F=fpOf X.x o
 ws:(RSl RWorker).ok w0 X.x.workers
 xs:(RSl RWork).ok w0 X.x.works
 ls:(RSl RLoss).ok w0 X.x.lost
 t0:0≤s.now
 t1:s.now≤1000000000
 rn:∀ r∈s.runs,going r=true∧r.to_=0∧r.worker<X.F.nW∧r.work<X.F.nX∧0≤r.from_∧r.from_≤s.now
end
theorem busy_take {P:List RR} {n k:Nat} {r:RR} (hg:∀ r∈P,going r=true) (h:P[n]? = some r):busy (P.take (n+1)) k=busy (P.take n) k+(if r.worker=k then 1 else 0):=by
 unfold busy;rw[List.take_add_one,h,Option.toList_some,List.countP_append,List.countP_singleton,hg r (List.mem_of_getElem? h)]
 by_cases e:r.worker=k
 ·simp[e]
 ·simp[e]
theorem busy_len (P:List RR) (k:Nat):busy P k≤P.length:=List.countP_le_length
def RnRel (P:List RR) (k:Nat) (w:World) (n i:Value) (wr:World):Prop :=
 ∃ j:Nat,j≤P.length∧i = .int .i64 j∧n = .int .i64 (busy (P.take j) k)∧Below w.heap.size w wr
theorem running_any (fb:Nat) (A:Option Addr) (n cap:Nat) (F:FP) (P:List RR) (k:Nat) (w:World) (h8:w.cell? ⟨fb,8,none⟩=some (.slice A n cap)) (hl:SlAt RGRun w A n (P.map (gr F))) (hn:n≤1000000) (hg:∀ r∈P,going r=true) :
  Calls Tryz.prog 205 #[.pointer (some ⟨fb,0,none⟩),.int .i64 k] w fun e w'=>e = .returned (.int .i64 (busy P k))∧Below w.heap.size w w':=by
 have hll:P.length=n:=by have:=hl.1;rwa [List.length_map]at this
 have hfl:=cell?_lt h8;obtain⟨hlH,hgH,hllH⟩:=hq2 hl (hq2 hg (Lib.hid hll));clear hl hg hll;go_enter Tryz.func205,Tryz.ntmps205;go_wp2_with fail
 go_loopw [5,13] (fun c i wr=>RnRel P k w c i wr) (fun _ i _=>n-(intOf i).toNat)
 case atStart=>exact⟨0,Nat.zero_le _,rfl,rfl,Below.refl _ _⟩
 case round =>
  obtain⟨j,hj,rfl,rfl,hb⟩:=hrel;have hbl:=busy_len (P.take j) k;rw[List.length_take]at hbl;have hln:=hllH.out
  by_cases hlt:j<n
  ·obtain⟨b,off,hA,_⟩:=hlH.out.2.1 (by omega);subst hA;obtain⟨r,hr⟩:∃ r,P[j]? = some r:=⟨P[j]'(by omega),List.getElem?_eq_getElem _⟩;obtain⟨d0,d1,d2,d3⟩:=cells_GRun (hlH.out.below hb) (x:=gr F r) (by rw[List.getElem?_map,hr];rfl);have hst:=busy_take (k:=k) hgH.out hr;have hbs:=hb.size;have hba:=hb.alloc hbs (.cells #[.int .i64 (gr F r).work,.int .i64 (gr F r).worker,.int .i64 (gr F r).from_,.int .i64 (gr F r).end_] 144);have hw:(gr F r).worker=(r.worker:Int):=rfl;obtain⟨c,hc⟩:∃ c,busy (P.take j) k=c:=⟨_,rfl⟩;rw[hc]at hst hbl ⊢;rw[hw]at d1 hba;obtain⟨g0,hg0⟩:∃ g,(gr F r).work=g:=⟨_,rfl⟩;obtain⟨g2,hg2⟩:∃ g,(gr F r).from_=g:=⟨_,rfl⟩;obtain⟨g3,hg3⟩:∃ g,(gr F r).end_=g:=⟨_,rfl⟩;rw[hg0]at d0 hba;rw[hg2]at d2 hba;rw[hg3]at d3 hba;have hj1:j+1≤P.length:=by omega
   by_cases e:r.worker=k
   ·rw[if_pos e]at hst;have R:RnRel P k w (.int .i64 ((c:Int)+1)) (.int .i64 ((j:Int)+1)) (wr.alloc (.cells #[.int .i64 g0,.int .i64 r.worker,.int .i64 g2,.int .i64 g3] 144)) :=
     ⟨j+1,hj1,by go_num,by rw[hst];go_num,hba⟩
    have e':((r.worker:Int)==(k:Int))=true:=by rw[e];simp
    clear e hw hg0 hg2 hg3;obtain⟨hrH,hbH,hstH,hbaH,hcH,RH,hlnH⟩:=hq2 hr (hq2 hb (hqb hst hba hc R (Lib.hid hln)));clear hr hb hst hba hc R hln;go_wp2;refine⟨?rel,?measure⟩
    case measure=>(simp[intOf];omega)
    case rel=>first | exact RH.out | exact⟨rfl,RH.out⟩
   ·rw[if_neg e]at hst;have R:RnRel P k w (.int .i64 (c:Int)) (.int .i64 ((j:Int)+1)) (wr.alloc (.cells #[.int .i64 g0,.int .i64 r.worker,.int .i64 g2,.int .i64 g3] 144)) :=
     ⟨j+1,hj1,by go_num,by rw[hst];go_num,hba⟩
    have e':((r.worker:Int)==(k:Int))=false:=by simpa using fun h=>e (by omega)
    clear e hw hg0 hg2 hg3;obtain⟨hrH,hbH,hstH,hbaH,hcH,RH,hlnH⟩:=hq2 hr (hq2 hb (hqb hst hba hc R (Lib.hid hln)));clear hr hb hst hba hc R hln;go_wp2;refine⟨?rel,?measure⟩
    case measure=>(simp[intOf];omega)
    case rel=>first | exact RH.out | exact⟨rfl,RH.out⟩
  ·obtain rfl:j=n:=by omega
   rw[List.take_of_length_le (by omega)];obtain⟨hbH,hlnH,hblH⟩:=hq2 hb (hq2 hln (Lib.hid hbl));clear hb hln hbl;go_wp2;go_ret;exact⟨rfl,hbH.out⟩
end Go.Proofs.YtbnkoefljcekbaaGreatDoor.C9
namespace Go.Proofs.YtbnkoefljcekbaaGreatDoor.C9
open Go.RowKit Go.Shelf
attribute [local go_sem] Oper.semAt_some
theorem cell_IntW {w:World} {b off m k:Nat} {l:List Int} {x:Int} (h:SlAt RInt w (some ⟨b,off,none⟩) m l) (hx:l[k]? = some x):w.cell? ⟨b,off+k,none⟩=some (.int .i64 x):=by
 have hk:=(List.getElem?_eq_some_iff.1 hx).1;obtain⟨b',off',hA,hc⟩:=h.2.1 (by have:=h.1;omega);obtain⟨rfl,rfl⟩:b=b'∧off=off':=by simpa using hA
 have:=hc k x hx 0 _ rfl
 simpa[RInt]using this
structure BelBut (q n:Nat) (w w':World):Prop where
 size:w.heap.size≤w'.heap.size
 block:∀ k,k<n→k≠q→w'.heap[k]? = w.heap[k]?
theorem BelBut.refl (q n:Nat) (w:World):BelBut q n w w:=⟨Nat.le_refl _,fun _ _ _=>rfl⟩
theorem BelBut.trans {q n:Nat} {a b c:World} (h:BelBut q n a b) (k:BelBut q n b c):BelBut q n a c:=⟨Nat.le_trans h.size k.size,fun j hj hq=>(k.block j hj hq).trans (h.block j hj hq)⟩
theorem BelBut.cell {q n:Nat} {w w':World} (h:BelBut q n w w') {p:Addr} (hp:p.block<n) (hq:p.block≠q):w'.cell? p=w.cell? p:=World.cell?_of_block (w:=w) (h.block p.block hp hq)
theorem BelBut.of {q n:Nat} {w w':World} (h:Below n w w'):BelBut q n w w':=⟨h.size,fun k hk _=>h.block k hk⟩
theorem BelBut.put {q n:Nat} (W:World) (l:Nat) (o':Obj) (hl:n≤l):BelBut q n W (W.putObj l o'):=by
 refine⟨by simp[World.putObj],fun k hk _=>?_⟩;simp only[World.putObj];rw[Array.getElem?_setIfInBounds_ne (by omega)]
theorem BelBut.setCell {q n:Nat} {a w:World} (h:BelBut q n a w) {p:Addr} (hp:p.block=q) (u:Value):BelBut q n a (w.setCell p u) :=
 ⟨by simpa using h.size,fun k hk hq=>(Below.heap_setCell w p u k (by rw[hp];exact hq)).trans (h.block k hk hq)⟩
def downF (n:Nat):List (Fin n):=(List.finRange n).reverse
theorem downF_len (n:Nat):(downF n).length=n:=by simp[downF]
theorem downF_get {n k:Nat} (hk:k<n):(downF n)[k]? = some ⟨n-1-k,by omega⟩:=by
 rw[List.getElem?_eq_getElem (by simpa[downF]using hk)];simp[downF,List.getElem_reverse]
theorem downF_take {n k:Nat} (hk:k<n):(downF n).take (k+1)=(downF n).take k ++ [⟨n-1-k,by omega⟩]:=by
 rw[List.take_add_one,downF_get hk];rfl
def encI (l:List Int) (i:Fin l.length):Array Value:=#[.int .i64 (i.val:Int),(.int .i64 l[i])]
theorem back1_in (F:Fence) (n:Nat) (h8:F.fn 143) (hro:F.round=none) (hn:1≤n) (lp Bs n₀ len cap:Nat) (A:Option Addr) (l:List Int) (hlen:len≤1000) (q:Nat) (hA:0<len→∃ b off,A=some ⟨b,off,none⟩∧b<n₀∧b≠q) (hBn:Bs<n₀) (hBq:Bs≠q)
  (J Jx:List (Fin l.length)→World→Prop)
  (hY:∀ pre (x:Fin l.length) W,J pre W→pre.length<l.length→YieldAt F (n-1) Tryz.prog lp (encI l x) W fun e W' =>
   (e = .returned (.bool true)∧J (pre ++ [x]) W'∧BelBut q n₀ W W')∨(e = .returned (.bool false)∧Jx (pre ++ [x]) W'))
  (W:World) (hBs:W.cell? ⟨Bs,0,none⟩=some (.slice A len cap)) (hsl:SlAt RInt W A len l) (h0:J [] W) :
  CallsIn F n Tryz.prog 143 #[.func (.yield lp) #[] #[],.pointer (some ⟨Bs,0,none⟩)] W fun e W'=>(∃ v,e = .returned v) ∧
   (J (downF l.length) W'∨∃ k,k≤l.length∧Jx ((downF l.length).take k) W'):=by
 have hll:=hsl.1;have n1:IntKind.i64.wrap ((len:Int)-1)=(len:Int)-1:=IntWalk.i64_in _ (by omega);refine callsIn_of_wp Tryz.func143 rfl h8 ?_ hro;simp only[Tryz.ntmps143,List.size_toArray,List.length_cons,List.length_nil,Nat.reduceAdd,Nat.reduceSub,Array.replicate_succ,Array.replicate_zero,List.push_toArray,List.append_toArray,List.nil_append,List.cons_append];obtain⟨hllH,hslH⟩:=hq2 hll (Lib.hid hsl);clear hll hsl
 gi_wp2
 clear n1
 gi_loopw [3] (fun i wr=>∃ k:Nat,k≤len∧i = .int .i64 ((len:Int)-1-k)∧J ((downF l.length).take k) wr∧BelBut q n₀ W wr)
  (fun i _=>(intOf i+1).toNat)
 case atStart=>exact⟨0,Nat.zero_le _,by simp,h0,BelBut.refl _ _ _⟩
 case round =>
  obtain⟨k,hk,rfl,hJs,hnx⟩:=hrel;have hc0:=(hnx.cell (p:=⟨Bs,0,none⟩) hBn hBq).trans hBs
  by_cases hlt:k<len
  ·obtain⟨b,off,hA1,hb,hbq⟩:=hA (by omega);subst hA1;have hkl:k<l.length:=by rw[hllH.out];exact hlt
   obtain⟨p,hp⟩:∃ p:Nat,p=l.length-1-k:=⟨_,rfl⟩;have hpl:p<l.length:=by omega
   have hpI:(len:Int)-1-k=(p:Int):=by have:=hllH.out;omega
   have hx:l[p]? = some l[p]:=List.getElem?_eq_getElem hpl;have d0:=cell_IntW hslH.out hx;have c0:=(hnx.cell (p:=⟨b,off+p,none⟩) hb hbq).trans d0;clear d0;obtain⟨fn,tmps,assign,body,hy,hR⟩:=hY _ (⟨p,hpl⟩:Fin l.length) wr hJs (by rw[List.length_take,downF_len];omega)
   dsimp only[encI,Fin.getElem_fin]at hy
   have htk:(downF l.length).take (k+1)=(downF l.length).take k ++ [⟨p,hpl⟩]:=by subst hp;exact downF_take hkl
   obtain⟨x,hxe⟩:∃ x,x=l[p]:=⟨_,rfl⟩;rw[← hxe]at c0 hy;have h2:(p:Int)<(len:Int):=by have:=hllH.out;omega
   rw[hpI];have n2:IntKind.i64.wrap ((p:Int)-1)=(p:Int)-1:=IntWalk.i64_in _ (by omega);have hmeas:((p:Int)-1+1).toNat<((p:Int)+1).toNat:=by omega
   have hnext:((len:Int)-1-((k+1:Nat):Int))=(p:Int)-1:=by omega
   clear hx;obtain⟨hpH,hxeH,htkH,hpIH,hnextH,hmeasH⟩:=hq2 hp (hqb hxe htk hpI hnext (Lib.hid hmeas));clear hp hxe htk hpI hnext hmeas
   gi_wp2
   refine hR.mono ?_;rintro e W3 (⟨rfl,hJ3,hk3⟩ | ⟨rfl,hJx3⟩)
   ·rw[← htkH.out]at hJ3
    gi_wp2
    go_roundw
    case rel=>exact⟨k+1,by omega,by rw[hnextH.out],hJ3,hnx.trans hk3⟩
    case measure=>exact hmeasH.out
   ·rw[← htkH.out]at hJx3
    gi_wp2
    refine bodyPost_ret (results_none rfl _ _ _) rfl ?_;exact⟨⟨_,rfl⟩,.inr ⟨k+1,by omega,hJx3⟩⟩
  ·obtain rfl:k=len:=by omega
   have hall:(downF l.length).take k=downF l.length:=List.take_of_length_le (by rw[downF_len,hllH.out];exact Nat.le_refl _);rw[hall]at hJs;have hz:(k:Int)-1-k = -1:=by omega
   rw[hz];clear hz hall
   gi_wp2
   go_end0
   exact⟨⟨_,rfl⟩,.inl hJs⟩
theorem back_any (A:Option Addr) (len cap:Nat) (w:World) :
  Calls Tryz.prog 97 #[.slice A len cap] w fun e w' =>
   e = .returned (.func (.func 143) #[] #[.pointer (some ⟨w.heap.size,0,none⟩)])∧w'=w.alloc (.cells #[.slice A len cap] 56):=by
 go_enter Tryz.func97,Tryz.ntmps97;go_wp2;go_ret;exact⟨rfl,rfl⟩
theorem back_stops (F:Fence) (n:Nat) (h8:F.fn 143) (hro:F.round=none) (hn:1≤n) (Bs n₀ len cap:Nat) (A:Option Addr) (l:List Int) (hlen:len≤1000) (q:Nat) (hA:0<len→∃ b off,A=some ⟨b,off,none⟩∧b<n₀∧b≠q) (hBn:Bs<n₀) (hBq:Bs≠q) (w:World) (hn₀:n₀≤w.heap.size)
  (hc:w.cell? ⟨Bs,0,none⟩=some (.slice A len cap)) (hsl:SlAt RInt w A len l) :
  SeqStopsK F n Tryz.prog 143 #[.pointer (some ⟨Bs,0,none⟩)] (encI l) (BelBut q n₀) (fun ys=>ys=downF l.length)
   (fun pre=>∃ k,k≤l.length∧pre=(downF l.length).take k) l.length w:=fun lp J Jx W hW _ _ hY h0=>by
 refine(back1_in F n h8 hro hn lp Bs n₀ len cap A l hlen q hA hBn hBq J Jx hY W ((hW.cell (p:=⟨Bs,0,none⟩) (by show Bs<_;omega)).trans hc) (hsl.below hW) h0).mono ?_;rintro e W' ⟨he,hj | ⟨k,hk,hj⟩⟩
 ·exact⟨he,.inl ⟨_,rfl,hj⟩⟩
 ·exact⟨he,.inr ⟨_,⟨k,hk,rfl⟩,hj⟩⟩
end Go.Proofs.YtbnkoefljcekbaaGreatDoor.C9
namespace Go.Proofs.YtbnkoefljcekbaaGreatDoor.C9
open Go.RowKit
def stI (i:Nat) (S:List Int) (k:Nat):List Int:=S.set k (max (gt S k) (gt S i))
def stO (l:List Work) (S:List Int) (i:Nat):List Int:=(gOf l i).foldl (stI i) (S.set i (wrap64 (gt S i+szOf l i)))
def runO (l:List Work) (N:Nat) (is:List Nat):List Int:=is.foldl (stO l) (List.replicate N 0)
theorem runO_snoc (l:List Work) (N:Nat) (is:List Nat) (i:Nat):runO l N (is ++ [i])=stO l (runO l N is) i:=by unfold runO;rw[List.foldl_append];rfl
theorem fold_bi {S1:List Int} {i:Nat} {c:Int} (hc:gt S1 i=c):∀ (ks pre:List Nat) (S:List Int),Bi S1 c pre S→(∀ k∈ks,k<S1.length∧k≠i)→i ∉ pre→Bi S1 c (pre++ks) (ks.foldl (stI i) S)
 | [],pre,S,h,_,_=>by simpa using h
 | k::ks,pre,S,h,hk,hi=>by
  have e:gt S i=c:=by rw[h.at_,if_neg hi,hc]
  have h2:=h.step (k:=k) (by rw[h.len];exact(hk k List.mem_cons_self).1);have h3:=fold_bi hc ks (pre ++ [k]) (stI i S k) (by unfold stI;rw[e];exact h2) (fun j hj=>hk j (List.mem_cons_of_mem _ hj)) (fun h=>by
   rcases List.mem_append.1 h with h | h
   ·exact hi h
   ·exact(hk k List.mem_cons_self).2 (List.mem_singleton.1 h).symm)
  rw[List.append_assoc]at h3;exact h3
def ixO (out:List Nat) {n:Nat} (x:Fin n):Nat:=out.getD x.val 0
theorem runO_bk {l:List Work} {N:Nat} {C:Nat→Int} {out:List Nat} {n:Nat} (hn:n=N) (ht:Topo (gOf l) N out) (hl:out.length=N) (hC:Crit (gOf l) (szOf l) N C) (hb:∀ j,j<N→0≤C j∧C j≤200000000) :
  ∀ k,k≤N→Bk (gOf l) (szOf l) N C out k (runO l N (((downF n).take k).map (ixO out)))
 | 0,_=>by simpa[runO]using Bk.nil hl
 | k+1,hk=>by
  subst hn;have ih:=runO_bk rfl ht hl hC hb k (by omega);rw[downF_take (by omega),List.map_append,List.map_singleton,runO_snoc];have hi:out[n-1-k]? = some (ixO out (⟨n-1-k,by omega⟩:Fin n)):=by
   unfold ixO;rw[List.getD_eq_getElem?_getD,List.getElem?_eq_getElem (by omega)];rfl
  obtain⟨i,hie⟩:∃ i,ixO out (⟨n-1-k,by omega⟩:Fin n)=i:=⟨_,rfl⟩;rw[hie]at hi ⊢;obtain⟨S,hS⟩:∃ S,runO l n (((downF n).take k).map (ixO out))=S:=⟨_,rfl⟩;rw[hS]at ih ⊢;obtain⟨t0,t1,t2,t3,t4⟩:=ih.turn ht hl hC (by omega) hi;refine ih.step ht hl hC (fun j hj=>(hb j hj).1) (by omega) hi ?_;unfold stO;have hbi:=hb i t0;rw[t1,IntWalk.wrap64_in _ (by omega)];have hlt:i<S.length:=by rw[ih.len];exact t0
  have:=fold_bi (S1:=S.set i (C i)) (i:=i) (c:=C i) (by rw[gt_set hlt,if_pos rfl]) (gOf l i) [] _ (Bi.nil _ _) (fun k hk=>⟨by rw[List.length_set,ih.len];exact(t4 k hk).1,fun e=>by subst e;exact t2 hk⟩) (by simp)
  simpa using this
theorem runO_all {l:List Work} {N:Nat} {C:Nat→Int} {out:List Nat} {n:Nat} (hn:n=N) (ht:Topo (gOf l) N out) (hl:out.length=N) (hC:Crit (gOf l) (szOf l) N C) (hb:∀ j,j<N→0≤C j∧C j≤200000000) :
  ∀ j,j<N→gt (runO l N ((downF n).map (ixO out))) j=C j:=by
 have h:=runO_bk hn ht hl hC hb N (Nat.le_refl _);rw[List.take_of_length_le (by rw[downF_len];omega)]at h;exact h.all ht hl
end Go.Proofs.YtbnkoefljcekbaaGreatDoor.C9