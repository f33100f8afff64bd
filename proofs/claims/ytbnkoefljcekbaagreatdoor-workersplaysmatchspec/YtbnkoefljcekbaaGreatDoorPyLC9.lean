/-
 Several texts of mine as one, without what is not wanted here: XFmC, XFmD.
-/
import Derived.Test.YtbnkoefljcekbaaGreatDoorPyKC9
set_option linter.unusedVariables false
set_option linter.unusedSimpArgs false
set_option maxRecDepth 100000
set_option maxHeartbeats 8000000
namespace Go.Proofs.YtbnkoefljcekbaaGreatDoor.C9
open Go.ChangeShapes Go.WideShapes Go.Deep Go.RowKit
theorem elem_GRun:Elem Tryz.prog 144 RGRun.size 32:=elem_of (z:=.agg #[.int .i64 0,.int .i64 0,.int .i64 0,.int .i64 0]) (by kernel_rfl) (by decide)
section
variable {X:FX} {K:KD Tryz.prog 71 Loss} {rv ov:Value} {s:PS} {w0 W W':World}
theorem FA.cell (h:FA X K rv ov s w0 W) {b o:Nat} {u:Value} (hb:b∈X.bl) {s':PS} (hc:FC X K rv ov s' w0 (W.setCell ⟨b,o,none⟩ u)) (hr:s'.runs=s.runs):FA X K rv ov s' w0 (W.setCell ⟨b,o,none⟩ u) :=
 ⟨hc,by rw[hr];exact own_kp h.runs (grown_setc W ⟨b,o,none⟩ u) (fun c hc e=>h.rap b hb (by rw[hc];exact e.symm)) (fun x _ hx=>grun_ok_any _ _ x hx),h.rap,h.rov⟩
theorem FA.own_lt (h:FA X K rv ov s w0 W):(∀ b,rv.ownBlock=some b→b<W.heap.size)∧(∀ b,ov.ownBlock=some b→b<W.heap.size):=⟨fun b hb=>(h.runs.1.lt b hb).2,fun b hb=>(h.core.out.1.lt b hb).2⟩
theorem FA.far (h:FA X K rv ov s w0 W) {b o:Nat} {u:Value} (h1:b ∉ X.bl) (h2:ov.ownBlock≠some b) (h3:rv.ownBlock≠some b) (h4:X.base≤b):FA X K rv ov s w0 (W.setCell ⟨b,o,none⟩ u):=by
 have hg:=grown_setc W ⟨b,o,none⟩ u;exact⟨h.core.far hg (fun c hc=>by injection hc with hc;subst hc;exact⟨h1,h2,h4⟩),own_kp h.runs hg (fun c hc e=>h3 (by rw[hc];exact e.symm)) (fun x _ hx=>grun_ok_any _ _ x hx),h.rap,h.rov⟩
theorem FA.mid (h:FA X K rv ov s w0 W) (hg:W.grownBy W' rv.ownBlock):FC X K rv ov s w0 W':=h.core.far hg (fun b hb=>⟨fun hm=>h.rap b hm hb,h.rov b hb,(h.runs.1.lt b hb).1⟩)
theorem FA.new (h:FA X K rv ov s w0 W):W.heap.size ∉ X.bl∧ov.ownBlock≠some W.heap.size∧rv.ownBlock≠some W.heap.size∧X.base≤W.heap.size :=
 ⟨fun hm=>Nat.lt_irrefl _ (h.core.lt _ hm),fun e=>Nat.lt_irrefl _ (h.own_lt.2 _ e),fun e=>Nat.lt_irrefl _ (h.own_lt.1 _ e),by rw[h.core.base];exact h.core.bel.size⟩
end
def begS (F:FP) (s:PS) (i:Nat) (bo:Option Nat):PS:={ s with runs:=(beginP F s.now i bo (s.runs,s.begun)).1,begun:=(beginP F s.now i bo (s.runs,s.begun)).2 }
theorem begS_none {F:FP} {s:PS} {i:Nat} {bo:Option Nat} (h:bestW (canW F s.now s.runs i bo) F.speed F.nW=none):begS F s i bo=s:=by
 unfold begS beginP;simp only[h]
theorem begS_some {F:FP} {s:PS} {i k:Nat} {bo:Option Nat} (h:bestW (canW F s.now s.runs i bo) F.speed F.nW=some k) :
  begS F s i bo = { s with runs:=s.runs ++ [⟨i,k,s.now,0,0⟩],begun:=fun j=>if j=i then s.begun j+1 else s.begun j }:=by
 unfold begS beginP;simp only[h]
theorem FS.beg {X:FX} {s:PS} {w0:World} (h:FS X s w0) {i:Nat} (hi:i<X.F.nX) (bo:Option Nat):FS X (begS X.F s i bo) w0:=by
 cases hb:bestW (canW X.F s.now s.runs i bo) X.F.speed X.F.nW with
 | none=>rw[begS_none hb];exact h
 | some k =>
  rw[begS_some hb];refine⟨h.ok,h.F,h.ws,h.xs,h.ls,h.t0,h.t1,fun r hr=>?_⟩
  rcases List.mem_append.1 hr with hr | hr
  ·exact h.rn r hr
  ·rw[List.mem_singleton.1 hr];exact⟨rfl,rfl,(bestW_some hb).1,hi,h.t0,Int.le_refl _⟩
theorem FS.wo {X:FX} {s:PS} {w0:World} (h:FS X s w0) {i:Nat} {z:Work} (hz:X.x.works.l[i]? = some z):1≤z.size∧z.size≤1000000:=h.ok.wo.size z (List.mem_of_getElem? hz)
theorem FS.ends {X:FX} {s:PS} {w0:World} (h:FS X s w0) {k i:Nat} {y:Worker} {z:Work} (hy:X.x.workers.l[k]? = some y) (hz:X.x.works.l[i]? = some z) (t:Int) :
  X.F.endAt k i t=if (endsF y z.size t).2=true then some (endsF y z.size t).1 else none:=by
 obtain⟨o,e⟩:=h.F;rw[e];simp only[fpOf];rw[wkOf_get hy,woOf_get hz]
theorem FS.endV {X:FX} {s:PS} {w0:World} (h:FS X s w0) {k i:Nat} {y:Worker} {z:Work} (hy:X.x.workers.l[k]? = some y) (hz:X.x.works.l[i]? = some z) (t:Int) {a:Int} {b:Bool} (he:endsF y z.size t=(a,b)) :
  (X.F.endAt k i t).getD (-1)=if b=true then a else -1:=by
 rw[h.ends hy hz,he]
 cases b <;> rfl
theorem keep11 {W w':World} {a0 a1 a2 a3 a4 a5 a6 a7 a8 a9 a10:Addr} {v0 v1 v2 v3 v4 v5 v6 v7 v8 v9 v10:Value} (hb:Below W.heap.size W w') (h:W.cell? a0=some v0∧W.cell? a1=some v1∧W.cell? a2=some v2∧W.cell? a3=some v3∧W.cell? a4=some v4∧W.cell? a5=some v5∧W.cell? a6=some v6∧W.cell? a7=some v7∧W.cell? a8=some v8∧W.cell? a9=some v9∧W.cell? a10=some v10) :
  w'.cell? a0=some v0∧w'.cell? a1=some v1∧w'.cell? a2=some v2∧w'.cell? a3=some v3∧w'.cell? a4=some v4∧w'.cell? a5=some v5∧w'.cell? a6=some v6∧w'.cell? a7=some v7∧w'.cell? a8=some v8∧w'.cell? a9=some v9∧w'.cell? a10=some v10 :=
 ⟨keepC hb h.1,keepC hb h.2.1,keepC hb h.2.2.1,keepC hb h.2.2.2.1,keepC hb h.2.2.2.2.1,keepC hb h.2.2.2.2.2.1,keepC hb h.2.2.2.2.2.2.1,keepC hb h.2.2.2.2.2.2.2.1,keepC hb h.2.2.2.2.2.2.2.2.1,keepC hb h.2.2.2.2.2.2.2.2.2.1,keepC hb h.2.2.2.2.2.2.2.2.2.2⟩
theorem endsGo_ge:∀ (l:List Span) (L T:Int),0≤L→T≤endsGo L T l
 | [],L,T,h=>by rw[endsGo];omega
 | sp::r,L,T,h=>by
  rw[endsGo]
  split
  ·exact endsGo_ge r L T h
  ·split
   ·split
    ·omega
    ·have:=endsGo_ge r (L-(sp.from_-T)) sp.to_ (by omega);omega
   ·have:=endsGo_ge r L sp.to_ h;omega
theorem ends_b {y:Worker} {sz t a:Int} {b:Bool} (h:endsF y sz t=(a,b)) (hs:0≤secsF y sz) (ht:0≤t):0≤a∧(b=true→a≤y.to_∧t≤a∧y.from_≤t∧a=endsGo (secsF y sz) t y.stands.l)∧(b=false→a=0):=by
 unfold endsF at h;have hg:=endsGo_ge y.stands.l (secsF y sz) t hs
 split at h
 ·simp only[Prod.mk.injEq]at h;obtain⟨rfl,rfl⟩:=h;exact⟨Int.le_refl _,(fun h=>by cases h),fun _=>rfl⟩
 ·split at h
  ·simp only[Prod.mk.injEq]at h;obtain⟨rfl,rfl⟩:=h;exact⟨Int.le_refl _,(fun h=>by cases h),fun _=>rfl⟩
  ·simp only[Prod.mk.injEq]at h;obtain⟨rfl,rfl⟩:=h;exact⟨by omega,fun _=>⟨by omega,hg,by omega,rfl⟩,(fun h=>by cases h)⟩
def BegAns (X:FX) (K:KD Tryz.prog 71 Loss) (rv ov:Value) (s':PS) (w0 w:World) (e:Ending) (w':World):Prop :=
 e = .returned (.tuple #[])∧∃ rv',FA X K rv' ov s' w0 w'∧(∀ b,rv'.ownBlock=some b→rv.ownBlock=some b∨w.heap.size≤b)∧w.heap.size≤w'.heap.size∧∀ b,b<w.heap.size→b ∉ X.bl→rv.ownBlock≠some b→w'.heap[b]? = w.heap[b]?
theorem keep5f {W w':World} {a0 a1 a2 a3 a4:Addr} {v0 v1 v2 v3 v4:Value} (hb:Below W.heap.size W w') (h:W.cell? a0=some v0∧W.cell? a1=some v1∧W.cell? a2=some v2∧W.cell? a3=some v3∧W.cell? a4=some v4) :
  w'.cell? a0=some v0∧w'.cell? a1=some v1∧w'.cell? a2=some v2∧w'.cell? a3=some v3∧w'.cell? a4=some v4:=⟨keepC hb h.1,keepC hb h.2.1,keepC hb h.2.2.1,keepC hb h.2.2.2.1,keepC hb h.2.2.2.2⟩
theorem keep5g {W w':World} {row:Option Nat} {a0 a1 a2 a3 a4:Addr} {v0 v1 v2 v3 v4:Value} (hg:W.grownBy w' row) (n0:some a0.block≠row) (n1:some a1.block≠row) (n2:some a2.block≠row) (n3:some a3.block≠row) (n4:some a4.block≠row)
  (h:W.cell? a0=some v0∧W.cell? a1=some v1∧W.cell? a2=some v2∧W.cell? a3=some v3∧W.cell? a4=some v4) :
  w'.cell? a0=some v0∧w'.cell? a1=some v1∧w'.cell? a2=some v2∧w'.cell? a3=some v3∧w'.cell? a4=some v4:=⟨hg.cell h.1 n0,hg.cell h.2.1 n1,hg.cell h.2.2.1 n2,hg.cell h.2.2.2.1 n3,hg.cell h.2.2.2.2 n4⟩
theorem begin_any {X:FX} {K:KD Tryz.prog 71 Loss} {rv ov:Value} {s:PS} {w0 w:World} (hA:FA X K rv ov s w0 w) (hS:FS X s w0) (i:Nat) (hi:i<X.F.nX) (bo:Option Nat) (hlen:s.runs.length≤900000) (hbg:0≤s.begun i∧s.begun i≤900000) :
  Calls Tryz.prog 120 #[.pointer (some ⟨X.f,0,none⟩),.int .i64 i,.int .i64 (bI bo)] w (BegAns X K rv ov (begS X.F s i bo) w0 w):=by
 obtain⟨n1,n2,n3,n4,n5,n6⟩:=hS.nW;obtain⟨bt,hbt⟩:∃ b,bI bo=b:=⟨_,rfl⟩;have hbest:=best_any hA hS i hi bo (by omega);rw[hbt]at hbest ⊢
 cases hbw:bestW (canW X.F s.now s.runs i bo) X.F.speed X.F.nW with
 | none =>
  rw[hbw]at hbest;have R:∀ w',Below w.heap.size w w'→BegAns X K rv ov (begS X.F s i bo) w0 w (.returned (.tuple #[])) w':=fun w' hw=>⟨rfl,rv,by rw[begS_none hbw];exact hA.below hw,fun b hb=>.inl hb,hw.size,fun b hb _ _=>hw.block b hb⟩;obtain⟨hAH,hSH,hbtH,hbestH,hbwH,RH,n1H,n2H,n3H,n4H⟩:=hq2 hA (hqc hS hbt hbest hbw R n1 n2 n3 (Lib.hid n4));clear hA hS hbt hbest hbw R n1 n2 n3 n4;go_enter Tryz.func120,Tryz.ntmps120;go_wp2_with fail;refine hbestH.out.mono ?_;rintro e w1 ⟨rfl,hb1⟩;have hb1H:=Lib.hid hb1;clear hb1;have hbn:bI none = -1:=rfl;simp only[hbn];clear hbn;go_wp2
  go_end0
  exact RH.out _ hb1H.out
 | some k =>
  rw[hbw]at hbest;have hk:=(bestW_some hbw).1;obtain⟨A,cap,hrv⟩:=hA.runs.form;obtain⟨n,hn⟩:∃ n,(s.runs.map (gr X.F)).length=n:=⟨_,rfl⟩;rw[hn]at hrv;subst hrv;have hn9:n≤900000:=by rw[← hn,List.length_map];exact hlen
  have hfl:=hA.core.lt X.f hA.core.memf.1;obtain⟨y,hy⟩:∃ y,X.x.workers.l[k]? = some y:=⟨X.x.workers.l[k]'(by omega),List.getElem?_eq_getElem _⟩;obtain⟨z,hz⟩:∃ z,X.x.works.l[i]? = some z:=⟨X.x.works.l[i]'(by omega),List.getElem?_eq_getElem _⟩;obtain⟨by_,oy,hYA,_⟩:=(hS.ws.1).2.1 (by omega);obtain⟨bx,ox,hXA,_⟩:=(hS.xs.1).2.1 (by omega);obtain⟨gk,_,gto,gs⟩:=worker_good (hS.ok.wk y (List.mem_of_getElem? hy));obtain⟨z0,z1⟩:=hS.wo hz;obtain⟨at_,okk,hE⟩:∃ a b,endsF y z.size s.now=(a,b):=⟨_,_,rfl⟩;have hev:=hS.endV hy hz s.now hE;have t0:=hS.t0;have t1:=hS.t1;have hbk:bI (some k)=(k:Int):=rfl;rw[hbk]at hbest;have R:∀ (W8 w9:World) (A':Option Addr) (c':Nat) (ed:Int),(X.F.endAt k i s.now).getD (-1)=ed→FA X K (.slice A n cap) ov { s with begun:=fun j=>if j=i then s.begun i+1 else s.begun j } w0 W8→Own RGRun 144 w9 X.base (.slice A' (n+1) c') (s.runs.map (gr X.F) ++ [⟨i,k,s.now,ed⟩])→W8.grownBy w9 (Value.slice A n cap).ownBlock →
    (∀ b,(Value.slice A' (n+1) c').ownBlock=some b→(Value.slice A n cap).ownBlock=some b∨W8.heap.size≤b)→w.heap.size≤W8.heap.size→(∀ b,b<w.heap.size→b ∉ X.bl→W8.heap[b]? = w.heap[b]?)→BegAns X K (.slice A n cap) ov (begS X.F s i bo) w0 w (.returned (.tuple #[])) (w9.setCell ⟨X.f,8,none⟩ (.slice A' (n+1) c')):=by
   intro W8 w9 A' c' ed hed hA8 ho hg hat hz8 hfr8;have hz9:=hg.size;refine⟨rfl,.slice A' (n+1) c',?_,fun b hb=>(hat b hb).imp id (fun h=>Nat.le_trans hz8 h),by simp;omega,fun b h1 h2 h3=>?_⟩
   rotate_left
   ·rw[(grown_setc w9 ⟨X.f,8,none⟩ _).block b (by omega) (fun e=>h2 (by injection e with e;rw[e];exact hA8.core.memf.1)),hg.block b (by omega) (fun e=>h3 e.symm)];exact hfr8 b h1 h2
   rw[begS_some hbw];have hm:(s.runs ++ [(⟨i,k,s.now,0,0⟩:RR)]).map (gr X.F)=s.runs.map (gr X.F) ++ [⟨i,k,s.now,ed⟩]:=by
    rw[List.map_append,List.map_singleton];unfold gr;rw[← hed]
   have:=hA8.put (L:=s.runs ++ [(⟨i,k,s.now,0,0⟩:RR)]) hg (by rw[hm];exact ho) hat;have e:(fun j=>if j=i then s.begun i+1 else s.begun j)=fun j=>if j=i then s.begun j+1 else s.begun j:=by
    funext j;by_cases h:j=i
    ·rw[if_pos h,if_pos h,h]
    ·rw[if_neg h,if_neg h]
   rw[e]at this;exact this
  rw[n1]at hk;rw[n2]at hi;obtain⟨hAH,hSH,hbtH,hbestH,hbwH,RH,n1H,n2H,n3H,n4H,hyH,hzH,hYAH,hXAH,gsH,hEH,hevH,hnH,hbkH⟩:=hq2 hA (hq2 hS (hqc hbt hbest hbw R n1 n2 n3 n4 (hqc hy hz hYA hXA gs hE hev hn (Lib.hid hbk))));clear hA hS hbt hbest hbw R n1 n2 n3 n4 hy hz hYA hXA gs hE hev hn hbk;go_enter Tryz.func120,Tryz.ntmps120;go_wp2_with fail;refine hbestH.out.mono ?_;rintro e w1 ⟨rfl,hb1⟩;have hA1:=hAH.out.below hb1;have c7:=(hA1.core.blk 7 _ rfl).1;have c0:=(hA1.core.blk 0 _ rfl).1;have c1:=(hA1.core.blk 1 _ rfl).1;rw[hYAH.out]at c0;rw[hXAH.out]at c1;have hfl1:=hA1.core.lt X.f hA1.core.memf.1;have hws1:=hSH.out.ws.1.below hA1.core.bel;have hxs1:=hSH.out.xs.1.below hA1.core.bel;rw[hYAH.out]at hws1;rw[hXAH.out]at hxs1;obtain⟨d0,d1,d2,d3,d4,d5,d6⟩:=cells_Worker hws1 hyH.out;have q2:=(cells_Work hxs1 hzH.out).2.2.1;have hyo:=hws1.2.2 y (List.mem_of_getElem? hyH.out);obtain⟨rb,hrb⟩:∃ b,w1.heap.size=b:=⟨_,rfl⟩;have hba1:=(Below.refl w1.heap.size w1).alloc (Nat.le_refl _) (.cells #[.int .i64 i,.int .i64 k,.int .i64 s.now,.int .i64 (-1)] 144);have hT0:(fun w':World=>w'.cell? ⟨X.f,0,none⟩=some (.slice (some ⟨by_,oy,none⟩) X.x.workers.n X.x.workers.cap)∧w'.cell? ⟨X.f,1,none⟩=some (.slice (some ⟨bx,ox,none⟩) X.x.works.n X.x.works.cap)∧w'.cell? ⟨X.f,7,none⟩=some (.int .i64 s.now)∧w'.cell? ⟨bx,ox+i*4+2,none⟩=some (.int .i64 z.size) ∧
    w'.cell? ⟨by_,oy+k*7,none⟩=some (.string y.name)∧w'.cell? ⟨by_,oy+k*7+1,none⟩=some (.slice y.has.A y.has.n y.has.cap)∧w'.cell? ⟨by_,oy+k*7+2,none⟩=some (.int .i64 y.slots)∧w'.cell? ⟨by_,oy+k*7+3,none⟩=some (.int .i64 y.speed)∧w'.cell? ⟨by_,oy+k*7+4,none⟩=some (.int .i64 y.from_)∧w'.cell? ⟨by_,oy+k*7+5,none⟩=some (.int .i64 y.to_)∧w'.cell? ⟨by_,oy+k*7+6,none⟩=some (.slice y.stands.A y.stands.n y.stands.cap)) (w1.alloc (.cells #[.int .i64 i,.int .i64 k,.int .i64 s.now,.int .i64 (-1)] 144)) :=
   ⟨keepC hba1 c0,keepC hba1 c1,keepC hba1 c7,keepC hba1 q2,keepC hba1 d0,keepC hba1 d1,keepC hba1 d2,keepC hba1 d3,keepC hba1 d4,keepC hba1 d5,keepC hba1 d6⟩
  clear c0 c1 d0 d1 d2 d3 d4 d5 d6 q2;obtain⟨g1,g2⟩:=gk;have hkn:bI (some k)=(k:Int):=rfl;simp only[hkn];clear hkn;have hn5:=n5;clear hfl;obtain⟨hb1H,hA1H,hws1H,hxs1H,hyoH,hrbH,hba1H,hT0H⟩:=hq2 hb1 (hq2 hA1 (hq2 hws1 (hqb hxs1 hyo hrb hba1 (Lib.hid hT0))));clear hb1 hA1 hws1 hxs1 hyo hrb hba1 hT0;have hT0:=hT0H.out;clear hT0H;go_wp2_with fail;refine wp_region_held_drew (S:=fun w':World=>w'.cell? ⟨X.f,0,none⟩=some (.slice (some ⟨by_,oy,none⟩) X.x.workers.n X.x.workers.cap)∧w'.cell? ⟨X.f,1,none⟩=some (.slice (some ⟨bx,ox,none⟩) X.x.works.n X.x.works.cap)∧w'.cell? ⟨X.f,7,none⟩=some (.int .i64 s.now)∧w'.cell? ⟨bx,ox+i*4+2,none⟩=some (.int .i64 z.size) ∧
    w'.cell? ⟨by_,oy+k*7,none⟩=some (.string y.name)∧w'.cell? ⟨by_,oy+k*7+1,none⟩=some (.slice y.has.A y.has.n y.has.cap)∧w'.cell? ⟨by_,oy+k*7+2,none⟩=some (.int .i64 y.slots)∧w'.cell? ⟨by_,oy+k*7+3,none⟩=some (.int .i64 y.speed)∧w'.cell? ⟨by_,oy+k*7+4,none⟩=some (.int .i64 y.from_)∧w'.cell? ⟨by_,oy+k*7+5,none⟩=some (.int .i64 y.to_)∧w'.cell? ⟨by_,oy+k*7+6,none⟩=some (.slice y.stands.A y.stands.n y.stands.cap)) (by kernel_rfl) hT0 (fun hHeld=>?_)
  refine tkS [(0,24),(1,25),(2,26),(3,27),(4,28),(5,29),(6,30),(7,31),(8,32),(9,33),(10,34),(11,35),(12,36),(13,37),(14,38),(15,39),(16,40),(17,41),(18,42),(19,43),(20,44)] ?_;(iterate 21 (refine tkL ?_ ?_ ?_;rotate_left;(· intro w hSw;(try dsimp only at hSw);go_simp;(try with_reducible rfl));(try simp only[Act.put,tkA,tkB,tkC])));refine tkE ?_;refine wpAnyH_ready (rs:=[21]) (by kernel_rfl) (by simp) ?_;refine AllReadyH.cons (i:=21) rfl (fun K hK=>?_) AllReadyH.nil;go_simp;go_at_call 163;refine(ends_any y z.size s.now _ (RWorker.mono _ _ _ (by first | exact hba1H.out.drew | skip) hyoH.out) z0 z1 g1 g2 t0 t1 gsH.out at_ okk hEH.out).mono ?_;rintro e w4 ⟨rfl,hb4⟩;have hHeld:=keep11 hb4 hHeld;have hb14:Below w1.heap.size w1 w4:=hba1H.out.drew.trans (hb4.mono (by simp));have hrun:w4.cell? ⟨w1.heap.size,0,none⟩=some (.int .i64 i)∧w4.cell? ⟨w1.heap.size,1,none⟩=some (.int .i64 k)∧w4.cell? ⟨w1.heap.size,2,none⟩=some (.int .i64 s.now)∧w4.cell? ⟨w1.heap.size,3,none⟩=some (.int .i64 (-1)) :=
   ⟨keepC hb4 (cell_new w1 _ _ 0),keepC hb4 (cell_new w1 _ _ 1),keepC hb4 (cell_new w1 _ _ 2),keepC hb4 (cell_new w1 _ _ 3)⟩
  have hf3:w4.frozen? ⟨w1.heap.size,3,none⟩=false:=(hb4.frozen (p:=⟨w1.heap.size,3,none⟩) (by simp)).trans (by simp[go_sem]);clear hb4;have hb14H:=Lib.hid hb14;clear hb14;refine hK.out _ _ hHeld (fun hHeld=>?_);clear hK K
  (try simp only[Act.put,tkA,tkB,tkC])
  refine tkS [(22,23)] ?_;(iterate 1 (refine tkL ?_ ?_ ?_;rotate_left;(· intro w hSw;(try dsimp only at hSw);go_simp;(try with_reducible rfl));(try simp only[Act.put,tkA,tkB,tkC])));refine tkE ?_;refine tkS [(23,46),(24,47)] ?_;(iterate 2 (refine tkL ?_ ?_ ?_;rotate_left;(· intro w hSw;(try dsimp only at hSw);go_simp;(try with_reducible rfl));(try simp only[Act.put,tkA,tkB,tkC])));refine tkE ?_;refine tkS [(25,8)] ?_;(iterate 1 (refine tkL ?_ ?_ ?_;rotate_left;(· intro w hSw;(try dsimp only at hSw);go_simp;(try with_reducible rfl));(try simp only[Act.put,tkA,tkB,tkC])));refine tkE ?_;refine tkS [(26,9)] ?_;(iterate 1 (refine tkL ?_ ?_ ?_;rotate_left;(· intro w hSw;(try dsimp only at hSw);go_simp;(try with_reducible rfl));(try simp only[Act.put,tkA,tkB,tkC])));refine tkE ?_;refine wpAnyH_done (by kernel_rfl) ?_ _;clear hHeld hT0;have hA4:=hA1H.out.below hb14H.out;have hnew:=hA1H.out.new;have hnlt:rb<w4.heap.size:=by have:=hb14H.out.size;have:=cell?_lt hrun.1;rw[← hrbH.out];exact this
  rw[hrbH.out]at hnew hrun hf3 ⊢;have hev:=hevH.out;clear hevH;have hfr4:w.heap.size≤w4.heap.size∧∀ b,b<w.heap.size→b ∉ X.bl→w4.heap[b]? = w.heap[b]?:=by
   have z1:=hb1H.out.size;have z2:=hb14H.out.size;exact⟨by omega,fun b h1 _=>(hb14H.out.block b (by omega)).trans (hb1H.out.block b h1)⟩
  have hrbw:w.heap.size≤rb:=by rw[← hrbH.out];exact hb1H.out.size
  cases okk
  ·have hA5:=hA4;have hrun5:=hrun;rw[if_neg (by decide)]at hev;clear hA4 hrun hf3;have hedb:I64 (-1):=by unfold I64;omega
   have hfr5:=hfr4;obtain⟨hA5H,hnewH,hrun5H,hevH,hfr5H⟩:=hqb hA5 hnew hrun5 hev (Lib.hid hfr5);clear hA5 hnew hrun5 hev hfr5;have c13:=hA5H.out.core.blk 13 _ rfl;have cg:=hA5H.out.core.begun i hi;have hA6:=hA5H.out.cell hA5H.out.core.memf.2.2.2.2.2.2 (hA5H.out.core.setBegun i (s.begun i+1)) rfl;obtain⟨bgv,hbgv⟩:∃ b,s.begun i=b:=⟨_,rfl⟩;rw[hbgv]at cg hA6;have hbg2:0≤bgv∧bgv≤900000:=by rw[← hbgv];exact hbg
   obtain⟨cg1,cg2⟩:=cg;obtain⟨c13a,_⟩:=c13;have nG:rb≠X.gb:=fun e=>hnewH.out.1 (by rw[e];exact hA1H.out.core.memf.2.2.2.2.2.2);obtain⟨W8,hW8⟩:∃ Y,(w4).setCell ⟨X.gb,i,none⟩ (.int .i64 (bgv+1))=Y:=⟨_,rfl⟩;have hr8:W8.cell? ⟨rb,0,none⟩=some (.int .i64 i)∧W8.cell? ⟨rb,1,none⟩=some (.int .i64 k)∧W8.cell? ⟨rb,2,none⟩=some (.int .i64 s.now)∧W8.cell? ⟨rb,3,none⟩=some (.int .i64 (-1)):=by
    rw[← hW8];obtain⟨r0,r1,r2,r3⟩:=hrun5H.out;exact⟨(World.cell?_setCell_other _ _ _ _ (by simp <;> omega)).trans r0,(World.cell?_setCell_other _ _ _ _ (by simp <;> omega)).trans r1,(World.cell?_setCell_other _ _ _ _ (by simp <;> omega)).trans r2,(World.cell?_setCell_other _ _ _ _ (by simp <;> omega)).trans r3⟩
   have hgbm:=hA5H.out.core.memf.2.2.2.2.2.2;have hfr8:w.heap.size≤W8.heap.size∧∀ b,b<w.heap.size→b ∉ X.bl→W8.heap[b]? = w.heap[b]?:=by
    rw[← hW8];refine⟨by simpa using hfr5H.out.1,fun b h1 h2=>?_⟩;have hz5:=hfr5H.out.1;rw[(grown_setc _ ⟨X.gb,i,none⟩ _).block b (by omega) (fun e=>h2 (by injection e with e;rw[e];exact hgbm))];exact hfr5H.out.2 b h1 h2
   rw[hW8]at hA6;have c8:=(hA6.core.blk 8 _ rfl).1;have hT8:(fun w':World=>w'.cell? ⟨X.f,8,none⟩=some (.slice A n cap)∧w'.cell? ⟨rb,0,none⟩=some (.int .i64 i)∧w'.cell? ⟨rb,1,none⟩=some (.int .i64 k)∧w'.cell? ⟨rb,2,none⟩=some (.int .i64 s.now)∧w'.cell? ⟨rb,3,none⟩=some (.int .i64 (-1))) W8:=⟨c8,hr8⟩;have hed:(X.F.endAt k i s.now).getD (-1)=(-1):=hevH.out;have hgb8:X.gb<W8.heap.size:=hA6.core.lt _ hA6.core.memf.2.2.2.2.2.2;have hRR:=RH.out;rw[hbgv]at hRR;clear c8 hr8;obtain⟨hA6H,hT8H,hedH,hW8H,hbgvH,hRRH,hfr8H⟩:=hq2 hA6 (hq2 hT8 (hqb hed hW8 hbgv hRR (Lib.hid hfr8)));clear hA6 hT8 hed hW8 hbgv hRR hfr8;have hT8:=hT8H.out;clear hT8H;go_wp2_with fail;rw[hW8H.out];refine startR (R:=Rk (fun w'=>w'.cell? ⟨X.f,8,none⟩=some (.slice A n cap)∧w'.cell? ⟨rb,0,none⟩=some (.int .i64 i)∧w'.cell? ⟨rb,1,none⟩=some (.int .i64 k)∧w'.cell? ⟨rb,2,none⟩=some (.int .i64 s.now)∧w'.cell? ⟨rb,3,none⟩=some (.int .i64 (-1))) (fun _=>True) 10 10) (by kernel_rfl) ?_;have hF:=hT8;have hC:True:=trivial;clear c13a cg1 cg2;refine tfS [(0,60),(1,61),(2,62),(3,63),(4,64),(5,65)] ?_;(iterate 6 (refine tfL (v:=?_) (hy:=Or.inl ⟨by rfl,?_⟩) (hS:=hF) (h:=?_);rotate_left;(· (intro w hSw;(try dsimp only at hSw);go_simp;(try with_reducible rfl)));(try simp only[Act.put,List.setIfInBounds_toArray,List.set_cons_zero,List.set_cons_succ])));refine tfE ?_;refine oneR (i:=6) (by kernel_rfl) rfl (fun K hK=>?_);go_simp;have hbb:Below W8.heap.size W8 (W8.drew.alloc (.cells #[.int .i64 i,.int .i64 k,.int .i64 s.now,.int .i64 (-1)] 144)):=(Below.refl _ _).drew.alloc (by simp) _
   have hF2:=keep5f hbb hF;clear hF;have hA9:=hA6H.out.below hbb;have hrlt:rb<W8.heap.size:=cell?_lt hT8.2.1;have hflt:X.f<W8.heap.size:=cell?_lt hT8.1;obtain⟨hA9H,hbbH⟩:=hq2 hA9 (Lib.hid hbb);clear hA9 hbb;refine hK.out _ _ ⟨fun _ _ _=>hF2,fun _ _=>trivial⟩ ?_;clear hK K
   (try simp only[Act.put,List.setIfInBounds_toArray,List.set_cons_zero,List.set_cons_succ])
   have hF:=hF2;refine oneR (i:=7) (by kernel_rfl) rfl (fun K hK=>?_);refine step_app1g (R:=RGRun) (base:=X.base) (v:=.slice A n cap) (l:=s.runs.map (gr X.F)) ?g1 (.tmp 64) (.tmp 66) 58 ?g2 Tryz.underlying58 elem_GRun (by decide) ?g3 ?own W8.heap.size (⟨i,k,s.now,(-1)⟩:GRun) ?g4 ?g5 (fun _ _ _ _ h=>h) ?a4 ?a5 ?a6 (n+1) ?a7 ?_
   case g1=>rfl
   case g2=>rfl
   case g3=>rfl
   case g4=>rfl
   case own=>exact hA9H.out.runs
   case g5=>exact slAt_new W8.drew _ _ ⟨show I64 (i:Int) by unfold I64;omega,show I64 (k:Int) by unfold I64;omega,show I64 s.now by unfold I64;omega,hedb⟩
   case a4=>rw[hnH.out];unfold maxLen;omega
   case a5=>rw[hnH.out];omega
   case a6=>exact hA9H.out.new.2.2.2
   case a7=>rw[hnH.out]
   intro A9 c9 w9 hq9 hg9 hat9;have fz9:=((hA9H.out.mid hg9).blk 8 _ rfl).2;have R9:=hRRH.out _ w9 A9 c9 _ hedH.out hA9H.out hq9 hg9 hat9 (Nat.le_trans hfr8H.out.1 hbbH.out.size) (fun b h1 h2=>(hbbH.out.block b (Nat.lt_of_lt_of_le h1 hfr8H.out.1)).trans (hfr8H.out.2 b h1 h2));have nOf:∀ b,(Value.slice A n cap).ownBlock=some b→X.f≠b:=fun b hb e=>hA9H.out.rap X.f hA9H.out.core.memf.1 (by rw[e];exact hb);have nRb:(Value.slice A n cap).ownBlock≠some rb:=hnewH.out.2.2.1;have hF3:=keep5g hg9 (fun e=>nOf _ e.symm rfl) (fun e=>nRb e.symm) (fun e=>nRb e.symm) (fun e=>nRb e.symm) (fun e=>nRb e.symm) hF;clear hq9 hg9 hat9 nOf nRb hF hF2;have R9H:=Lib.hid R9;clear R9;refine hK.out _ _ ⟨fun _ _ _=>hF3,fun _ _=>trivial⟩ ?_;clear hK K
   (try simp only[Act.put,List.setIfInBounds_toArray,List.set_cons_zero,List.set_cons_succ])
   have hF:=hF3;refine oneR (i:=8) (by kernel_rfl) rfl (fun K hK=>?_);go_simp;refine hK.out _ _ ⟨fun _ _ _=>hF,fun _ _=>trivial⟩ ?_;clear hK K
   (try simp only[Act.put,List.setIfInBounds_toArray,List.set_cons_zero,List.set_cons_succ])
   refine oneR (i:=9) (by kernel_rfl) rfl (fun K hK=>?_);go_simp;refine hK.out _ _ ⟨fun _ _ _=>hF,fun _ _=>trivial⟩ ?_;clear hK K
   (try simp only[Act.put,List.setIfInBounds_toArray,List.set_cons_zero,List.set_cons_succ])
   refine oneR (i:=10) (by kernel_rfl) rfl (fun K hK=>?_);go_simp;refine hK.out _ _ ⟨fun h=>absurd rfl h,fun h=>absurd rfl h⟩ ?_;clear hK K
   (try simp only[Act.put,List.setIfInBounds_toArray,List.set_cons_zero,List.set_cons_succ])
   refine doneR (by kernel_rfl) ?_ _;clear hF hF3;go_wp2
   go_end0
   exact R9H.out
  ·have hA5:=hA4.far (o:=3) (u:=.int .i64 at_) hnew.1 hnew.2.1 hnew.2.2.1 hnew.2.2.2;have hrun5:(w4.setCell ⟨rb,3,none⟩ (.int .i64 at_)).cell? ⟨rb,0,none⟩=some (.int .i64 i)∧(w4.setCell ⟨rb,3,none⟩ (.int .i64 at_)).cell? ⟨rb,1,none⟩=some (.int .i64 k)∧(w4.setCell ⟨rb,3,none⟩ (.int .i64 at_)).cell? ⟨rb,2,none⟩=some (.int .i64 s.now)∧(w4.setCell ⟨rb,3,none⟩ (.int .i64 at_)).cell? ⟨rb,3,none⟩=some (.int .i64 at_):=by
    obtain⟨r0,r1,r2,r3⟩:=hrun;exact⟨(World.cell?_setCell_other _ _ _ _ (by simp)).trans r0,(World.cell?_setCell_other _ _ _ _ (by simp)).trans r1,(World.cell?_setCell_other _ _ _ _ (by simp)).trans r2,World.cell?_setCell_same' _ _ _ (by rw[r3];rfl)⟩
   rw[if_pos rfl]at hev;clear hA4;have hat2:at_≤1000000000∧0≤at_:=by
    have hsc:=secs_in z.size y.speed z0 z1 g1 g2;obtain⟨q0,q1,_⟩:=ends_b hEH.out (by show 0≤(z.size+y.speed-1) / y.speed;omega) t0;have:=(q1 rfl).1;omega
   have hedb:I64 at_:=by unfold I64;omega
   have hfr5:w.heap.size≤(w4.setCell ⟨rb,3,none⟩ (.int .i64 at_)).heap.size∧∀ b,b<w.heap.size→b ∉ X.bl→(w4.setCell ⟨rb,3,none⟩ (.int .i64 at_)).heap[b]? = w.heap[b]? :=
    ⟨by simpa using hfr4.1,fun b h1 h2=>by rw[(grown_setc w4 ⟨rb,3,none⟩ _).block b (by have:=hfr4.1;omega) (by simp;omega)];exact hfr4.2 b h1 h2⟩
   obtain⟨hA5H,hnewH,hrun5H,hevH,hfr5H⟩:=hqb hA5 hnew hrun5 hev (Lib.hid hfr5);clear hA5 hnew hrun5 hev hfr5;have c13:=hA5H.out.core.blk 13 _ rfl;have cg:=hA5H.out.core.begun i hi;have hA6:=hA5H.out.cell hA5H.out.core.memf.2.2.2.2.2.2 (hA5H.out.core.setBegun i (s.begun i+1)) rfl;obtain⟨bgv,hbgv⟩:∃ b,s.begun i=b:=⟨_,rfl⟩;rw[hbgv]at cg hA6;have hbg2:0≤bgv∧bgv≤900000:=by rw[← hbgv];exact hbg
   obtain⟨cg1,cg2⟩:=cg;obtain⟨c13a,_⟩:=c13;have nG:rb≠X.gb:=fun e=>hnewH.out.1 (by rw[e];exact hA1H.out.core.memf.2.2.2.2.2.2);obtain⟨W8,hW8⟩:∃ Y,(w4.setCell ⟨rb,3,none⟩ (.int .i64 at_)).setCell ⟨X.gb,i,none⟩ (.int .i64 (bgv+1))=Y:=⟨_,rfl⟩;have hr8:W8.cell? ⟨rb,0,none⟩=some (.int .i64 i)∧W8.cell? ⟨rb,1,none⟩=some (.int .i64 k)∧W8.cell? ⟨rb,2,none⟩=some (.int .i64 s.now)∧W8.cell? ⟨rb,3,none⟩=some (.int .i64 at_):=by
    rw[← hW8];obtain⟨r0,r1,r2,r3⟩:=hrun5H.out;exact⟨(World.cell?_setCell_other _ _ _ _ (by simp <;> omega)).trans r0,(World.cell?_setCell_other _ _ _ _ (by simp <;> omega)).trans r1,(World.cell?_setCell_other _ _ _ _ (by simp <;> omega)).trans r2,(World.cell?_setCell_other _ _ _ _ (by simp <;> omega)).trans r3⟩
   have hgbm:=hA5H.out.core.memf.2.2.2.2.2.2;have hfr8:w.heap.size≤W8.heap.size∧∀ b,b<w.heap.size→b ∉ X.bl→W8.heap[b]? = w.heap[b]?:=by
    rw[← hW8];refine⟨by simpa using hfr5H.out.1,fun b h1 h2=>?_⟩;have hz5:=hfr5H.out.1;rw[(grown_setc _ ⟨X.gb,i,none⟩ _).block b (by omega) (fun e=>h2 (by injection e with e;rw[e];exact hgbm))];exact hfr5H.out.2 b h1 h2
   rw[hW8]at hA6;have c8:=(hA6.core.blk 8 _ rfl).1;have hT8:(fun w':World=>w'.cell? ⟨X.f,8,none⟩=some (.slice A n cap)∧w'.cell? ⟨rb,0,none⟩=some (.int .i64 i)∧w'.cell? ⟨rb,1,none⟩=some (.int .i64 k)∧w'.cell? ⟨rb,2,none⟩=some (.int .i64 s.now)∧w'.cell? ⟨rb,3,none⟩=some (.int .i64 at_)) W8:=⟨c8,hr8⟩;have hed:(X.F.endAt k i s.now).getD (-1)=at_:=hevH.out;have hgb8:X.gb<W8.heap.size:=hA6.core.lt _ hA6.core.memf.2.2.2.2.2.2;have hRR:=RH.out;rw[hbgv]at hRR;clear c8 hr8;obtain⟨hA6H,hT8H,hedH,hW8H,hbgvH,hRRH,hfr8H⟩:=hq2 hA6 (hq2 hT8 (hqb hed hW8 hbgv hRR (Lib.hid hfr8)));clear hA6 hT8 hed hW8 hbgv hRR hfr8;have hT8:=hT8H.out;clear hT8H;go_wp2_with fail;rw[hW8H.out];refine startR (R:=Rk (fun w'=>w'.cell? ⟨X.f,8,none⟩=some (.slice A n cap)∧w'.cell? ⟨rb,0,none⟩=some (.int .i64 i)∧w'.cell? ⟨rb,1,none⟩=some (.int .i64 k)∧w'.cell? ⟨rb,2,none⟩=some (.int .i64 s.now)∧w'.cell? ⟨rb,3,none⟩=some (.int .i64 at_)) (fun _=>True) 10 10) (by kernel_rfl) ?_;have hF:=hT8;have hC:True:=trivial;clear c13a cg1 cg2;refine tfS [(0,60),(1,61),(2,62),(3,63),(4,64),(5,65)] ?_;(iterate 6 (refine tfL (v:=?_) (hy:=Or.inl ⟨by rfl,?_⟩) (hS:=hF) (h:=?_);rotate_left;(· (intro w hSw;(try dsimp only at hSw);go_simp;(try with_reducible rfl)));(try simp only[Act.put,List.setIfInBounds_toArray,List.set_cons_zero,List.set_cons_succ])));refine tfE ?_;refine oneR (i:=6) (by kernel_rfl) rfl (fun K hK=>?_);go_simp;have hbb:Below W8.heap.size W8 (W8.drew.alloc (.cells #[.int .i64 i,.int .i64 k,.int .i64 s.now,.int .i64 at_] 144)):=(Below.refl _ _).drew.alloc (by simp) _
   have hF2:=keep5f hbb hF;clear hF;have hA9:=hA6H.out.below hbb;have hrlt:rb<W8.heap.size:=cell?_lt hT8.2.1;have hflt:X.f<W8.heap.size:=cell?_lt hT8.1;obtain⟨hA9H,hbbH⟩:=hq2 hA9 (Lib.hid hbb);clear hA9 hbb;refine hK.out _ _ ⟨fun _ _ _=>hF2,fun _ _=>trivial⟩ ?_;clear hK K
   (try simp only[Act.put,List.setIfInBounds_toArray,List.set_cons_zero,List.set_cons_succ])
   have hF:=hF2;refine oneR (i:=7) (by kernel_rfl) rfl (fun K hK=>?_);refine step_app1g (R:=RGRun) (base:=X.base) (v:=.slice A n cap) (l:=s.runs.map (gr X.F)) ?g1 (.tmp 64) (.tmp 66) 58 ?g2 Tryz.underlying58 elem_GRun (by decide) ?g3 ?own W8.heap.size (⟨i,k,s.now,at_⟩:GRun) ?g4 ?g5 (fun _ _ _ _ h=>h) ?a4 ?a5 ?a6 (n+1) ?a7 ?_
   case g1=>rfl
   case g2=>rfl
   case g3=>rfl
   case g4=>rfl
   case own=>exact hA9H.out.runs
   case g5=>exact slAt_new W8.drew _ _ ⟨show I64 (i:Int) by unfold I64;omega,show I64 (k:Int) by unfold I64;omega,show I64 s.now by unfold I64;omega,hedb⟩
   case a4=>rw[hnH.out];unfold maxLen;omega
   case a5=>rw[hnH.out];omega
   case a6=>exact hA9H.out.new.2.2.2
   case a7=>rw[hnH.out]
   intro A9 c9 w9 hq9 hg9 hat9;have fz9:=((hA9H.out.mid hg9).blk 8 _ rfl).2;have R9:=hRRH.out _ w9 A9 c9 _ hedH.out hA9H.out hq9 hg9 hat9 (Nat.le_trans hfr8H.out.1 hbbH.out.size) (fun b h1 h2=>(hbbH.out.block b (Nat.lt_of_lt_of_le h1 hfr8H.out.1)).trans (hfr8H.out.2 b h1 h2));have nOf:∀ b,(Value.slice A n cap).ownBlock=some b→X.f≠b:=fun b hb e=>hA9H.out.rap X.f hA9H.out.core.memf.1 (by rw[e];exact hb);have nRb:(Value.slice A n cap).ownBlock≠some rb:=hnewH.out.2.2.1;have hF3:=keep5g hg9 (fun e=>nOf _ e.symm rfl) (fun e=>nRb e.symm) (fun e=>nRb e.symm) (fun e=>nRb e.symm) (fun e=>nRb e.symm) hF;clear hq9 hg9 hat9 nOf nRb hF hF2;have R9H:=Lib.hid R9;clear R9;refine hK.out _ _ ⟨fun _ _ _=>hF3,fun _ _=>trivial⟩ ?_;clear hK K
   (try simp only[Act.put,List.setIfInBounds_toArray,List.set_cons_zero,List.set_cons_succ])
   have hF:=hF3;refine oneR (i:=8) (by kernel_rfl) rfl (fun K hK=>?_);go_simp;refine hK.out _ _ ⟨fun _ _ _=>hF,fun _ _=>trivial⟩ ?_;clear hK K
   (try simp only[Act.put,List.setIfInBounds_toArray,List.set_cons_zero,List.set_cons_succ])
   refine oneR (i:=9) (by kernel_rfl) rfl (fun K hK=>?_);go_simp;refine hK.out _ _ ⟨fun _ _ _=>hF,fun _ _=>trivial⟩ ?_;clear hK K
   (try simp only[Act.put,List.setIfInBounds_toArray,List.set_cons_zero,List.set_cons_succ])
   refine oneR (i:=10) (by kernel_rfl) rfl (fun K hK=>?_);go_simp;refine hK.out _ _ ⟨fun h=>absurd rfl h,fun h=>absurd rfl h⟩ ?_;clear hK K
   (try simp only[Act.put,List.setIfInBounds_toArray,List.set_cons_zero,List.set_cons_succ])
   refine doneR (by kernel_rfl) ?_ _;clear hF hF3;go_wp2
   go_end0
   exact R9H.out
theorem keep9 {W w':World} {a0 a1 a2 a3 a4 a5 a6 a7 a8:Addr} {v0 v1 v2 v3 v4 v5 v6 v7 v8:Value} (hb:Below W.heap.size W w') (h:W.cell? a0=some v0∧W.cell? a1=some v1∧W.cell? a2=some v2∧W.cell? a3=some v3∧W.cell? a4=some v4∧W.cell? a5=some v5∧W.cell? a6=some v6∧W.cell? a7=some v7∧W.cell? a8=some v8) :
  w'.cell? a0=some v0∧w'.cell? a1=some v1∧w'.cell? a2=some v2∧w'.cell? a3=some v3∧w'.cell? a4=some v4∧w'.cell? a5=some v5∧w'.cell? a6=some v6∧w'.cell? a7=some v7∧w'.cell? a8=some v8 :=
 ⟨keepC hb h.1,keepC hb h.2.1,keepC hb h.2.2.1,keepC hb h.2.2.2.1,keepC hb h.2.2.2.2.1,keepC hb h.2.2.2.2.2.1,keepC hb h.2.2.2.2.2.2.1,keepC hb h.2.2.2.2.2.2.2.1,keepC hb h.2.2.2.2.2.2.2.2⟩
theorem keep9g {W w':World} {row:Option Nat} {a0 a1 a2 a3 a4 a5 a6 a7 a8:Addr} {v0 v1 v2 v3 v4 v5 v6 v7 v8:Value} (hg:W.grownBy w' row) (hn:some a0.block≠row∧some a1.block≠row∧some a2.block≠row∧some a3.block≠row∧some a4.block≠row∧some a5.block≠row∧some a6.block≠row∧some a7.block≠row∧some a8.block≠row) (h:W.cell? a0=some v0∧W.cell? a1=some v1∧W.cell? a2=some v2∧W.cell? a3=some v3∧W.cell? a4=some v4∧W.cell? a5=some v5∧W.cell? a6=some v6∧W.cell? a7=some v7∧W.cell? a8=some v8) :
  w'.cell? a0=some v0∧w'.cell? a1=some v1∧w'.cell? a2=some v2∧w'.cell? a3=some v3∧w'.cell? a4=some v4∧w'.cell? a5=some v5∧w'.cell? a6=some v6∧w'.cell? a7=some v7∧w'.cell? a8=some v8:=by
 obtain⟨n0,n1,n2,n3,n4,n5,n6,n7,n8⟩:=hn;exact⟨hg.cell h.1 n0,hg.cell h.2.1 n1,hg.cell h.2.2.1 n2,hg.cell h.2.2.2.1 n3,hg.cell h.2.2.2.2.1 n4,hg.cell h.2.2.2.2.2.1 n5,hg.cell h.2.2.2.2.2.2.1 n6,hg.cell h.2.2.2.2.2.2.2.1 n7,hg.cell h.2.2.2.2.2.2.2.2 n8⟩
theorem elem_Run:Elem Tryz.prog 34 RRun.size 56:=elem_of (z:=.agg #[.string ByteArray.empty,.string ByteArray.empty,.int .i64 0,.int .i64 0,.int .i64 0]) (by kernel_rfl) (by decide)
def clS (s:PS) (r:RR) (en:Int):PS:={ s with out:=s.out ++ [{ r with to_:=s.now,end_:=en }],last:=fun j=>if j=r.work then (if en=3 then s.last j else s.now) else s.last j }
def ClAns (X:FX) (K:KD Tryz.prog 71 Loss) (rv ov:Value) (s':PS) (w0 W:World) (e:Ending) (w':World):Prop :=
 e = .returned (.tuple #[])∧∃ ov',FC X K rv ov' s' w0 w'∧(∀ b,ov'.ownBlock=some b→ov.ownBlock=some b∨W.heap.size≤b)∧W.heap.size≤w'.heap.size∧∀ b,b<W.heap.size→b ∉ X.bl→ov.ownBlock≠some b→w'.heap[b]? = W.heap[b]?
theorem clS_3 (s:PS) (r:RR):clS s r 3 = { s with out:=s.out ++ [{ r with to_:=s.now,end_:=3 }] }:=by
 unfold clS;have:(fun j=>if j=r.work then (if (3:Int)=3 then s.last j else s.now) else s.last j)=s.last:=by funext j;simp
 rw[this]
theorem clS_n (s:PS) (r:RR) {en:Int} (h:en≠3) {iw:Nat} (hi:r.work=iw):clS s r en = { s with out:=s.out ++ [{ r with to_:=s.now,end_:=en }],last:=fun j=>if j=iw then s.now else s.last j }:=by
 unfold clS;simp only[if_neg h,hi]
theorem close_any {X:FX} {K:KD Tryz.prog 71 Loss} {rv ov:Value} {s:PS} {w0 w:World} (hC:FC X K rv ov s w0 w) (hS:FS X s w0) (r:RR) (hk:r.worker<X.F.nW) (hi:r.work<X.F.nX) (hr0:0≤r.from_) (hr1:r.from_≤1000000000) (en:Int) (he0:1≤en) (he1:en≤3) (hlen:s.out.length≤900000) (ed:Int) :
  Calls Tryz.prog 115 #[.pointer (some ⟨X.f,0,none⟩),.agg #[.int .i64 r.work,.int .i64 r.worker,.int .i64 r.from_,.int .i64 ed],.int .i64 en] w (ClAns X K rv ov (clS s r en) w0 w):=by
 obtain⟨n1,n2,n3,n4,n5,n6⟩:=hS.nW;obtain⟨A,cap,hov⟩:=hC.out.form;obtain⟨n,hn⟩:∃ n,(s.out.map (toRun X.x)).length=n:=⟨_,rfl⟩;rw[hn]at hov;subst hov;have hn9:n≤900000:=by rw[← hn,List.length_map];exact hlen
 obtain⟨y,hy⟩:∃ y,X.x.workers.l[r.worker]? = some y:=⟨X.x.workers.l[r.worker]'(by omega),List.getElem?_eq_getElem _⟩;obtain⟨z,hz⟩:∃ z,X.x.works.l[r.work]? = some z:=⟨X.x.works.l[r.work]'(by omega),List.getElem?_eq_getElem _⟩;obtain⟨by_,oy,hYA,_⟩:=(hS.ws.1).2.1 (by omega);obtain⟨bx,ox,hXA,_⟩:=(hS.xs.1).2.1 (by omega);have hba:=(Below.refl w.heap.size w).alloc (Nat.le_refl _) (.cells #[.int .i64 r.work,.int .i64 r.worker,.int .i64 r.from_,.int .i64 ed] 144);obtain⟨rb,hrb⟩:∃ b,w.heap.size=b:=⟨_,rfl⟩;obtain⟨W1,hW1⟩:∃ Y,w.alloc (.cells #[.int .i64 r.work,.int .i64 r.worker,.int .i64 r.from_,.int .i64 ed] 144)=Y:=⟨_,rfl⟩;have hC1:=hC.below hba;have hrun:W1.cell? ⟨rb,0,none⟩=some (.int .i64 r.work)∧W1.cell? ⟨rb,1,none⟩=some (.int .i64 r.worker)∧W1.cell? ⟨rb,2,none⟩=some (.int .i64 r.from_):=by
  rw[← hW1,← hrb];exact⟨cell_new _ _ _ 0,cell_new _ _ _ 1,cell_new _ _ _ 2⟩
 rw[hW1]at hC1 hba;have c0:=(hC1.blk 0 _ rfl).1;have c1:=(hC1.blk 1 _ rfl).1;have c7:=(hC1.blk 7 _ rfl).1;have c11:=(hC1.blk 11 _ rfl).1;rw[hYA]at c0;rw[hXA]at c1;have hws1:=hS.ws.1.below hC1.bel;have hxs1:=hS.xs.1.below hC1.bel;rw[hYA]at hws1;rw[hXA]at hxs1;have d0:=(cells_Worker hws1 hy).1;have e0:=(cells_Work hxs1 hz).1;have hyo:=(hws1.2.2 y (List.mem_of_getElem? hy)).1;have hzo:=(hxs1.2.2 z (List.mem_of_getElem? hz)).1;have hto:toRun X.x { r with to_:=s.now,end_:=en }=⟨z.id_,y.name,r.from_,s.now,en⟩:=by
  unfold toRun;rw[woOf_get hz,wkOf_get hy]
 have t0:=hS.t0;have t1:=hS.t1;have hF0:(fun w':World=>w'.cell? ⟨X.f,11,none⟩=some (.slice A n cap)∧w'.cell? ⟨X.f,1,none⟩=some (.slice (some ⟨bx,ox,none⟩) X.x.works.n X.x.works.cap)∧w'.cell? ⟨X.f,0,none⟩=some (.slice (some ⟨by_,oy,none⟩) X.x.workers.n X.x.workers.cap)∧w'.cell? ⟨X.f,7,none⟩=some (.int .i64 s.now)∧w'.cell? ⟨rb,0,none⟩=some (.int .i64 r.work)∧w'.cell? ⟨rb,1,none⟩=some (.int .i64 r.worker)∧w'.cell? ⟨rb,2,none⟩=some (.int .i64 r.from_)∧w'.cell? ⟨bx,ox+r.work*4,none⟩=some (.string z.id_)∧w'.cell? ⟨by_,oy+r.worker*7,none⟩=some (.string y.name)) W1 :=
  ⟨c11,c1,c0,c7,hrun.1,hrun.2.1,hrun.2.2,e0,d0⟩
 obtain⟨iw,hiw⟩:∃ q,r.work=q:=⟨_,rfl⟩;obtain⟨ik,hik⟩:∃ q,r.worker=q:=⟨_,rfl⟩;obtain⟨ifr,hifr⟩:∃ q,r.from_=q:=⟨_,rfl⟩;rw[hiw]at hi hF0 hz hW1 e0 hrun ⊢;rw[hik]at hk hF0 hy hW1 d0 hrun ⊢;rw[hifr]at hr0 hr1 hF0 hW1 hrun ⊢;rw[n1]at hk;rw[n2]at hi;clear c0 c1 c7 c11 d0 e0;have hnew:rb ∉ X.bl∧Value.ownBlock (.slice A n cap)≠some rb:=by
  rw[← hrb];exact⟨fun hm=>Nat.lt_irrefl _ (hC.lt _ hm),fun e=>Nat.lt_irrefl _ (hC.out.1.lt _ e).2⟩
 have R:∀ (W8 w9:World) (A':Option Addr) (c':Nat),FC X K rv (.slice A n cap) s w0 W8→Below w.heap.size w W8→Own RRun 34 w9 X.base (.slice A' (n+1) c') (s.out.map (toRun X.x) ++ [⟨z.id_,y.name,ifr,s.now,en⟩])→W8.grownBy w9 (Value.slice A n cap).ownBlock →
   (∀ b,(Value.slice A' (n+1) c').ownBlock=some b→(Value.slice A n cap).ownBlock=some b∨W8.heap.size≤b) →
   FC X K rv (.slice A' (n+1) c') { s with out:=s.out ++ [{ r with to_:=s.now,end_:=en }] } w0 (w9.setCell ⟨X.f,11,none⟩ (.slice A' (n+1) c'))∧(∀ b,(Value.slice A' (n+1) c').ownBlock=some b→(Value.slice A n cap).ownBlock=some b∨w.heap.size≤b)∧w.heap.size≤(w9.setCell ⟨X.f,11,none⟩ (.slice A' (n+1) c')).heap.size ∧
    ∀ b,b<w.heap.size→b ∉ X.bl→(Value.slice A n cap).ownBlock≠some b→(w9.setCell ⟨X.f,11,none⟩ (.slice A' (n+1) c')).heap[b]? = w.heap[b]?:=by
  intro W8 w9 A' c' hC8 hb8 ho hg hat;have hm:(s.out ++ [{ r with to_:=s.now,end_:=en }]).map (toRun X.x)=s.out.map (toRun X.x) ++ [⟨z.id_,y.name,ifr,s.now,en⟩]:=by rw[List.map_append,List.map_singleton,hto,hifr]
  have h89:=hg.size;have h8:=hb8.size;refine⟨hC8.setOut hg (by rw[hm];exact ho) hat,fun b hb=>?_,by simp;omega,fun b hb hbn hbo=>?_⟩
  ·rcases hat b hb with h | h
   ·exact .inl h
   ·right;omega
  ·have e1:=(grown_setc w9 ⟨X.f,11,none⟩ (.slice A' (n+1) c')).block b (by omega) (fun e=>hbn (by injection e with e;rw[e];exact hC.memf.1));rw[e1,hg.block b (by omega) (fun e=>hbo e.symm)];exact hb8.block b hb
 have hold:∀ b,b<w.heap.size→b ∉ X.bl→True:=fun _ _ _=>trivial;have hownb:∀ b,(Value.slice A n cap).ownBlock=some b→X.base≤b:=fun b hb=>(hC.out.1.lt b hb).1;have hbxl:bx<X.base∧by_<X.base:=by
  rw[hC.base];have a:=hS.xs.1;have b:=hS.ws.1;rw[hXA]at a;rw[hYA]at b;exact⟨cell?_lt (cells_Work a hz).1,cell?_lt (cells_Worker b hy).1⟩
 have hfap:(Value.slice A n cap).ownBlock≠some X.f:=hC.apart X.f hC.memf.1;have hfl:=hC.lt X.f hC.memf.1;have htl:=hC.lt X.tb hC.memf.2.2.2.2.2.1;have htm:=hC.memf.2.2.2.2.2.1;have hfm:=hC.memf.1;have hbz:=hC1.bel.size;have hW1s:W1.heap.size=rb+1:=by rw[← hW1,← hrb];simp
 have hidb:RStr.ok w z.id_∧RStr.ok w y.name:=⟨hzo,hyo⟩;clear hold;rw[hiw]at hto;obtain⟨hCH,hSH,hyH,hzH,hYAH,hXAH,hbaH,hW1H,hC1H,hrunH,hws1H,hxs1H,hyoH,hzoH,htoH,hnewH,RH,hnH,hiwH,hikH,hifrH,hownbH,hbxlH,hfapH,hbzH,hidbH,hrbH,htmH,hfmH,hF0H,hW1sH⟩:=hq2 hC (hq2 hS (hqb hy hz hYA hXA (hqc hba hW1 hC1 hrun hws1 hxs1 hyo hzo (hqc hto hnew R hn hiw hik hifr hownb (hqc hbxl hfap hbz hidb hrb htm hfm hF0 (Lib.hid hW1s))))));clear hC hS hy hz hYA hXA hba hW1 hC1 hrun hws1 hxs1 hyo hzo hto hnew R hn hiw hik hifr hownb hbxl hfap hbz hidb hrb htm hfm hF0 hW1s;go_enter Tryz.func115,Tryz.ntmps115;go_wp2_with fail;rw[hW1H.out,hrbH.out];have hF:=hF0H.out;have hC:True:=trivial;refine startR (R:=Rk (fun w':World=>w'.cell? ⟨X.f,11,none⟩=some (.slice A n cap)∧w'.cell? ⟨X.f,1,none⟩=some (.slice (some ⟨bx,ox,none⟩) X.x.works.n X.x.works.cap)∧w'.cell? ⟨X.f,0,none⟩=some (.slice (some ⟨by_,oy,none⟩) X.x.workers.n X.x.workers.cap)∧w'.cell? ⟨X.f,7,none⟩=some (.int .i64 s.now)∧w'.cell? ⟨rb,0,none⟩=some (.int .i64 iw)∧w'.cell? ⟨rb,1,none⟩=some (.int .i64 ik)∧w'.cell? ⟨rb,2,none⟩=some (.int .i64 ifr)∧w'.cell? ⟨bx,ox+iw*4,none⟩=some (.string z.id_)∧w'.cell? ⟨by_,oy+ik*7,none⟩=some (.string y.name)) (fun _=>True) 37 37) (by kernel_rfl) ?_;refine tfS [(0,6),(1,7),(2,8),(3,9),(4,10),(5,11),(6,12),(7,13),(8,14),(9,15),(10,16),(11,17),(12,18),(13,19),(14,20),(15,21),(16,22),(17,23),(18,24),(19,25),(20,26),(21,27),(22,28),(23,29),(24,30),(25,31),(26,32),(27,33),(28,34),(29,35),(30,36),(31,37),(32,38)] ?_;(iterate 33 (refine tfL (v:=?_) (hy:=Or.inl ⟨by rfl,?_⟩) (hS:=hF) (h:=?_);rotate_left;(· (intro w hSw;(try dsimp only at hSw);go_simp;(try with_reducible rfl)));(try simp only[Act.put,List.setIfInBounds_toArray,List.set_cons_zero,List.set_cons_succ])));refine tfE ?_
 refine oneR (i:=33) (by kernel_rfl) rfl (fun K hK=>?_);go_simp;have hbb:Below W1.heap.size W1 (W1.drew.alloc (.cells #[.string z.id_,.string y.name,.int .i64 ifr,.int .i64 s.now,.int .i64 en] 34)):=(Below.refl _ _).drew.alloc (by simp) _;have hF2:=keep9 hbb hF;have hC9:=hC1H.out.below hbb;have hb9:=hbaH.out.trans (hbb.mono hbaH.out.size);have hsz9:=hbb.size;have hown9:=hC9.out;have hlt9:X.base≤(W1.drew.alloc (.cells #[.string z.id_,.string y.name,.int .i64 ifr,.int .i64 s.now,.int .i64 en] 34)).heap.size:=by have:=hC9.bel.size;rw[hC9.base];exact this
 clear hF;obtain⟨hC9H,hb9H,hown9H,hlt9H,hsz9H⟩:=hqb hC9 hb9 hown9 hlt9 (Lib.hid hsz9);clear hC9 hb9 hown9 hlt9 hsz9;refine hK.out _ _ ⟨fun _ _ _=>hF2,fun _ _=>trivial⟩ ?_;clear hK K
 (try simp only[Act.put,List.setIfInBounds_toArray,List.set_cons_zero,List.set_cons_succ])
 have hF:=hF2;refine oneR (i:=34) (by kernel_rfl) rfl (fun K hK=>?_);refine step_app1g (R:=RRun) (base:=X.base) (v:=.slice A n cap) (l:=s.out.map (toRun X.x)) ?g1 (.tmp 10) (.tmp 39) 27 ?g2 Tryz.underlying27 elem_Run (by decide) ?g3 ?own W1.heap.size (⟨z.id_,y.name,ifr,s.now,en⟩:Run) ?g4 ?g5 (fun _ _ _ _ h=>h) ?a4 ?a5 ?a6 (n+1) ?a7 ?_
 case g1=>rfl
 case g2=>rfl
 case g3=>rfl
 case g4=>rfl
 case own=>exact hown9H.out
 case g5=>exact slAt_new W1.drew _ _ ⟨hidbH.out.1,hidbH.out.2,show I64 ifr by unfold I64;omega,show I64 s.now by unfold I64;omega,show I64 en by unfold I64;omega⟩
 case a4=>rw[hnH.out];unfold maxLen;omega
 case a5=>rw[hnH.out];omega
 case a6=>exact hlt9H.out
 case a7=>rw[hnH.out]
 intro A9 c9 w9 hq9 hg9 hat9;have fz9:=((hC9H.out.parts hg9).1 hfapH.out 11 _ rfl).2;obtain⟨r1,r2,r3,r4⟩:=RH.out _ w9 A9 c9 hC9H.out hb9H.out hq9 hg9 hat9;have hF3:=keep9g hg9 ⟨hfapH.out.symm,hfapH.out.symm,hfapH.out.symm,hfapH.out.symm,hnewH.out.2.symm,hnewH.out.2.symm,hnewH.out.2.symm,fun e=>by have:=hownbH.out bx e.symm;have:=hbxlH.out.1;omega,fun e=>by have:=hownbH.out by_ e.symm;have:=hbxlH.out.2;omega⟩ hF;clear hq9 hg9 hat9 hF hF2;obtain⟨r1H,r2H,r3H,r4H⟩:=hq2 r1 (hq2 r2 (hq2 r3 (Lib.hid r4)));clear r1 r2 r3 r4;refine hK.out _ _ ⟨fun _ _ _=>hF3,fun _ _=>trivial⟩ ?_;clear hK K
 (try simp only[Act.put,List.setIfInBounds_toArray,List.set_cons_zero,List.set_cons_succ])
 have hF:=hF3;refine oneR (i:=35) (by kernel_rfl) rfl (fun K hK=>?_);go_simp;refine hK.out _ _ ⟨fun _ _ _=>hF,fun _ _=>trivial⟩ ?_;clear hK K
 (try simp only[Act.put,List.setIfInBounds_toArray,List.set_cons_zero,List.set_cons_succ])
 refine oneR (i:=36) (by kernel_rfl) rfl (fun K hK=>?_);go_simp;refine hK.out _ _ ⟨fun _ _ _=>hF,fun _ _=>trivial⟩ ?_;clear hK K
 (try simp only[Act.put,List.setIfInBounds_toArray,List.set_cons_zero,List.set_cons_succ])
 refine oneR (i:=37) (by kernel_rfl) rfl (fun K hK=>?_);go_simp;refine hK.out _ _ ⟨fun h=>absurd rfl h,fun h=>absurd rfl h⟩ ?_;clear hK K
 (try simp only[Act.put,List.setIfInBounds_toArray,List.set_cons_zero,List.set_cons_succ])
 refine doneR (by kernel_rfl) ?_ _;clear hF;have m12:=(r1H.out.blk 12 _ rfl).1;have m7:=(r1H.out.blk 7 _ rfl).1;have ml:=r1H.out.last iw hi;obtain⟨ml1,ml2⟩:=ml;have hrbf:rb≠X.f:=fun e=>hnewH.out.1 (by rw[e];exact hfmH.out);have mr:(w9.setCell ⟨X.f,11,none⟩ (.slice A9 (n+1) c9)).cell? ⟨rb,0,none⟩=some (.int .i64 iw):=(World.cell?_setCell_other _ _ _ _ (by simp <;> omega)).trans hF3.2.2.2.2.1;obtain⟨W10,hW10⟩:∃ Y,w9.setCell ⟨X.f,11,none⟩ (.slice A9 (n+1) c9)=Y:=⟨_,rfl⟩;rw[hW10]at m12 m7 ml1 ml2 mr ⊢;have r1:=r1H.out;have r3:=r3H.out;have r4:=r4H.out;rw[hW10]at r1 r3 r4;obtain⟨lv,hlv⟩:∃ v,s.last iw=v:=⟨_,rfl⟩;rw[hlv]at ml1;clear r1H r3H r4H hF3 fz9
 by_cases h3:en=3
 ·subst h3;have Q:ClAns X K rv (.slice A n cap) (clS s r 3) w0 w (.returned (.tuple #[])) W10:=⟨rfl,_,by rw[clS_3];exact r1,r2H.out,r3,r4⟩;clear r1 r3 r4;obtain⟨QH,hlvH,hW10H⟩:=hq2 Q (hq2 hlv (Lib.hid hW10));clear Q hlv hW10;go_wp2
  go_end0
  exact QH.out
 ·have h3':(en != 3)=true:=by simpa using h3
  have hS2:=r1.setLast iw s.now;have r4':∀ b,b<w.heap.size→b ∉ X.bl→(Value.slice A n cap).ownBlock≠some b→(W10.setCell ⟨X.tb,iw,none⟩ (.int .i64 s.now)).heap[b]? = w.heap[b]?:=fun b hb hbn hbo=>by
   rw[(grown_setc W10 ⟨X.tb,iw,none⟩ _).block b (by omega) (fun e=>hbn (by injection e with e;rw[e];exact htmH.out))];exact r4 b hb hbn hbo
  have Q:ClAns X K rv (.slice A n cap) (clS s r en) w0 w (.returned (.tuple #[])) (W10.setCell ⟨X.tb,iw,none⟩ (.int .i64 s.now)).drew :=
   ⟨rfl,_,by rw[clS_n s r h3 hiwH.out];exact hS2.below (Below.refl _ _).drew,r2H.out,by simpa using r3,r4'⟩
  clear r1 r3 r4 r4' hS2 h3;have hN:X.N=X.x.works.n:=rfl;rw[hN]at m12;obtain⟨QH,hlvH,hW10H,hNH⟩:=hq2 Q (hq2 hlv (hq2 hW10 (Lib.hid hN)));clear Q hlv hW10 hN;go_wp2_with fail
  go_still_tail 11,(by kernel_rfl)
  go_wp2
  go_end0
  exact QH.out
end Go.Proofs.YtbnkoefljcekbaaGreatDoor.C9