/-
 Several texts of mine as one, without what is not wanted here: XFmM, XFmN, XFmO.
-/
import Derived.Test.YtbnkoefljcekbaaGreatDoorPyZC9
set_option linter.unusedVariables false
set_option linter.unusedSimpArgs false
set_option maxRecDepth 100000
set_option maxHeartbeats 8000000
namespace Go.Proofs.YtbnkoefljcekbaaGreatDoor.C9
open Go.ChangeShapes Go.WideShapes Go.Deep Go.RowKit
theorem keep13 {W w':World} {a0 a1 a2 a3 a4 a5 a6 a7 a8 a9 a10 a11 a12:Addr} {v0 v1 v2 v3 v4 v5 v6 v7 v8 v9 v10 v11 v12:Value} (hb:Below W.heap.size W w') (h:W.cell? a0=some v0∧W.cell? a1=some v1∧W.cell? a2=some v2∧W.cell? a3=some v3∧W.cell? a4=some v4∧W.cell? a5=some v5∧W.cell? a6=some v6∧W.cell? a7=some v7∧W.cell? a8=some v8∧W.cell? a9=some v9∧W.cell? a10=some v10∧W.cell? a11=some v11∧W.cell? a12=some v12) :
  w'.cell? a0=some v0∧w'.cell? a1=some v1∧w'.cell? a2=some v2∧w'.cell? a3=some v3∧w'.cell? a4=some v4∧w'.cell? a5=some v5∧w'.cell? a6=some v6∧w'.cell? a7=some v7∧w'.cell? a8=some v8∧w'.cell? a9=some v9∧w'.cell? a10=some v10∧w'.cell? a11=some v11∧w'.cell? a12=some v12 :=
 ⟨keepC hb h.1,keepC hb h.2.1,keepC hb h.2.2.1,keepC hb h.2.2.2.1,keepC hb h.2.2.2.2.1,keepC hb h.2.2.2.2.2.1,keepC hb h.2.2.2.2.2.2.1,keepC hb h.2.2.2.2.2.2.2.1,keepC hb h.2.2.2.2.2.2.2.2.1,keepC hb h.2.2.2.2.2.2.2.2.2.1,keepC hb h.2.2.2.2.2.2.2.2.2.2.1,keepC hb h.2.2.2.2.2.2.2.2.2.2.2.1,keepC hb h.2.2.2.2.2.2.2.2.2.2.2.2⟩
theorem FS.secsV {X:FX} {s:PS} {w0:World} (h:FS X s w0) {k i:Nat} {y:Worker} {z:Work} (hy:X.x.workers.l[k]? = some y) (hz:X.x.works.l[i]? = some z):X.F.secs k i=secsF y z.size:=by
 obtain⟨o,e⟩:=h.F;rw[e];simp only[fpOf];rw[wkOf_get hy,woOf_get hz]
theorem slow_any {X:FX} {K:KD Tryz.prog 71 Loss} {rv ov:Value} {s:PS} {w0 W:World} {r:RR} (hC:FC X K rv ov s w0 W) (hS:FS X s w0) (hkW:r.worker<X.F.nW) (hiX:r.work<X.F.nX) (hf0:0≤r.from_) (hf1:r.from_≤1000000000) (ed:Int) :
  Calls Tryz.prog 121 #[.pointer (some ⟨X.f,0,none⟩),.agg #[.int .i64 r.work,.int .i64 r.worker,.int .i64 r.from_,.int .i64 ed]] W fun e w'=>e = .returned (.int .i64 (late X.F r))∧Below W.heap.size W w':=by
 obtain⟨n1,n2,n3,n4,n5,n6⟩:=hS.nW;obtain⟨y,hy⟩:∃ y,X.x.workers.l[r.worker]? = some y:=⟨X.x.workers.l[r.worker]'(by omega),List.getElem?_eq_getElem _⟩;obtain⟨z,hz⟩:∃ z,X.x.works.l[r.work]? = some z:=⟨X.x.works.l[r.work]'(by omega),List.getElem?_eq_getElem _⟩;obtain⟨by_,oy,hYA,_⟩:=(hS.ws.1).2.1 (by omega);obtain⟨bx,ox,hXA,_⟩:=(hS.xs.1).2.1 (by omega);obtain⟨⟨g1,g2⟩,_,_,_⟩:=worker_good (hS.ok.wk y (List.mem_of_getElem? hy));obtain⟨z0,z1⟩:=hS.wo hz;have hsv:=hS.secsV hy hz;obtain⟨c,hc⟩:∃ c,secsF y z.size=c:=⟨_,rfl⟩;obtain⟨c1,c2⟩:=secs_in z.size y.speed z0 z1 g1 g2;have hcc:(z.size+y.speed-1) / y.speed=c:=hc;rw[hcc]at c1 c2;have hla:late X.F r=r.from_+2*c:=by unfold late;rw[hsv,hc]
 rw[hla];have hba:=(Below.refl W.heap.size W).alloc (Nat.le_refl _) (.cells #[.int .i64 r.work,.int .i64 r.worker,.int .i64 r.from_,.int .i64 ed] 144);obtain⟨W1,hW1⟩:∃ Y,W.alloc (.cells #[.int .i64 r.work,.int .i64 r.worker,.int .i64 r.from_,.int .i64 ed] 144)=Y:=⟨_,rfl⟩;rw[hW1]at hba;have hC1:=hC.below hba;have hws1:=hS.ws.1.below hC1.bel;have hxs1:=hS.xs.1.below hC1.bel;rw[hYA]at hws1;rw[hXA]at hxs1;obtain⟨d0,d1,d2,d3,d4,d5,d6⟩:=cells_Worker hws1 hy;have e2:=(cells_Work hxs1 hz).2.2.1;have c0:=(hC1.blk 0 _ rfl).1;have c1':=(hC1.blk 1 _ rfl).1;rw[hYA]at c0;rw[hXA]at c1';have g0':W1.cell? ⟨W.heap.size,0,none⟩=some (.int .i64 r.work):=by rw[← hW1];exact cell_new _ _ _ 0
 have g1':W1.cell? ⟨W.heap.size,1,none⟩=some (.int .i64 r.worker):=by rw[← hW1];exact cell_new _ _ _ 1
 have g2':W1.cell? ⟨W.heap.size,2,none⟩=some (.int .i64 r.from_):=by rw[← hW1];exact cell_new _ _ _ 2
 obtain⟨iw,hiw⟩:∃ q,r.work=q:=⟨_,rfl⟩;obtain⟨ik,hik⟩:∃ q,r.worker=q:=⟨_,rfl⟩;obtain⟨ifr,hifr⟩:∃ q,r.from_=q:=⟨_,rfl⟩;obtain⟨rb,hrb⟩:∃ b,W.heap.size=b:=⟨_,rfl⟩;rw[hrb,hiw]at g0';rw[hrb,hik]at g1';rw[hrb,hifr]at g2';rw[hiw]at hiX e2 hW1;rw[hik]at hkW d0 d1 d2 d3 d4 d5 d6 hW1;rw[hifr]at hf0 hf1 hW1;have hH0:(fun w':World=>w'.cell? ⟨rb,0,none⟩=some (.int .i64 iw)∧w'.cell? ⟨rb,1,none⟩=some (.int .i64 ik)∧w'.cell? ⟨rb,2,none⟩=some (.int .i64 ifr)∧w'.cell? ⟨X.f,0,none⟩=some (.slice (some ⟨by_,oy,none⟩) X.x.workers.n X.x.workers.cap)∧w'.cell? ⟨X.f,1,none⟩=some (.slice (some ⟨bx,ox,none⟩) X.x.works.n X.x.works.cap)∧w'.cell? ⟨bx,ox+iw*4+2,none⟩=some (.int .i64 z.size)∧w'.cell? ⟨by_,oy+ik*7,none⟩=some (.string y.name)∧w'.cell? ⟨by_,oy+ik*7+1,none⟩=some (.slice y.has.A y.has.n y.has.cap)∧w'.cell? ⟨by_,oy+ik*7+2,none⟩=some (.int .i64 y.slots)∧w'.cell? ⟨by_,oy+ik*7+3,none⟩=some (.int .i64 y.speed)∧w'.cell? ⟨by_,oy+ik*7+4,none⟩=some (.int .i64 y.from_)∧w'.cell? ⟨by_,oy+ik*7+5,none⟩=some (.int .i64 y.to_)∧w'.cell? ⟨by_,oy+ik*7+6,none⟩=some (.slice y.stands.A y.stands.n y.stands.cap)) W1:=⟨g0',g1',g2',c0,c1',e2,d0,d1,d2,d3,d4,d5,d6⟩;rw[hiw,hik,hifr];rw[n1]at hkW;rw[n2]at hiX;clear d0 d1 d2 d3 d4 d5 d6 e2 c0 c1' g0' g1' g2';have hw1:IntKind.i64.wrap (2*c)=2*c:=IntWalk.i64_in _ (by omega);have hw2:IntKind.i64.wrap (ifr+2*c)=ifr+2*c:=IntWalk.i64_in _ (by omega);obtain⟨hw1H,hw2H,hCH,hSH,n1H,n2H,n3H,n4H,hyH,hzH,hYAH,hXAH,hsvH,hcH,hccH,hlaH,hbaH,hW1H,hC1H,hws1H,hxs1H,hiwH,hikH,hifrH,hrbH⟩:=hqc hw1 hw2 hC hS n1 n2 n3 n4 (hqc hy hz hYA hXA hsv hc hcc hla (hqc hba hW1 hC1 hws1 hxs1 hiw hik hifr (Lib.hid hrb)));clear hw1 hw2 hC hS n1 n2 n3 n4 hy hz hYA hXA hsv hc hcc hla hba hW1 hC1 hws1 hxs1 hiw hik hifr hrb
 go_enter Tryz.func121,Tryz.ntmps121;go_wp2_with fail;rw[hW1H.out,hrbH.out];refine wp_region_held_drew (S:=fun w':World=>w'.cell? ⟨rb,0,none⟩=some (.int .i64 iw)∧w'.cell? ⟨rb,1,none⟩=some (.int .i64 ik)∧w'.cell? ⟨rb,2,none⟩=some (.int .i64 ifr)∧w'.cell? ⟨X.f,0,none⟩=some (.slice (some ⟨by_,oy,none⟩) X.x.workers.n X.x.workers.cap)∧w'.cell? ⟨X.f,1,none⟩=some (.slice (some ⟨bx,ox,none⟩) X.x.works.n X.x.works.cap)∧w'.cell? ⟨bx,ox+iw*4+2,none⟩=some (.int .i64 z.size)∧w'.cell? ⟨by_,oy+ik*7,none⟩=some (.string y.name)∧w'.cell? ⟨by_,oy+ik*7+1,none⟩=some (.slice y.has.A y.has.n y.has.cap)∧w'.cell? ⟨by_,oy+ik*7+2,none⟩=some (.int .i64 y.slots)∧w'.cell? ⟨by_,oy+ik*7+3,none⟩=some (.int .i64 y.speed)∧w'.cell? ⟨by_,oy+ik*7+4,none⟩=some (.int .i64 y.from_)∧w'.cell? ⟨by_,oy+ik*7+5,none⟩=some (.int .i64 y.to_)∧w'.cell? ⟨by_,oy+ik*7+6,none⟩=some (.slice y.stands.A y.stands.n y.stands.cap)) (by kernel_rfl) hH0 (fun hHeld=>?_);refine tkS [(0,5),(1,6),(2,7),(3,8),(4,9),(5,10),(6,11),(7,12),(8,13),(9,14),(10,15),(11,16),(12,17),(13,18),(14,19),(15,20),(16,21),(17,22),(18,23),(19,24),(20,25)] ?_;(iterate 21 (refine tkL ?_ ?_ ?_;rotate_left;(· intro w hSw;(try dsimp only at hSw);go_simp;(try with_reducible rfl));(try simp only[Act.put,tkA,tkB,tkC])));refine tkE ?_;refine wpAnyH_ready (rs:=[21]) (by kernel_rfl) (by simp) ?_;refine AllReadyH.cons (i:=21) rfl (fun K hK=>?_) AllReadyH.nil;go_simp;go_at_call 94;refine(secs y z.size _ z0 z1 g1 g2 c hcH.out).mono ?_
 rintro e w4 ⟨rfl,hb4⟩;have hHeld:=keep13 hb4 hHeld;have hb:Below W.heap.size W w4:=hbaH.out.trans (((Below.refl _ _).drew.trans hb4).mono hbaH.out.size);clear hb4;have hbH:=Lib.hid hb;clear hb;refine hK.out _ _ hHeld (fun hHeld=>?_);clear hK K
 (try simp only[Act.put,tkA,tkB,tkC])
 refine tkS [(22,27)] ?_;(iterate 1 (refine tkL ?_ ?_ ?_;rotate_left;(· intro w hSw;(try dsimp only at hSw);go_simp;(try with_reducible rfl));(try simp only[Act.put,tkA,tkB,tkC])));refine tkE ?_;refine tkS [(23,28)] ?_;(iterate 1 (refine tkL ?_ ?_ ?_;rotate_left;(· intro w hSw;(try dsimp only at hSw);go_simp;(try with_reducible rfl));(try simp only[Act.put,tkA,tkB,tkC])));refine tkE ?_;refine tkS [(24,4)] ?_;(iterate 1 (refine tkL ?_ ?_ ?_;rotate_left;(· intro w hSw;(try dsimp only at hSw);go_simp;(try with_reducible rfl));(try simp only[Act.put,tkA,tkB,tkC])));refine tkE ?_;refine wpAnyH_done (by kernel_rfl) ?_ _;clear hHeld hH0;go_wp2;go_ret;exact⟨ret1_int (by rw[hw1H.out,hw2H.out]),hbH.out⟩
def dbK (F:FP) (s:PS) (k:Nat):PS :=
 { s with runs:=((List.range k).foldl (dblX F s.now s.lost) (s.runs,s.begun)).1,begun:=((List.range k).foldl (dblX F s.now s.lost) (s.runs,s.begun)).2 }
theorem dbK_zero (F:FP) (s:PS):dbK F s 0=s:=rfl
theorem dbK_pair (F:FP) (s:PS) (k:Nat):dbK F s (k+1) = { s with runs:=(dblX F s.now s.lost ((dbK F s k).runs,(dbK F s k).begun) k).1,begun:=(dblX F s.now s.lost ((dbK F s k).runs,(dbK F s k).begun) k).2 }:=by
 unfold dbK;rw[List.range_succ,List.foldl_append];rfl
theorem dbK_one {F:FP} {s:PS} {k:Nat} {r:RR} (h:goingOf (dbK F s k).runs k = [r]):dbK F s (k+1)=if (decide (late F r≤s.now)&&decide (s.lost k<F.tries))=true then begS F (dbK F s k) k (some r.worker) else dbK F s k:=by
 rw[dbK_pair];unfold dblX;simp only[h]
 split
 ·rfl
 ·rfl
theorem dbK_no {F:FP} {s:PS} {k:Nat} (h:(goingOf (dbK F s k).runs k).length≠1):dbK F s (k+1)=dbK F s k:=by
 rw[dbK_pair];unfold dblX;simp only
 match hg:goingOf (dbK F s k).runs k with
 | []=>simp only[hg];rfl
 | [r]=>rw[hg]at h;exact absurd rfl h
 | a::b::c=>simp only[hg];rfl
theorem dbK_b (F:FP) (s:PS):∀ k,(dbK F s k).runs.length≤s.runs.length+k∧∀ j,s.begun j≤(dbK F s k).begun j∧(dbK F s k).begun j≤s.begun j+k
 | 0=>⟨Nat.le_refl _,fun j=>⟨Int.le_refl _,by rw[dbK_zero];simp⟩⟩
 | k+1=>by
  obtain⟨h1,h2⟩:=dbK_b F s k
  by_cases h:(goingOf (dbK F s k).runs k).length=1
  ·obtain⟨r,hr⟩:=List.length_eq_one_iff.1 h;rw[dbK_one hr]
   split
   ·obtain⟨b1,b2⟩:=beginP_len F s.now k (some r.worker) ((dbK F s k).runs,(dbK F s k).begun);refine⟨?_,fun j=>?_⟩
    ·show (beginP F s.now k (some r.worker) ((dbK F s k).runs,(dbK F s k).begun)).1.length≤_;simp only at b1;omega
    ·have:=b2 j;have:=h2 j;show s.begun j≤(beginP F s.now k (some r.worker) ((dbK F s k).runs,(dbK F s k).begun)).2 j∧(beginP F s.now k (some r.worker) ((dbK F s k).runs,(dbK F s k).begun)).2 j≤_;simp only at *;omega
   ·exact⟨by omega,fun j=>by have:=h2 j;omega⟩
  ·rw[dbK_no h];exact⟨by omega,fun j=>by have:=h2 j;omega⟩
theorem dbK_all {F:FP} {s:PS} (h:F.doubles=true):dbK F s F.nX=dblP F s:=by
 unfold dbK dblP;rw[if_pos h]
theorem FS.dbK {X:FX} {s:PS} {w0:World} (h:FS X s w0):∀ k,k≤X.F.nX→FS X (Go.Proofs.YtbnkoefljcekbaaGreatDoor.C9.dbK X.F s k) w0
 | 0,_=>h
 | k+1,hk=>by
  have ih:=FS.dbK h k (by omega)
  by_cases h1:(goingOf (Go.Proofs.YtbnkoefljcekbaaGreatDoor.C9.dbK X.F s k).runs k).length=1
  ·obtain⟨r,hr⟩:=List.length_eq_one_iff.1 h1;rw[dbK_one hr]
   split
   ·exact ih.beg (by omega) _
   ·exact ih
  ·rw[dbK_no h1];exact ih
def DbRel (X:FX) (s:PS) (ov:Value) (w0:World) (i:Value) (wr:World):Prop :=
 ∃ (k:Nat) (rv':Value),k≤X.x.works.n∧i = .int .i64 k∧FA X KLo rv' ov (dbK X.F s k) w0 wr
theorem double_any {X:FX} {rv ov:Value} {s:PS} {w0 w:World} (hA:FA X KLo rv ov s w0 w) (hS:FS X s w0) (hlen:s.runs.length≤800000) (hbg:∀ j,0≤s.begun j∧s.begun j≤800000) :
  Calls Tryz.prog 72 #[.pointer (some ⟨X.f,0,none⟩)] w (StAns X (dblP X.F s) ov w0):=by
 obtain⟨n1,n2,n3,n4,n5,n6⟩:=hS.nW;have hdb:X.F.doubles=X.x.doubles:=by obtain⟨o,e⟩:=hS.F;rw[e];rfl
 have htr:X.F.tries=X.x.tries:=by obtain⟨o,e⟩:=hS.F;rw[e];rfl
 have c4:=(hA.core.blk 4 _ rfl).1;have c1:=(hA.core.blk 1 _ rfl).1;obtain⟨db,hdbv⟩:∃ b,X.x.doubles=b:=⟨_,rfl⟩;rw[hdbv]at c4
 cases db
 ·have R:StAns X (dblP X.F s) ov w0 (.returned (.tuple #[])) w:=⟨rfl,rv,by unfold dblP;rw[hdb,hdbv,if_neg (by decide)];exact hA⟩;obtain⟨hAH,hSH,n1H,n2H,n3H,n4H,hdbH,htrH,hdbvH,RH,hbgH⟩:=hq2 hA (hq2 hS (hqc n1 n2 n3 n4 hdb htr hdbv R (Lib.hid hbg)));clear hA hS n1 n2 n3 n4 hdb htr hdbv R hbg;go_enter Tryz.func72,Tryz.ntmps72;go_wp2
  go_end0
  exact RH.out
 ·have hst:DbRel X s ov w0 (.int .i64 0) w:=⟨0,rv,Nat.zero_le _,rfl,by rw[dbK_zero];exact hA⟩;obtain⟨hAH,hSH,n1H,n2H,n3H,n4H,hdbH,htrH,hdbvH,hstH,hbgH⟩:=hq2 hA (hq2 hS (hqc n1 n2 n3 n4 hdb htr hdbv hst (Lib.hid hbg)));clear hA hS n1 n2 n3 n4 hdb htr hdbv hst hbg;go_enter Tryz.func72,Tryz.ntmps72;go_wp2_with fail;clear c4 c1
  go_loopw [16] (fun i wr=>DbRel X s ov w0 i wr) (fun i _=>X.x.works.n-(intOf i).toNat)
  case atStart=>exact hstH.out
  case round =>
   clear hstH;obtain⟨k,rv',hk,rfl,hAk⟩:=hrel
   by_cases hlt:k<X.x.works.n
   ·obtain⟨A,cap,hrv⟩:=hAk.runs.form;obtain⟨n,hnn⟩:∃ n,((dbK X.F s k).runs.map (gr X.F)).length=n:=⟨_,rfl⟩;rw[hnn]at hrv;subst hrv;obtain⟨hl1,hl2⟩:=dbK_b X.F s k;have hn:n≤1000000:=by rw[← hnn,List.length_map];omega
    have hSk:=hSH.out.dbK k (by have:=n2H.out;omega);have hgo:∀ r∈(dbK X.F s k).runs,going r=true:=fun r hr=>(hSk.rn r hr).1;have hro:=runsOf_any X.f X.F A n cap (dbK X.F s k).runs k wr X.base (hAk.core.blk 8 _ rfl).1 hAk.runs hn hgo;have hkX:k<X.F.nX:=by have:=n2H.out;omega
    have hbk:=hl2 k;have hbgk:=hbgH.out k;obtain⟨hAkH,hnnH,hSkH,hgoH,hroH,hl2H⟩:=hq2 hAk (hqb hnn hSk hgo hro (Lib.hid hl2));clear hAk hnn hSk hgo hro hl2;go_wp2_with fail;refine hroH.out.mono ?_;rintro e w5 ⟨A4,k4,c4,rfl,hk4,hsl4,hb5⟩;have hA5:=hAkH.out.below hb5;clear hroH
    by_cases h1:k4=1
    ·subst h1;obtain⟨r,hr1⟩:=List.length_eq_one_iff.1 hk4.symm;have hrm:r∈(dbK X.F s k).runs:=by
      have:r∈goingOf (dbK X.F s k).runs k:=by rw[hr1];exact List.mem_cons_self
      exact(List.mem_filter.1 this).1
     obtain⟨_,_,hkW,hiX,hf0,hf1⟩:=hSkH.out.rn r hrm;rw[hr1]at hsl4;obtain⟨ab,ao,hA9,_⟩:=hsl4.2.1 (by omega);subst hA9;obtain⟨d0,d1,d2,d3⟩:=cells_GRun hsl4 (x:=gr X.F r) (k:=0) rfl;rw[show ao+0*4=ao by omega]at d0 d1 d2 d3;obtain⟨ed,hed⟩:∃ e,(gr X.F r).end_=e:=⟨_,rfl⟩;have hst1:=dbK_one hr1;have ht1:=hSH.out.t1;have hsl:=fun W (h:Below w5.heap.size w5 W)=>slow_any (hA5.core.below h) hSkH.out hkW hiX hf0 (by have:(dbK X.F s k).now=s.now:=rfl;omega) ed;obtain⟨lt,hltv⟩:∃ l,late X.F r=l:=⟨_,rfl⟩;rw[hltv]at hst1;obtain⟨ls,hls⟩:∃ l,s.lost k=l:=⟨_,rfl⟩;rw[hls,htrH.out]at hst1;have m2:=(hA5.core.lost k hlt).1;rw[show (dbK X.F s k).lost k=s.lost k from rfl,hls]at m2;have c10:=(hA5.core.blk 10 _ rfl).1;rw[show X.N=X.x.works.n from rfl]at c10;rw[hed]at d3;replace d0:w5.cell? ⟨ab,ao,none⟩=some (.int .i64 r.work):=d0;replace d1:w5.cell? ⟨ab,ao+1,none⟩=some (.int .i64 r.worker):=d1;replace d2:w5.cell? ⟨ab,ao+2,none⟩=some (.int .i64 r.from_):=d2;have hbn:=fun W rvv (h:FA X KLo rvv ov (dbK X.F s k) w0 W)=>begin_any h hSkH.out k hkX (some r.worker) (by omega) (by omega);have hbI:bI (some r.worker)=(r.worker:Int):=rfl;simp only[hbI]at hbn;have hc7:w5.cell? ⟨X.f,7,none⟩=some (.int .i64 s.now):=(hA5.core.blk 7 _ rfl).1;obtain⟨iw,hiw⟩:∃ q,r.work=q:=⟨_,rfl⟩;obtain⟨ik,hik⟩:∃ q,r.worker=q:=⟨_,rfl⟩;obtain⟨ifr,hifr⟩:∃ q,r.from_=q:=⟨_,rfl⟩;rw[hiw]at d0 hsl;rw[hik]at d1 hsl hbn hst1;rw[hifr]at d2 hsl;have hH0:(fun w':World=>w'.cell? ⟨X.f,7,none⟩=some (.int .i64 s.now)∧w'.cell? ⟨X.f,10,none⟩=some (.slice (some ⟨X.lb,0,none⟩) X.x.works.n X.x.works.n)∧w'.cell? ⟨X.lb,k,none⟩=some (.int .i64 ls)∧w'.cell? ⟨X.f,3,none⟩=some (.int .i64 X.x.tries)∧w'.cell? ⟨ab,ao,none⟩=some (.int .i64 iw)∧w'.cell? ⟨ab,ao+1,none⟩=some (.int .i64 ik)∧w'.cell? ⟨ab,ao+2,none⟩=some (.int .i64 ifr)∧w'.cell? ⟨ab,ao+3,none⟩=some (.int .i64 ed)) w5:=⟨hc7,c10,m2,(hA5.core.blk 3 _ rfl).1,d0,d1,d2,d3⟩
     have Rno:dbK X.F s (k+1)=dbK X.F s k→∀ W,Below w5.heap.size w5 W→DbRel X s ov w0 (.int .i64 ((k:Int)+1)) W:=fun h W hW=>⟨k+1,_,hlt,by go_num,by rw[h];exact hA5.below hW⟩;clear hbI d0 d1 d2 d3 c10 m2 hc7 hsl4 hb5 hk4 hf0 hf1 hrm hl1 hbk hbgk
     by_cases h2:lt≤s.now
     ·have h2':decide (lt≤s.now)=true:=by simpa using h2
      by_cases h3:ls<X.x.tries
      ·have h3':decide (ls<X.x.tries)=true:=by simpa using h3
       rw[h2',h3',if_pos (by decide)]at hst1;have R:∀ W5 w7 rvv,BegAns X KLo rvv ov (begS X.F (dbK X.F s k) k (some ik)) w0 W5 (.returned (.tuple #[])) w7→DbRel X s ov w0 (.int .i64 ((k:Int)+1)) w7:=by
        rintro W5 w7 rvv ⟨_,rv5,h5,_⟩;exact⟨k+1,rv5,hlt,by go_num,by rw[hst1];exact h5⟩
       clear Rno hst1;obtain⟨hA5H,hr1H,hedH,hslH,hltvH,hlsH,hbnH,hiwH,hikH,hifrH,RH,hH0H⟩:=hq2 hA5 (hq2 hr1 (hq2 hed (hqc hsl hltv hls hbn hiw hik hifr R (Lib.hid hH0))));clear hA5 hr1 hed hsl hltv hls hbn hiw hik hifr R hH0;have hH0:=hH0H.out;go_wp2_with fail;refine wp_region_held_drew (S:=fun w':World=>w'.cell? ⟨X.f,7,none⟩=some (.int .i64 s.now)∧w'.cell? ⟨X.f,10,none⟩=some (.slice (some ⟨X.lb,0,none⟩) X.x.works.n X.x.works.n)∧w'.cell? ⟨X.lb,k,none⟩=some (.int .i64 ls)∧w'.cell? ⟨X.f,3,none⟩=some (.int .i64 X.x.tries)∧w'.cell? ⟨ab,ao,none⟩=some (.int .i64 iw)∧w'.cell? ⟨ab,ao+1,none⟩=some (.int .i64 ik)∧w'.cell? ⟨ab,ao+2,none⟩=some (.int .i64 ifr)∧w'.cell? ⟨ab,ao+3,none⟩=some (.int .i64 ed)) (by kernel_rfl) hH0 (fun hHeld=>?_);refine tkS [(0,22),(1,23),(2,24),(3,25),(4,26),(5,27),(6,28),(7,29)] ?_;(iterate 8 (refine tkL ?_ ?_ ?_;rotate_left;(· intro w hSw;(try dsimp only at hSw);go_simp;(try with_reducible rfl));(try simp only[Act.put,tkA,tkB,tkC])));refine tkE ?_;refine tkS [(9,31),(10,32),(11,33),(12,34)] ?_;(iterate 4 (refine tkL ?_ ?_ ?_;rotate_left;(· intro w hSw;(try dsimp only at hSw);go_simp;(try with_reducible rfl));(try simp only[Act.put,tkA,tkB,tkC])));refine tkE ?_;refine wpAnyH_ready (rs:=[8]) (by kernel_rfl) (by simp) ?_;refine AllReadyH.cons (i:=8) rfl (fun K hK=>?_) AllReadyH.nil;go_simp;go_at_call 121;refine(hslH.out _ (Below.refl _ _).drew).mono ?_;rintro e w6 ⟨rfl,hb6⟩;rw[hltvH.out];have hHeld:=keep8 hb6 hHeld;have hb56:Below w5.heap.size w5 w6:=(Below.refl _ _).drew.trans hb6
       clear hb6;have hb56H:=Lib.hid hb56;clear hb56;refine hK.out _ _ hHeld (fun hHeld=>?_);clear hK K
       (try simp only[Act.put,tkA,tkB,tkC])
       refine tkS [(13,35)] ?_;(iterate 1 (refine tkL ?_ ?_ ?_;rotate_left;(· intro w hSw;(try dsimp only at hSw);go_simp;(try with_reducible rfl));(try simp only[Act.put,tkA,tkB,tkC])));refine tkE ?_;refine tkS [(14,36),(15,37)] ?_;(iterate 2 (refine tkL ?_ ?_ ?_;rotate_left;(· intro w hSw;(try dsimp only at hSw);go_simp;(try with_reducible rfl));(try simp only[Act.put,tkA,tkB,tkC])));refine tkE ?_;refine tkS [(16,38),(17,39),(18,40),(19,41),(20,42),(21,43),(22,44),(23,45),(24,46),(25,47),(26,48),(27,49),(28,50)] ?_;(iterate 13 (refine tkL ?_ ?_ ?_;rotate_left;(· intro w hSw;(try dsimp only at hSw);go_simp;(try with_reducible rfl));(try simp only[Act.put,tkA,tkB,tkC])));refine tkE ?_;refine tkS [(29,51)] ?_;(iterate 1 (refine tkL ?_ ?_ ?_;rotate_left;(· intro w hSw;(try dsimp only at hSw);go_simp;(try with_reducible rfl));(try simp only[Act.put,tkA,tkB,tkC])));refine tkE ?_;refine wpAnyH_done (by kernel_rfl) ?_ _;have hbw:=hbnH.out _ _ (hA5H.out.below hb56H.out);obtain⟨u0,u1,u2,u3,u4,u5,u6,u7⟩:=hHeld;clear hH0;have hbwH:=Lib.hid hbw;clear hbw;go_wp2_with fail;refine hbwH.out.mono ?_;rintro e w7 h7;have h70:e = .returned (.tuple #[]):=h7.1;subst h70;have R5:=RH.out _ w7 _ h7;clear h7;have R5H:=Lib.hid R5;clear R5;go_wp2;refine⟨?rel,?measure⟩
       case measure=>(simp[intOf];omega)
       case rel=>first | exact R5H.out | exact⟨rfl,R5H.out⟩
      ·have h3':decide (ls<X.x.tries)=false:=by simpa using h3
       rw[h2',h3',if_neg (by decide)]at hst1;have R:=Rno hst1;clear Rno hst1;obtain⟨hA5H,hr1H,hedH,hslH,hltvH,hlsH,hbnH,hiwH,hikH,hifrH,RH,hH0H⟩:=hq2 hA5 (hq2 hr1 (hq2 hed (hqc hsl hltv hls hbn hiw hik hifr R (Lib.hid hH0))));clear hA5 hr1 hed hsl hltv hls hbn hiw hik hifr R hH0;have hH0:=hH0H.out;go_wp2_with fail;refine wp_region_held_drew (S:=fun w':World=>w'.cell? ⟨X.f,7,none⟩=some (.int .i64 s.now)∧w'.cell? ⟨X.f,10,none⟩=some (.slice (some ⟨X.lb,0,none⟩) X.x.works.n X.x.works.n)∧w'.cell? ⟨X.lb,k,none⟩=some (.int .i64 ls)∧w'.cell? ⟨X.f,3,none⟩=some (.int .i64 X.x.tries)∧w'.cell? ⟨ab,ao,none⟩=some (.int .i64 iw)∧w'.cell? ⟨ab,ao+1,none⟩=some (.int .i64 ik)∧w'.cell? ⟨ab,ao+2,none⟩=some (.int .i64 ifr)∧w'.cell? ⟨ab,ao+3,none⟩=some (.int .i64 ed)) (by kernel_rfl) hH0 (fun hHeld=>?_);refine tkS [(0,22),(1,23),(2,24),(3,25),(4,26),(5,27),(6,28),(7,29)] ?_;(iterate 8 (refine tkL ?_ ?_ ?_;rotate_left;(· intro w hSw;(try dsimp only at hSw);go_simp;(try with_reducible rfl));(try simp only[Act.put,tkA,tkB,tkC])));refine tkE ?_;refine tkS [(9,31),(10,32),(11,33),(12,34)] ?_;(iterate 4 (refine tkL ?_ ?_ ?_;rotate_left;(· intro w hSw;(try dsimp only at hSw);go_simp;(try with_reducible rfl));(try simp only[Act.put,tkA,tkB,tkC])));refine tkE ?_;refine wpAnyH_ready (rs:=[8]) (by kernel_rfl) (by simp) ?_;refine AllReadyH.cons (i:=8) rfl (fun K hK=>?_) AllReadyH.nil;go_simp;go_at_call 121;refine(hslH.out _ (Below.refl _ _).drew).mono ?_;rintro e w6 ⟨rfl,hb6⟩;rw[hltvH.out]
       have hHeld:=keep8 hb6 hHeld;have hb56:Below w5.heap.size w5 w6:=(Below.refl _ _).drew.trans hb6;clear hb6;have hb56H:=Lib.hid hb56;clear hb56;refine hK.out _ _ hHeld (fun hHeld=>?_);clear hK K
       (try simp only[Act.put,tkA,tkB,tkC])
       refine tkS [(13,35)] ?_;(iterate 1 (refine tkL ?_ ?_ ?_;rotate_left;(· intro w hSw;(try dsimp only at hSw);go_simp;(try with_reducible rfl));(try simp only[Act.put,tkA,tkB,tkC])));refine tkE ?_;refine tkS [(14,36),(15,37)] ?_;(iterate 2 (refine tkL ?_ ?_ ?_;rotate_left;(· intro w hSw;(try dsimp only at hSw);go_simp;(try with_reducible rfl));(try simp only[Act.put,tkA,tkB,tkC])));refine tkE ?_;refine tkS [(16,38),(17,39),(18,40),(19,41),(20,42),(21,43),(22,44),(23,45),(24,46),(25,47),(26,48),(27,49),(28,50)] ?_;(iterate 13 (refine tkL ?_ ?_ ?_;rotate_left;(· intro w hSw;(try dsimp only at hSw);go_simp;(try with_reducible rfl));(try simp only[Act.put,tkA,tkB,tkC])));refine tkE ?_;refine tkS [(29,51)] ?_;(iterate 1 (refine tkL ?_ ?_ ?_;rotate_left;(· intro w hSw;(try dsimp only at hSw);go_simp;(try with_reducible rfl));(try simp only[Act.put,tkA,tkB,tkC])));refine tkE ?_;refine wpAnyH_done (by kernel_rfl) ?_ _;clear hHeld hH0;go_wp2;refine⟨?rel,?measure⟩
       case measure=>(simp[intOf];omega)
       case rel=>first | exact(RH.out _ hb56H.out) | exact⟨rfl,(RH.out _ hb56H.out)⟩
     ·have h2':decide (lt≤s.now)=false:=by simpa using h2
      rw[h2',if_neg (by simp)]at hst1;have R:=Rno hst1;clear Rno hst1;obtain⟨hA5H,hr1H,hedH,hslH,hltvH,hlsH,hbnH,hiwH,hikH,hifrH,RH,hH0H⟩:=hq2 hA5 (hq2 hr1 (hq2 hed (hqc hsl hltv hls hbn hiw hik hifr R (Lib.hid hH0))));clear hA5 hr1 hed hsl hltv hls hbn hiw hik hifr R hH0;have hH0:=hH0H.out;go_wp2_with fail;refine wp_region_held_drew (S:=fun w':World=>w'.cell? ⟨X.f,7,none⟩=some (.int .i64 s.now)∧w'.cell? ⟨X.f,10,none⟩=some (.slice (some ⟨X.lb,0,none⟩) X.x.works.n X.x.works.n)∧w'.cell? ⟨X.lb,k,none⟩=some (.int .i64 ls)∧w'.cell? ⟨X.f,3,none⟩=some (.int .i64 X.x.tries)∧w'.cell? ⟨ab,ao,none⟩=some (.int .i64 iw)∧w'.cell? ⟨ab,ao+1,none⟩=some (.int .i64 ik)∧w'.cell? ⟨ab,ao+2,none⟩=some (.int .i64 ifr)∧w'.cell? ⟨ab,ao+3,none⟩=some (.int .i64 ed)) (by kernel_rfl) hH0 (fun hHeld=>?_);refine tkS [(0,22),(1,23),(2,24),(3,25),(4,26),(5,27),(6,28),(7,29)] ?_;(iterate 8 (refine tkL ?_ ?_ ?_;rotate_left;(· intro w hSw;(try dsimp only at hSw);go_simp;(try with_reducible rfl));(try simp only[Act.put,tkA,tkB,tkC])));refine tkE ?_;refine tkS [(9,31),(10,32),(11,33),(12,34)] ?_;(iterate 4 (refine tkL ?_ ?_ ?_;rotate_left;(· intro w hSw;(try dsimp only at hSw);go_simp;(try with_reducible rfl));(try simp only[Act.put,tkA,tkB,tkC])));refine tkE ?_;refine wpAnyH_ready (rs:=[8]) (by kernel_rfl) (by simp) ?_;refine AllReadyH.cons (i:=8) rfl (fun K hK=>?_) AllReadyH.nil;go_simp;go_at_call 121;refine(hslH.out _ (Below.refl _ _).drew).mono ?_;rintro e w6 ⟨rfl,hb6⟩;rw[hltvH.out]
      have hHeld:=keep8 hb6 hHeld;have hb56:Below w5.heap.size w5 w6:=(Below.refl _ _).drew.trans hb6;clear hb6;have hb56H:=Lib.hid hb56;clear hb56;refine hK.out _ _ hHeld (fun hHeld=>?_);clear hK K
      (try simp only[Act.put,tkA,tkB,tkC])
      refine tkS [(13,35)] ?_;(iterate 1 (refine tkL ?_ ?_ ?_;rotate_left;(· intro w hSw;(try dsimp only at hSw);go_simp;(try with_reducible rfl));(try simp only[Act.put,tkA,tkB,tkC])));refine tkE ?_;refine tkS [(14,36),(15,37)] ?_;(iterate 2 (refine tkL ?_ ?_ ?_;rotate_left;(· intro w hSw;(try dsimp only at hSw);go_simp;(try with_reducible rfl));(try simp only[Act.put,tkA,tkB,tkC])));refine tkE ?_;refine tkS [(16,38),(17,39),(18,40),(19,41),(20,42),(21,43),(22,44),(23,45),(24,46),(25,47),(26,48),(27,49),(28,50)] ?_;(iterate 13 (refine skL ?_;(try simp only[Act.put,tkA,tkB,tkC])));refine tkE ?_;refine tkS [(29,51)] ?_;(iterate 1 (refine tkL ?_ ?_ ?_;rotate_left;(· intro w hSw;(try dsimp only at hSw);go_simp;(try with_reducible rfl));(try simp only[Act.put,tkA,tkB,tkC])));refine tkE ?_;refine wpAnyH_done (by kernel_rfl) ?_ _;clear hHeld hH0;go_wp2;refine⟨?rel,?measure⟩
      case measure=>(simp[intOf];omega)
      case rel=>first | exact(RH.out _ hb56H.out) | exact⟨rfl,(RH.out _ hb56H.out)⟩
    ·have h1':((k4:Int)==1)=false:=by
      have:¬ (k4:Int)=1:=by omega
      simpa using this
     have hst1:=dbK_no (F:=X.F) (s:=s) (k:=k) (by rw[← hk4];exact h1);have R:∀ W,Below w5.heap.size w5 W→DbRel X s ov w0 (.int .i64 ((k:Int)+1)) W:=fun W hW=>⟨k+1,_,hlt,by go_num,by rw[hst1];exact hA5.below hW⟩;clear hst1 hA5 hk4 hsl4 h1 hb5 hl1;have RH:=Lib.hid R;clear R;go_wp2_with fail;refine wp_region_held_drew (S:=fun _=>True) (by kernel_rfl) trivial (fun hHeld=>?_);refine tkS [(0,22),(1,23),(2,24),(3,25)] ?_;(iterate 4 (refine tkL ?_ ?_ ?_;rotate_left;(· intro w hSw;(try dsimp only at hSw);go_simp;(try with_reducible rfl));(try simp only[Act.put,tkA,tkB,tkC])));refine tkE ?_;refine tkS [(4,26),(5,27),(6,28),(7,29),(8,30),(9,31),(10,32),(11,33),(12,34),(13,35)] ?_;(iterate 10 (refine skL ?_;(try simp only[Act.put,tkA,tkB,tkC])));refine tkE ?_;refine tkS [(14,36),(15,37)] ?_;(iterate 2 (refine tkL ?_ ?_ ?_;rotate_left;(· intro w hSw;(try dsimp only at hSw);go_simp;(try with_reducible rfl));(try simp only[Act.put,tkA,tkB,tkC])));refine tkE ?_;refine tkS [(16,38),(17,39),(18,40),(19,41),(20,42),(21,43),(22,44),(23,45),(24,46),(25,47),(26,48),(27,49),(28,50)] ?_;(iterate 13 (refine skL ?_;(try simp only[Act.put,tkA,tkB,tkC])));refine tkE ?_;refine tkS [(29,51)] ?_;(iterate 1 (refine tkL ?_ ?_ ?_;rotate_left;(· intro w hSw;(try dsimp only at hSw);go_simp;(try with_reducible rfl));(try simp only[Act.put,tkA,tkB,tkC])));refine tkE ?_;refine wpAnyH_done (by kernel_rfl) ?_ _;clear hHeld;go_wp2;refine⟨?rel,?measure⟩
     case measure=>(simp[intOf];omega)
     case rel=>first | exact(RH.out _ (Below.refl _ _).drew) | exact⟨rfl,(RH.out _ (Below.refl _ _).drew)⟩
   ·obtain rfl:k=X.x.works.n:=by omega
    have R:StAns X (dblP X.F s) ov w0 (.returned (.tuple #[])) wr:=⟨rfl,rv',by rw[← dbK_all (by rw[hdbH.out,hdbvH.out]),n2H.out];exact hAk⟩;clear hAk;have RH:=Lib.hid R;clear R;go_wp2
    go_end0
    exact RH.out
/-! ### plain: looking at one moment after the other -/
def see1 (t:Int) (x:Int × Bool) (a:Int):Int × Bool:=if t<a∧(x.2=false∨a<x.1) then (a,true) else x
def seeF (t:Int) (L:List Int):Int × Bool:=L.foldl (see1 t) (0,false)
theorem seeF_snoc (t:Int) (L:List Int) (a:Int):seeF t (L ++ [a])=see1 t (seeF t L) a:=by unfold seeF;rw[List.foldl_append];rfl
theorem seeF_spec (t:Int) (L:List Int):((seeF t L).2=false→(seeF t L).1=0∧∀ x∈L,x≤t)∧((seeF t L).2=true→(seeF t L).1∈L∧t<(seeF t L).1∧∀ x∈L,t<x→(seeF t L).1≤x):=by
 have aux:∀ k,k≤L.length→((seeF t (L.take k)).2=false→(seeF t (L.take k)).1=0∧∀ x∈L.take k,x≤t)∧((seeF t (L.take k)).2=true→(seeF t (L.take k)).1∈L.take k∧t<(seeF t (L.take k)).1∧∀ x∈L.take k,t<x→(seeF t (L.take k)).1≤x):=by
  intro k
  induction k with
  | zero=>intro _;exact⟨fun _=>⟨rfl,fun x h=>by simp at h⟩,fun h=>by simp[seeF]at h⟩
  | succ k ih =>
   intro hk;obtain⟨h1,h2⟩:=ih (by omega);obtain⟨a,ha⟩:∃ a,L[k]? = some a:=⟨L[k]'(by omega),List.getElem?_eq_getElem _⟩;rw[List.take_add_one,ha,Option.toList_some,seeF_snoc];unfold see1
   split
   ·rename_i hc
    refine⟨fun h=>(by cases h),fun _=>⟨by simp,hc.1,fun x hx hxt=>?_⟩⟩
    rcases List.mem_append.1 hx with hx | hx
    ·cases hb:(seeF t (L.take k)).2
     ·have:=(h1 hb).2 x hx;omega
     ·have:=(h2 hb).2.2 x hx hxt
      rcases hc.2 with h | h
      ·rw[hb]at h;cases h
      ·show a≤x;omega
    ·rw[List.mem_singleton.1 hx];exact Int.le_refl _
   ·rename_i hc
    refine⟨fun h=>⟨(h1 h).1,fun x hx=>?_⟩,fun h=>⟨List.mem_append_left _ (h2 h).1,(h2 h).2.1,fun x hx hxt=>?_⟩⟩
    ·rcases List.mem_append.1 hx with hx | hx
     ·exact(h1 h).2 x hx
     ·rw[List.mem_singleton.1 hx];exact Classical.byContradiction fun hn=>hc ⟨by omega,.inl h⟩
    ·rcases List.mem_append.1 hx with hx | hx
     ·exact(h2 h).2.2 x hx hxt
     ·rw[List.mem_singleton.1 hx]at hxt ⊢;exact Classical.byContradiction fun hn=>hc ⟨hxt,.inr (by omega)⟩
 have:=aux L.length (Nat.le_refl _)
 rwa [List.take_length]at this
def nxV:Option Int→Int × Bool
 | none=>(0,false)
 | some m=>(m,true)
theorem seeF_above (t:Int) (L:List Int):seeF t L=nxV (above t L):=by
 obtain⟨h1,h2⟩:=seeF_spec t L
 cases hb:(seeF t L).2
 ·obtain⟨a,b⟩:=h1 hb;have:above t L=none:=by
   cases h:above t L with
   | none=>rfl
   | some m=>obtain⟨c,d,_⟩:=above_some h;have:=b m c;omega
  rw[this];exact Prod.ext a hb
 ·obtain⟨a,b,c⟩:=h2 hb;obtain⟨m,hm,hle⟩:=above_ex a b;obtain⟨d,e,f⟩:=above_some hm;rw[hm];exact Prod.ext (by have:=c m d e;show (seeF t L).1=m;omega) hb
/-! ### one look -/
structure NxC (X:FX) (t:Int) (pb lb fb:Nat) (x:Int × Bool) (W:World):Prop where
 p:W.cell? ⟨pb,0,none⟩=some (.pointer (some ⟨X.f,0,none⟩))
 n:W.cell? ⟨X.f,7,none⟩=some (.int .i64 t)
 l:W.cell? ⟨lb,0,none⟩=some (.int .i64 x.1)
 f:W.cell? ⟨fb,0,none⟩=some (.bool x.2)
 lf:W.frozen? ⟨lb,0,none⟩=false
 ff:W.frozen? ⟨fb,0,none⟩=false
theorem NxC.below {X:FX} {t:Int} {pb lb fb:Nat} {x:Int × Bool} {W W':World} (h:NxC X t pb lb fb x W) (hb:Below W.heap.size W W'):NxC X t pb lb fb x W' :=
 ⟨keepC hb h.p,keepC hb h.n,keepC hb h.l,keepC hb h.f,(hb.frozen (p:=⟨lb,0,none⟩) (cell?_lt h.l)).trans h.lf,(hb.frozen (p:=⟨fb,0,none⟩) (cell?_lt h.f)).trans h.ff⟩
def SeeAns (X:FX) (t:Int) (B pb lb fb:Nat) (x:Int × Bool) (W:World) (e:Ending) (w':World):Prop:=e = .returned (.tuple #[])∧NxC X t pb lb fb x w'∧Below B W w'∧W.heap.size≤w'.heap.size∧∀ c,c≠lb→c≠fb→c<W.heap.size→w'.heap[c]? = W.heap[c]?
theorem see_any {X:FX} {t:Int} {B pb lb fb:Nat} {x:Int × Bool} {W:World} (a:Int) (h:NxC X t pb lb fb x W) (hl:B≤lb) (hf:B≤fb) (hB:B≤W.heap.size) (n1:lb≠fb) (n2:lb≠pb) (n3:fb≠pb) (n4:lb≠X.f) (n5:fb≠X.f) :
  Calls Tryz.prog 122 #[.int .i64 a,.pointer (some ⟨pb,0,none⟩),.pointer (some ⟨fb,0,none⟩),.pointer (some ⟨lb,0,none⟩)] W (SeeAns X t B pb lb fb (see1 t x a) W):=by
 obtain⟨p,n,l,f,lf,ff⟩:=h;obtain⟨v,b⟩:=x;simp only at l f;have R1:(t<a∧(b=false∨a<v))→SeeAns X t B pb lb fb (see1 t (v,b) a) W (.returned (.tuple #[])) ((W.setCell ⟨lb,0,none⟩ (.int .i64 a)).setCell ⟨fb,0,none⟩ (.bool true)):=by
  intro hc;unfold see1;rw[if_pos hc];have o:∀ (c j:Nat) (u:Value),c≠lb→c≠fb→W.cell? ⟨c,j,none⟩=some u→((W.setCell ⟨lb,0,none⟩ (.int .i64 a)).setCell ⟨fb,0,none⟩ (.bool true)).cell? ⟨c,j,none⟩=some u:=fun c j u h1 h2 h3=>by
   rw[World.cell?_setCell_other _ _ _ _ (by simp <;> omega),World.cell?_setCell_other _ _ _ _ (by simp <;> omega)];exact h3
  refine⟨rfl,⟨o pb 0 _ (Ne.symm n2) (Ne.symm n3) p,o X.f 7 _ (Ne.symm n4) (Ne.symm n5) n,?_,?_,by rw[World.frozen?_setCell,World.frozen?_setCell];exact lf,by rw[World.frozen?_setCell,World.frozen?_setCell];exact ff⟩,?_⟩
  ·rw[World.cell?_setCell_other _ _ _ _ (by simp <;> omega)];exact World.cell?_setCell_same' _ _ _ (by rw[l];rfl)
  ·exact World.cell?_setCell_same' _ _ _ (by rw[World.cell?_setCell_other _ _ _ _ (by simp <;> omega),f];rfl)
  ·refine⟨((Below.mono (Below.refl W.heap.size W) hB).setCell (p:=⟨lb,0,none⟩) hl _).setCell (p:=⟨fb,0,none⟩) hf _,by simp,fun c h1 h2 h3=>?_⟩;rw[(grown_setc _ ⟨fb,0,none⟩ _).block c (by simpa using h3) (by simp;omega),(grown_setc W ⟨lb,0,none⟩ _).block c h3 (by simp;omega)]
 have R2:¬ (t<a∧(b=false∨a<v))→SeeAns X t B pb lb fb (see1 t (v,b) a) W (.returned (.tuple #[])) W:=by
  intro hc;unfold see1;rw[if_neg hc];exact⟨rfl,⟨p,n,l,f,lf,ff⟩,Below.mono (Below.refl W.heap.size W) hB,Nat.le_refl _,fun _ _ _ _=>rfl⟩
 obtain⟨Q,hQ⟩:∃ Q,SeeAns X t B pb lb fb (see1 t (v,b) a) W=Q:=⟨_,rfl⟩;rw[hQ]at R1 R2 ⊢
 by_cases h1:t<a
 ·cases b
  ·have R:=R1 ⟨h1,.inl rfl⟩;clear R1 R2;obtain⟨RH,hQH⟩:=hq2 R (Lib.hid hQ);clear R hQ;go_enter Tryz.func122,Tryz.ntmps122;go_wp2
   go_end0
   exact RH.out
  ·by_cases h2:a<v
   ·have R:=R1 ⟨h1,.inr h2⟩;clear R1 R2;obtain⟨RH,hQH⟩:=hq2 R (Lib.hid hQ);clear R hQ;go_enter Tryz.func122,Tryz.ntmps122;go_wp2
    go_end0
    exact RH.out
   ·have R:=R2 (fun h=>h.2.elim (fun h=>by cases h) (fun h=>h2 h));have h2':decide (a<v)=false:=by simpa using h2
    clear R1 R2 h2;obtain⟨RH,hQH⟩:=hq2 R (Lib.hid hQ);clear R hQ;go_enter Tryz.func122,Tryz.ntmps122;go_wp2
    go_end0
    exact RH.out
 ·have R:=R2 (fun h=>h1 h.1);have h1':decide (t<a)=false:=by simpa using h1
  clear R1 R2 h1;obtain⟨RH,hQH⟩:=hq2 R (Lib.hid hQ);clear R hQ;go_enter Tryz.func122,Tryz.ntmps122;go_wp2
  go_end0
  exact RH.out
end Go.Proofs.YtbnkoefljcekbaaGreatDoor.C9