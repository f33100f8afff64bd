/-
 Several texts of mine as one, without what is not wanted here: XFmB, XREnds, XSeconds.
-/
import Derived.Test.YtbnkoefljcekbaaGreatDoorPyJC9
set_option linter.unusedVariables false
set_option linter.unusedSimpArgs false
set_option maxRecDepth 100000
set_option maxHeartbeats 8000000
namespace Go.Proofs.YtbnkoefljcekbaaGreatDoor.C9
open Go.ChangeShapes Go.WideShapes Go.Deep Go.RowKit
def bI:Option Nat→Int
 | none=>-1
 | some b=>b
theorem bI_lt {ok:Nat→Bool} {sp:Nat→Int} {n:Nat}:-1≤bI (bestW ok sp n)∧bI (bestW ok sp n)<n:=by
 cases h:bestW ok sp n with
 | none=>show -1≤(-1:Int)∧(-1:Int)<n;omega
 | some b=>have:=(bestW_some h).1;show -1≤(b:Int)∧(b:Int)<n;omega
theorem bestW_no {ok:Nat→Bool} {sp:Nat→Int} {n:Nat} (h:ok n=false):bestW ok sp (n+1)=bestW ok sp n:=by rw[bestW,if_neg (by rw[h];simp)]
theorem bestW_yes {ok:Nat→Bool} {sp:Nat→Int} {n:Nat} (h:ok n=true):bestW ok sp (n+1)=match bestW ok sp n with
   | none=>some n
   | some b=>if sp b<sp n then some n else some b:=by rw[bestW,if_pos h];cases bestW ok sp n <;> rfl
theorem FS.wk {X:FX} {s:PS} {w0:World} (h:FS X s w0) {k:Nat} {y:Worker} (hy:X.x.workers.l[k]? = some y):X.F.wfrom k=y.from_∧X.F.wto k=y.to_∧X.F.slots k=y.slots∧X.F.speed k=y.speed∧(∀ i,X.F.fit k i=fitF (woOf X.x i).needs.l y.has.l):=by
 obtain⟨o,e⟩:=h.F;rw[e];simp only[fpOf];rw[wkOf_get hy];exact⟨rfl,rfl,rfl,rfl,fun _=>rfl⟩
theorem FS.nW {X:FX} {s:PS} {w0:World} (h:FS X s w0):X.F.nW=X.x.workers.n∧X.F.nX=X.x.works.n∧X.x.workers.l.length=X.x.workers.n∧X.x.works.l.length=X.x.works.n∧X.x.workers.n≤50∧X.x.works.n≤200:=by
 obtain⟨o,e⟩:=h.F;have h1:X.x.workers.l.length=X.x.workers.n:=h.ws.1.1;have h2:X.x.works.l.length=X.x.works.n:=h.xs.1.1;have h3:=h.ok.wkn;have h4:=h.ok.wo.len;rw[e];exact⟨h1,h2,h1,h2,by omega,by omega⟩
def BestRel (F:FP) (ok:Nat→Bool) (N:Nat) (w:World) (b i:Value) (wr:World):Prop :=
 ∃ j:Nat,j≤N∧i = .int .i64 j∧b = .int .i64 (bI (bestW ok F.speed j))∧Below w.heap.size w wr
theorem keep10 {W w':World} {a0 a1 a2 a3 a4 a5 a6 a7 a8 a9:Addr} {v0 v1 v2 v3 v4 v5 v6 v7 v8 v9:Value} (hb:Below W.heap.size W w') (h:W.cell? a0=some v0∧W.cell? a1=some v1∧W.cell? a2=some v2∧W.cell? a3=some v3∧W.cell? a4=some v4∧W.cell? a5=some v5∧W.cell? a6=some v6∧W.cell? a7=some v7∧W.cell? a8=some v8∧W.cell? a9=some v9) :
  w'.cell? a0=some v0∧w'.cell? a1=some v1∧w'.cell? a2=some v2∧w'.cell? a3=some v3∧w'.cell? a4=some v4∧w'.cell? a5=some v5∧w'.cell? a6=some v6∧w'.cell? a7=some v7∧w'.cell? a8=some v8∧w'.cell? a9=some v9 :=
 ⟨keepC hb h.1,keepC hb h.2.1,keepC hb h.2.2.1,keepC hb h.2.2.2.1,keepC hb h.2.2.2.2.1,keepC hb h.2.2.2.2.2.1,keepC hb h.2.2.2.2.2.2.1,keepC hb h.2.2.2.2.2.2.2.1,keepC hb h.2.2.2.2.2.2.2.2.1,keepC hb h.2.2.2.2.2.2.2.2.2⟩
theorem best_any {X:FX} {K:KD Tryz.prog 71 Loss} {rv ov:Value} {s:PS} {w0 w:World} (hA:FA X K rv ov s w0 w) (hS:FS X s w0) (i:Nat) (hi:i<X.F.nX) (bo:Option Nat) (hlen:s.runs.length≤1000000) :
  Calls Tryz.prog 162 #[.pointer (some ⟨X.f,0,none⟩),.int .i64 i,.int .i64 (bI bo)] w fun e w'=>e = .returned (.int .i64 (bI (bestW (canW X.F s.now s.runs i bo) X.F.speed X.F.nW)))∧Below w.heap.size w w':=by
 obtain⟨n1,n2,n3,n4,n5,n6⟩:=hS.nW;obtain⟨A,cap,hrv⟩:=hA.runs.form;obtain⟨n,hn⟩:∃ n,(s.runs.map (gr X.F)).length=n:=⟨_,rfl⟩;rw[hn]at hrv;subst hrv;have hn:n≤1000000:=by rw[← hn,List.length_map];exact hlen
 have c0:=(hA.core.blk 0 _ rfl).1;have c1:=(hA.core.blk 1 _ rfl).1;have c7:=(hA.core.blk 7 _ rfl).1;have c8:=(hA.core.blk 8 _ rfl).1;have hfl:=cell?_lt c0;have hsl:=hA.runs.slAt;have hws:=hS.ws.1.below hA.core.bel;have hxs:=hS.xs.1.below hA.core.bel;have hxok:=hS.xs;obtain⟨bx,ox,hXA,_⟩:=hxs.2.1 (by omega);obtain⟨z,hz⟩:∃ z,X.x.works.l[i]? = some z:=⟨X.x.works.l[i]'(by omega),List.getElem?_eq_getElem _⟩;have hzw:woOf X.x i=z:=woOf_get hz;have hzo:=hxs.2.2 z (List.mem_of_getElem? hz);rw[hXA]at hxs c1;obtain⟨x0,x1,x2,x3⟩:=cells_Work hxs hz;have hgo:∀ r∈s.runs,going r=true:=fun r hr=>(hS.rn r hr).1;obtain⟨bt,hbt⟩:∃ b,bI bo=b:=⟨_,rfl⟩;obtain⟨ok,hok⟩:∃ f,canW X.F s.now s.runs i bo=f:=⟨_,rfl⟩;have hwsA:=hws;clear x0 x2 x3;rw[hbt,hok,n1];have hN:=X.x.workers.n;obtain⟨N,hN⟩:∃ N,X.x.workers.n=N:=⟨_,rfl⟩;obtain⟨WA,hWA⟩:∃ A,X.x.workers.A=A:=⟨_,rfl⟩;rw[hN]at c0 hws n1 n3 n5 ⊢;rw[hWA]at c0 hws;rw[n2]at hi;obtain⟨hAH,hSH,hslH,hwsH,hxsH,hxokH,hzH,hzwH,hzoH,hgoH,hbtH,hokH,n1H,n2H,n3H,n4H,hwsAH,hXAH,hNH,hWAH⟩:=hq2 hA (hq2 hS (hq2 hsl (hqc hws hxs hxok hz hzw hzo hgo hbt (hqc hok n1 n2 n3 n4 hwsA hXA hN (Lib.hid hWA)))));clear hA hS hsl hws hxs hxok hz hzw hzo hgo hbt hok n1 n2 n3 n4 hwsA hXA hN hWA;go_enter Tryz.func162,Tryz.ntmps162;go_wp2_with fail
 go_loopw [7,16] (fun b i wr=>BestRel X.F ok N w b i wr) (fun _ i _=>N-(intOf i).toNat)
 case atStart=>exact⟨0,Nat.zero_le _,rfl,rfl,Below.refl _ _⟩
 case round =>
  obtain⟨j,hj,rfl,rfl,hb⟩:=hrel;have hbs:=hb.size;have hbl:=bI_lt (ok:=ok) (sp:=X.F.speed) (n:=j);have c0:=(hb.cell hfl).trans c0;have c1:=(hb.cell hfl).trans c1;have c7:=(hb.cell hfl).trans c7;have c8:=(hb.cell hfl).trans c8;have x1:=(hb.cell (cell?_lt x1)).trans x1
  by_cases hlt:j<N
  ·obtain⟨by_,oy,hYA,_⟩:=hwsH.out.2.1 (by omega);obtain⟨y,hy⟩:∃ y,X.x.workers.l[j]? = some y:=⟨X.x.workers.l[j]'(by have:=n3H.out;omega),List.getElem?_eq_getElem _⟩;subst hYA;have hws':=hwsH.out.below hb;obtain⟨d0,d1,d2,d3,d4,d5,d6⟩:=cells_Worker hws' hy;have hyo:=hws'.2.2 y (List.mem_of_getElem? hy);obtain⟨k1,k2,k3,k4,k5⟩:=hSH.out.wk hy;have hcan:ok j=(!(some j==bo)&&(decide (y.from_≤s.now)&&(decide (s.now<y.to_)&&(decide ((busy s.runs j:Int)<y.slots)&&fitF z.needs.l y.has.l)))):=by
    rw[← hokH.out];unfold canW;rw[k1,k2,k3,k5,hzwH.out]
   obtain⟨yn,yh,ys,yv,yf,yt,yd⟩:=y;simp only at d0 d1 d2 d3 d4 d5 d6 hcan k4 hyo;have hba:=(Below.refl wr.heap.size wr).alloc (Nat.le_refl _) (.cells #[.string yn,.slice yh.A yh.n yh.cap,.int .i64 ys,.int .i64 yv,.int .i64 yf,.int .i64 yt,.slice yd.A yd.n yd.cap] 84);have hb5:Below w.heap.size w (wr.alloc (.cells #[.string yn,.slice yh.A yh.n yh.cap,.int .i64 ys,.int .i64 yv,.int .i64 yf,.int .i64 yt,.slice yd.A yd.n yd.cap] 84)):=hb.trans (hba.mono hbs);have hH0:(fun w':World=>w'.cell? ⟨X.f,7,none⟩=some (.int .i64 s.now)∧w'.cell? ⟨wr.heap.size,4,none⟩=some (.int .i64 yf)∧w'.cell? ⟨wr.heap.size,5,none⟩=some (.int .i64 yt)∧w'.cell? ⟨wr.heap.size,2,none⟩=some (.int .i64 ys)∧w'.cell? ⟨X.f,1,none⟩=some (.slice (some ⟨bx,ox,none⟩) X.x.works.n X.x.works.cap)∧w'.cell? ⟨bx,ox+i*4+1,none⟩=some (.slice z.needs.A z.needs.n z.needs.cap)∧w'.cell? ⟨wr.heap.size,1,none⟩=some (.slice yh.A yh.n yh.cap)∧w'.cell? ⟨X.f,8,none⟩=some (.slice A n cap)∧w'.cell? ⟨wr.heap.size,3,none⟩=some (.int .i64 yv)∧w'.cell? ⟨X.f,0,none⟩=some (.slice (some ⟨by_,oy,none⟩) N X.x.workers.cap)) (wr.alloc (.cells #[.string yn,.slice yh.A yh.n yh.cap,.int .i64 ys,.int .i64 yv,.int .i64 yf,.int .i64 yt,.slice yd.A yd.n yd.cap] 84)) :=
    ⟨keepC hba c7,cell_new _ _ _ 4,cell_new _ _ _ 5,cell_new _ _ _ 2,keepC hba c1,keepC hba x1,cell_new _ _ _ 1,keepC hba c8,cell_new _ _ _ 3,keepC hba c0⟩
   have Rno:ok j=false→∀ w',Below wr.heap.size wr w'→BestRel X.F ok N w (.int .i64 (bI (bestW ok X.F.speed j))) (.int .i64 ((j:Int)+1)) w':=fun hno w' hw' =>
    ⟨j+1,hlt,by go_num,by rw[bestW_no hno],hb.trans (hw'.mono hbs)⟩
   obtain⟨bv,hbv⟩:∃ b,bI (bestW ok X.F.speed j)=b:=⟨_,rfl⟩;rw[hbv]at hbl Rno ⊢;have hbn:-1≤bv∧bv<(j:Int):=hbl;clear hbl c7 c1 c8 x1 c0
   by_cases e1:some j=bo
   ·have e1':((j:Int)==bt)=true:=by rw[← hbtH.out,← e1];simp[bI]
    have hno:=Rno (by rw[hcan,← e1];simp);clear Rno hcan k1 k2 k3 k4 k5 e1;obtain⟨hbH,hyH,hyoH,hbaH,hb5H,hnoH,hbvH,hH0H,hws'H⟩:=hqc hb hy hyo hba hb5 hno hbv hH0 (Lib.hid hws');clear hb hy hyo hba hb5 hno hbv hH0 hws';have hH0:=hH0H.out;clear hH0H;go_wp2_with fail;refine wp_region_held_drew (S:=fun w'=>w'.cell? ⟨X.f,7,none⟩=some (.int .i64 s.now)∧w'.cell? ⟨wr.heap.size,4,none⟩=some (.int .i64 yf)∧w'.cell? ⟨wr.heap.size,5,none⟩=some (.int .i64 yt)∧w'.cell? ⟨wr.heap.size,2,none⟩=some (.int .i64 ys)∧w'.cell? ⟨X.f,1,none⟩=some (.slice (some ⟨bx,ox,none⟩) X.x.works.n X.x.works.cap)∧w'.cell? ⟨bx,ox+i*4+1,none⟩=some (.slice z.needs.A z.needs.n z.needs.cap)∧w'.cell? ⟨wr.heap.size,1,none⟩=some (.slice yh.A yh.n yh.cap)∧w'.cell? ⟨X.f,8,none⟩=some (.slice A n cap)∧w'.cell? ⟨wr.heap.size,3,none⟩=some (.int .i64 yv)∧w'.cell? ⟨X.f,0,none⟩=some (.slice (some ⟨by_,oy,none⟩) N X.x.workers.cap)) (by kernel_rfl) hH0 (fun hHeld=>?_);refine tkS [(0,21),(1,22),(2,23),(3,24)] ?_;(iterate 4 (refine tkL ?_ ?_ ?_;rotate_left;(· intro w hSw;(try dsimp only at hSw);go_simp;(try with_reducible rfl));(try simp only[Act.put,tkA,tkB,tkC])));refine tkE ?_;refine tkS [(4,25),(5,26),(6,27),(7,28),(8,29),(9,30),(10,31)] ?_;(iterate 7 (refine skL ?_;(try simp only[Act.put,tkA,tkB,tkC])));refine tkE ?_;refine tkS [(11,32),(12,33)] ?_;(iterate 2 (refine tkL ?_ ?_ ?_;rotate_left;(· intro w hSw;(try dsimp only at hSw);go_simp;(try with_reducible rfl));(try simp only[Act.put,tkA,tkB,tkC])));refine tkE ?_;refine tkS [(13,34),(14,35),(15,36),(16,37),(17,38),(18,39),(19,40)] ?_;(iterate 7 (refine skL ?_;(try simp only[Act.put,tkA,tkB,tkC])));refine tkE ?_
    refine tkS [(20,41),(21,42)] ?_;(iterate 2 (refine tkL ?_ ?_ ?_;rotate_left;(· intro w hSw;(try dsimp only at hSw);go_simp;(try with_reducible rfl));(try simp only[Act.put,tkA,tkB,tkC])));refine tkE ?_;refine tkS [(22,43),(23,44),(24,45),(25,46),(26,47),(27,48)] ?_;(iterate 6 (refine skL ?_;(try simp only[Act.put,tkA,tkB,tkC])));refine tkE ?_;refine tkS [(28,49),(29,50)] ?_;(iterate 2 (refine tkL ?_ ?_ ?_;rotate_left;(· intro w hSw;(try dsimp only at hSw);go_simp;(try with_reducible rfl));(try simp only[Act.put,tkA,tkB,tkC])));refine tkE ?_;refine tkS [(30,51),(31,52),(32,53),(33,54),(34,55),(35,56),(36,57),(37,58),(38,59),(39,60),(40,61),(41,62),(42,63)] ?_;(iterate 13 (refine skL ?_;(try simp only[Act.put,tkA,tkB,tkC])));refine tkE ?_;refine tkS [(43,64)] ?_;(iterate 1 (refine tkL ?_ ?_ ?_;rotate_left;(· intro w hSw;(try dsimp only at hSw);go_simp;(try with_reducible rfl));(try simp only[Act.put,tkA,tkB,tkC])));refine tkE ?_;refine wpAnyH_done (by kernel_rfl) ?_ _;clear hHeld hH0;go_wp2;refine⟨?rel,?measure⟩
    case measure=>(simp[intOf];omega)
    case rel=>first | exact(hnoH.out _ ((hbaH.out).drew)) | exact⟨rfl,(hnoH.out _ ((hbaH.out).drew))⟩
   ·have e1':((j:Int)==bt)=false:=by
     rw[← hbtH.out]
     cases bo with
     | none=>simp[bI]
     | some b =>
      have:¬ (j:Int)=(b:Int):=fun h=>e1 (by congr 1;omega)
      simpa[bI]using this
    have e1b:(some j==bo)=false:=by simpa using e1
    rw[e1b]at hcan
    by_cases e2:s.now<yf
    ·have e2':decide (s.now<yf)=true:=by simpa using e2
     have hno:=Rno (by rw[hcan];simp;omega);clear Rno hcan k1 k2 k3 k4 k5 e1 e1b;obtain⟨hbH,hyH,hyoH,hbaH,hb5H,hnoH,hbvH,hH0H,hws'H⟩:=hqc hb hy hyo hba hb5 hno hbv hH0 (Lib.hid hws');clear hb hy hyo hba hb5 hno hbv hH0 hws';have hH0:=hH0H.out;clear hH0H;go_wp2_with fail;refine wp_region_held_drew (S:=fun w'=>w'.cell? ⟨X.f,7,none⟩=some (.int .i64 s.now)∧w'.cell? ⟨wr.heap.size,4,none⟩=some (.int .i64 yf)∧w'.cell? ⟨wr.heap.size,5,none⟩=some (.int .i64 yt)∧w'.cell? ⟨wr.heap.size,2,none⟩=some (.int .i64 ys)∧w'.cell? ⟨X.f,1,none⟩=some (.slice (some ⟨bx,ox,none⟩) X.x.works.n X.x.works.cap)∧w'.cell? ⟨bx,ox+i*4+1,none⟩=some (.slice z.needs.A z.needs.n z.needs.cap)∧w'.cell? ⟨wr.heap.size,1,none⟩=some (.slice yh.A yh.n yh.cap)∧w'.cell? ⟨X.f,8,none⟩=some (.slice A n cap)∧w'.cell? ⟨wr.heap.size,3,none⟩=some (.int .i64 yv)∧w'.cell? ⟨X.f,0,none⟩=some (.slice (some ⟨by_,oy,none⟩) N X.x.workers.cap)) (by kernel_rfl) hH0 (fun hHeld=>?_);refine tkS [(0,21),(1,22),(2,23),(3,24),(4,25),(5,26),(6,27),(7,28),(8,29),(9,30),(10,31),(11,32),(12,33)] ?_;(iterate 13 (refine tkL ?_ ?_ ?_;rotate_left;(· intro w hSw;(try dsimp only at hSw);go_simp;(try with_reducible rfl));(try simp only[Act.put,tkA,tkB,tkC])));refine tkE ?_;refine tkS [(13,34),(14,35),(15,36),(16,37),(17,38),(18,39),(19,40)] ?_;(iterate 7 (refine skL ?_;(try simp only[Act.put,tkA,tkB,tkC])));refine tkE ?_;refine tkS [(20,41),(21,42)] ?_;(iterate 2 (refine tkL ?_ ?_ ?_;rotate_left;(· intro w hSw;(try dsimp only at hSw);go_simp;(try with_reducible rfl));(try simp only[Act.put,tkA,tkB,tkC])));refine tkE ?_
     refine tkS [(22,43),(23,44),(24,45),(25,46),(26,47),(27,48)] ?_;(iterate 6 (refine skL ?_;(try simp only[Act.put,tkA,tkB,tkC])));refine tkE ?_;refine tkS [(28,49),(29,50)] ?_;(iterate 2 (refine tkL ?_ ?_ ?_;rotate_left;(· intro w hSw;(try dsimp only at hSw);go_simp;(try with_reducible rfl));(try simp only[Act.put,tkA,tkB,tkC])));refine tkE ?_;refine tkS [(30,51),(31,52),(32,53),(33,54),(34,55),(35,56),(36,57),(37,58),(38,59),(39,60),(40,61),(41,62),(42,63)] ?_;(iterate 13 (refine skL ?_;(try simp only[Act.put,tkA,tkB,tkC])));refine tkE ?_;refine tkS [(43,64)] ?_;(iterate 1 (refine tkL ?_ ?_ ?_;rotate_left;(· intro w hSw;(try dsimp only at hSw);go_simp;(try with_reducible rfl));(try simp only[Act.put,tkA,tkB,tkC])));refine tkE ?_;refine wpAnyH_done (by kernel_rfl) ?_ _;clear hHeld hH0;go_wp2;refine⟨?rel,?measure⟩
     case measure=>(simp[intOf];omega)
     case rel=>first | exact(hnoH.out _ ((hbaH.out).drew)) | exact⟨rfl,(hnoH.out _ ((hbaH.out).drew))⟩
    ·have e2':decide (s.now<yf)=false:=by simpa using e2
     by_cases e3:yt≤s.now
     ·have e3':decide (yt≤s.now)=true:=by simpa using e3
      have hno:=Rno (by rw[hcan];simp;omega);clear Rno hcan k1 k2 k3 k4 k5 e1 e1b;obtain⟨hbH,hyH,hyoH,hbaH,hb5H,hnoH,hbvH,hH0H,hws'H⟩:=hqc hb hy hyo hba hb5 hno hbv hH0 (Lib.hid hws');clear hb hy hyo hba hb5 hno hbv hH0 hws';have hH0:=hH0H.out;clear hH0H;go_wp2_with fail;refine wp_region_held_drew (S:=fun w'=>w'.cell? ⟨X.f,7,none⟩=some (.int .i64 s.now)∧w'.cell? ⟨wr.heap.size,4,none⟩=some (.int .i64 yf)∧w'.cell? ⟨wr.heap.size,5,none⟩=some (.int .i64 yt)∧w'.cell? ⟨wr.heap.size,2,none⟩=some (.int .i64 ys)∧w'.cell? ⟨X.f,1,none⟩=some (.slice (some ⟨bx,ox,none⟩) X.x.works.n X.x.works.cap)∧w'.cell? ⟨bx,ox+i*4+1,none⟩=some (.slice z.needs.A z.needs.n z.needs.cap)∧w'.cell? ⟨wr.heap.size,1,none⟩=some (.slice yh.A yh.n yh.cap)∧w'.cell? ⟨X.f,8,none⟩=some (.slice A n cap)∧w'.cell? ⟨wr.heap.size,3,none⟩=some (.int .i64 yv)∧w'.cell? ⟨X.f,0,none⟩=some (.slice (some ⟨by_,oy,none⟩) N X.x.workers.cap)) (by kernel_rfl) hH0 (fun hHeld=>?_);refine tkS [(0,21),(1,22),(2,23),(3,24),(4,25),(5,26),(6,27),(7,28),(8,29),(9,30),(10,31),(11,32),(12,33),(13,34),(14,35),(15,36),(16,37),(17,38),(18,39),(19,40),(20,41),(21,42)] ?_;(iterate 22 (refine tkL ?_ ?_ ?_;rotate_left;(· intro w hSw;(try dsimp only at hSw);go_simp;(try with_reducible rfl));(try simp only[Act.put,tkA,tkB,tkC])));refine tkE ?_;refine tkS [(22,43),(23,44),(24,45),(25,46),(26,47),(27,48)] ?_;(iterate 6 (refine skL ?_;(try simp only[Act.put,tkA,tkB,tkC])));refine tkE ?_;refine tkS [(28,49),(29,50)] ?_;(iterate 2 (refine tkL ?_ ?_ ?_;rotate_left;(· intro w hSw;(try dsimp only at hSw);go_simp;(try with_reducible rfl));(try simp only[Act.put,tkA,tkB,tkC])));refine tkE ?_
      refine tkS [(30,51),(31,52),(32,53),(33,54),(34,55),(35,56),(36,57),(37,58),(38,59),(39,60),(40,61),(41,62),(42,63)] ?_;(iterate 13 (refine skL ?_;(try simp only[Act.put,tkA,tkB,tkC])));refine tkE ?_;refine tkS [(43,64)] ?_;(iterate 1 (refine tkL ?_ ?_ ?_;rotate_left;(· intro w hSw;(try dsimp only at hSw);go_simp;(try with_reducible rfl));(try simp only[Act.put,tkA,tkB,tkC])));refine tkE ?_;refine wpAnyH_done (by kernel_rfl) ?_ _;clear hHeld hH0;go_wp2;refine⟨?rel,?measure⟩
      case measure=>(simp[intOf];omega)
      case rel=>first | exact(hnoH.out _ ((hbaH.out).drew)) | exact⟨rfl,(hnoH.out _ ((hbaH.out).drew))⟩
     ·have e3':decide (yt≤s.now)=false:=by simpa using e3
      obtain⟨bz,hbz⟩:∃ b,busy s.runs j=b:=⟨_,rfl⟩
      by_cases e4:ys≤(bz:Int)
      ·have e4':decide (ys≤(bz:Int))=true:=by simpa using e4
       have hno:=Rno (by rw[hcan,hbz];simp;omega);clear Rno hcan k1 k2 k3 k4 k5 e1 e1b;obtain⟨hbH,hyH,hyoH,hbaH,hb5H,hnoH,hbvH,hH0H,hws'H,hbzH⟩:=hq2 hb (hqc hy hyo hba hb5 hno hbv hH0 hws' (Lib.hid hbz));clear hb hy hyo hba hb5 hno hbv hH0 hws' hbz;have hH0:=hH0H.out;clear hH0H;go_wp2_with fail;refine wp_region_held_drew (S:=fun w'=>w'.cell? ⟨X.f,7,none⟩=some (.int .i64 s.now)∧w'.cell? ⟨wr.heap.size,4,none⟩=some (.int .i64 yf)∧w'.cell? ⟨wr.heap.size,5,none⟩=some (.int .i64 yt)∧w'.cell? ⟨wr.heap.size,2,none⟩=some (.int .i64 ys)∧w'.cell? ⟨X.f,1,none⟩=some (.slice (some ⟨bx,ox,none⟩) X.x.works.n X.x.works.cap)∧w'.cell? ⟨bx,ox+i*4+1,none⟩=some (.slice z.needs.A z.needs.n z.needs.cap)∧w'.cell? ⟨wr.heap.size,1,none⟩=some (.slice yh.A yh.n yh.cap)∧w'.cell? ⟨X.f,8,none⟩=some (.slice A n cap)∧w'.cell? ⟨wr.heap.size,3,none⟩=some (.int .i64 yv)∧w'.cell? ⟨X.f,0,none⟩=some (.slice (some ⟨by_,oy,none⟩) N X.x.workers.cap)) (by kernel_rfl) hH0 (fun hHeld=>?_);refine tkS [(0,21),(1,22),(2,23),(3,24),(4,25),(5,26),(6,27),(7,28),(8,29),(9,30),(10,31),(11,32),(12,33),(13,34),(14,35),(15,36),(16,37),(17,38),(18,39),(19,40),(20,41),(21,42),(22,43),(23,44)] ?_;(iterate 24 (refine tkL ?_ ?_ ?_;rotate_left;(· intro w hSw;(try dsimp only at hSw);go_simp;(try with_reducible rfl));(try simp only[Act.put,tkA,tkB,tkC])));refine tkE ?_;refine tkS [(25,46),(26,47)] ?_;(iterate 2 (refine tkL ?_ ?_ ?_;rotate_left;(· intro w hSw;(try dsimp only at hSw);go_simp;(try with_reducible rfl));(try simp only[Act.put,tkA,tkB,tkC])));refine tkE ?_
       refine wpAnyH_ready (rs:=[24]) (by kernel_rfl) (by simp) ?_;refine AllReadyH.cons (i:=24) rfl (fun K hK=>?_) AllReadyH.nil;go_simp;go_at_call 205;refine(running_any X.f A n cap X.F s.runs j _ (hHeld.2.2.2.2.2.2.2.1) ((hslH.out.below (hb5H.out)).below (Below.refl _ _).drew) hn hgoH.out).mono ?_;rintro e w4 ⟨rfl,hb4⟩;rw[hbzH.out];have hHeld:=keep10 hb4 hHeld;have hb54:Below wr.heap.size wr w4:=((Below.refl wr.heap.size wr).alloc (Nat.le_refl _) _).drew.trans (hb4.mono (by simp));clear hb4;have hb54H:=Lib.hid hb54;clear hb54;refine hK.out _ _ hHeld (fun hHeld=>?_);clear hK K
       (try simp only[Act.put,tkA,tkB,tkC])
       refine tkS [(27,48),(28,49),(29,50)] ?_;(iterate 3 (refine tkL ?_ ?_ ?_;rotate_left;(· intro w hSw;(try dsimp only at hSw);go_simp;(try with_reducible rfl));(try simp only[Act.put,tkA,tkB,tkC])));refine tkE ?_;refine tkS [(30,51),(31,52),(32,53),(33,54),(34,55),(35,56),(36,57),(37,58),(38,59),(39,60),(40,61),(41,62),(42,63)] ?_;(iterate 13 (refine skL ?_;(try simp only[Act.put,tkA,tkB,tkC])));refine tkE ?_;refine tkS [(43,64)] ?_;(iterate 1 (refine tkL ?_ ?_ ?_;rotate_left;(· intro w hSw;(try dsimp only at hSw);go_simp;(try with_reducible rfl));(try simp only[Act.put,tkA,tkB,tkC])));refine tkE ?_;refine wpAnyH_done (by kernel_rfl) ?_ _;clear hHeld hH0;go_wp2;refine⟨?rel,?measure⟩
       case measure=>(simp[intOf];omega)
       case rel=>first | exact(hnoH.out _ hb54H.out) | exact⟨rfl,(hnoH.out _ hb54H.out)⟩
      ·have e4':decide (ys≤(bz:Int))=false:=by simpa using e4
       obtain⟨ft,hft⟩:∃ b,fitF z.needs.l yh.l=b:=⟨_,rfl⟩;have hzn:=hzoH.out.2.1;have hyn:=hyo.2.1
       cases ft
       ·have hno:=Rno (by rw[hcan,hft];simp);clear Rno hcan k1 k2 k3 k4 k5 e1 e1b;obtain⟨hbH,hyH,hyoH,hbaH,hb5H,hnoH,hbvH,hH0H,hws'H,hbzH,hznH,hynH,hftH⟩:=hqb hb hy hyo hba (hqc hb5 hno hbv hH0 hws' hbz hzn hyn (Lib.hid hft));clear hb hy hyo hba hb5 hno hbv hH0 hws' hbz hzn hyn hft;have hH0:=hH0H.out;clear hH0H;go_wp2_with fail;refine wp_region_held_drew (S:=fun w'=>w'.cell? ⟨X.f,7,none⟩=some (.int .i64 s.now)∧w'.cell? ⟨wr.heap.size,4,none⟩=some (.int .i64 yf)∧w'.cell? ⟨wr.heap.size,5,none⟩=some (.int .i64 yt)∧w'.cell? ⟨wr.heap.size,2,none⟩=some (.int .i64 ys)∧w'.cell? ⟨X.f,1,none⟩=some (.slice (some ⟨bx,ox,none⟩) X.x.works.n X.x.works.cap)∧w'.cell? ⟨bx,ox+i*4+1,none⟩=some (.slice z.needs.A z.needs.n z.needs.cap)∧w'.cell? ⟨wr.heap.size,1,none⟩=some (.slice yh.A yh.n yh.cap)∧w'.cell? ⟨X.f,8,none⟩=some (.slice A n cap)∧w'.cell? ⟨wr.heap.size,3,none⟩=some (.int .i64 yv)∧w'.cell? ⟨X.f,0,none⟩=some (.slice (some ⟨by_,oy,none⟩) N X.x.workers.cap)) (by kernel_rfl) hH0 (fun hHeld=>?_);refine tkS [(0,21),(1,22),(2,23),(3,24),(4,25),(5,26),(6,27),(7,28),(8,29),(9,30),(10,31),(11,32),(12,33),(13,34),(14,35),(15,36),(16,37),(17,38),(18,39),(19,40),(20,41),(21,42),(22,43),(23,44)] ?_;(iterate 24 (refine tkL ?_ ?_ ?_;rotate_left;(· intro w hSw;(try dsimp only at hSw);go_simp;(try with_reducible rfl));(try simp only[Act.put,tkA,tkB,tkC])));refine tkE ?_;refine tkS [(25,46),(26,47)] ?_;(iterate 2 (refine tkL ?_ ?_ ?_;rotate_left;(· intro w hSw;(try dsimp only at hSw);go_simp;(try with_reducible rfl));(try simp only[Act.put,tkA,tkB,tkC])));refine tkE ?_
        refine wpAnyH_ready (rs:=[24]) (by kernel_rfl) (by simp) ?_;refine AllReadyH.cons (i:=24) rfl (fun K hK=>?_) AllReadyH.nil;go_simp;go_at_call 205;refine(running_any X.f A n cap X.F s.runs j _ (hHeld.2.2.2.2.2.2.2.1) ((hslH.out.below (hb5H.out)).below (Below.refl _ _).drew) hn hgoH.out).mono ?_;rintro e w4 ⟨rfl,hb4⟩;rw[hbzH.out];have hHeld:=keep10 hb4 hHeld;have hb54:Below wr.heap.size wr w4:=((Below.refl wr.heap.size wr).alloc (Nat.le_refl _) _).drew.trans (hb4.mono (by simp));clear hb4;have hb54H:=Lib.hid hb54;clear hb54;refine hK.out _ _ hHeld (fun hHeld=>?_);clear hK K
        (try simp only[Act.put,tkA,tkB,tkC])
        refine tkS [(27,48),(28,49),(29,50)] ?_;(iterate 3 (refine tkL ?_ ?_ ?_;rotate_left;(· intro w hSw;(try dsimp only at hSw);go_simp;(try with_reducible rfl));(try simp only[Act.put,tkA,tkB,tkC])));refine tkE ?_;refine tkS [(30,51),(31,52),(32,53),(33,54),(34,55),(35,56),(36,57),(37,58),(38,59),(39,60),(40,61)] ?_;(iterate 11 (refine tkL ?_ ?_ ?_;rotate_left;(· intro w hSw;(try dsimp only at hSw);go_simp;(try with_reducible rfl));(try simp only[Act.put,tkA,tkB,tkC])));refine tkE ?_;refine wpAnyH_ready (rs:=[41]) (by kernel_rfl) (by simp) ?_;refine AllReadyH.cons (i:=41) rfl (fun K hK=>?_) AllReadyH.nil;go_simp;go_at_call 51;refine(fit_any z.needs.A z.needs.n z.needs.cap z.needs.l yh.A yh.n yh.cap yh.l _ (hznH.out.1.below (hbH.out.trans (hb54H.out.mono hbs))) (Nat.le_trans hznH.out.2.1 hznH.out.2.2.1) (hynH.out.1.below hb54H.out) (Nat.le_trans hynH.out.2.1 hynH.out.2.2.1) false hftH.out).mono ?_;rintro e w6 ⟨rfl,hb6⟩;have hHeld:=keep10 hb6 hHeld;have hb56:=hb54H.out.trans (hb6.mono hb54H.out.size);clear hb6;have hb56H:=Lib.hid hb56;clear hb56;refine hK.out _ _ hHeld (fun hHeld=>?_);clear hK K
        (try simp only[Act.put,tkA,tkB,tkC])
        refine tkS [(42,63),(43,64)] ?_;(iterate 2 (refine tkL ?_ ?_ ?_;rotate_left;(· intro w hSw;(try dsimp only at hSw);go_simp;(try with_reducible rfl));(try simp only[Act.put,tkA,tkB,tkC])));refine tkE ?_;refine wpAnyH_done (by kernel_rfl) ?_ _;clear hHeld hH0;go_wp2;refine⟨?rel,?measure⟩
        case measure=>(simp[intOf];omega)
        case rel=>first | exact(hnoH.out _ hb56H.out) | exact⟨rfl,(hnoH.out _ hb56H.out)⟩
       ·have hyes:ok j=true:=by rw[hcan,hbz,hft];simp;omega
        have hstep:=bestW_yes (sp:=X.F.speed) hyes;clear Rno hcan k1 k2 k3 k5 e1 e1b hyes
        cases hbo:bestW ok X.F.speed j with
        | none =>
         rw[hbo]at hstep hbv;obtain rfl:bv = -1:=hbv.symm;have R:∀ w',Below wr.heap.size wr w'→BestRel X.F ok N w (.int .i64 (j:Int)) (.int .i64 ((j:Int)+1)) w':=fun w' hw' =>
          ⟨j+1,hlt,by go_num,by rw[hstep];rfl,hb.trans (hw'.mono hbs)⟩
         clear hbv;obtain⟨hbH,hyH,hyoH,hbaH,hb5H,hH0H,hws'H,hbzH,hznH,hynH,hftH,hstepH,RH,k4H⟩:=hq2 hb (hqb hy hyo hba hb5 (hqc hH0 hws' hbz hzn hyn hft hstep R (Lib.hid k4)));clear hb hy hyo hba hb5 hH0 hws' hbz hzn hyn hft hstep R k4;have hH0:=hH0H.out;clear hH0H;go_wp2_with fail;refine wp_region_held_drew (S:=fun w'=>w'.cell? ⟨X.f,7,none⟩=some (.int .i64 s.now)∧w'.cell? ⟨wr.heap.size,4,none⟩=some (.int .i64 yf)∧w'.cell? ⟨wr.heap.size,5,none⟩=some (.int .i64 yt)∧w'.cell? ⟨wr.heap.size,2,none⟩=some (.int .i64 ys)∧w'.cell? ⟨X.f,1,none⟩=some (.slice (some ⟨bx,ox,none⟩) X.x.works.n X.x.works.cap)∧w'.cell? ⟨bx,ox+i*4+1,none⟩=some (.slice z.needs.A z.needs.n z.needs.cap)∧w'.cell? ⟨wr.heap.size,1,none⟩=some (.slice yh.A yh.n yh.cap)∧w'.cell? ⟨X.f,8,none⟩=some (.slice A n cap)∧w'.cell? ⟨wr.heap.size,3,none⟩=some (.int .i64 yv)∧w'.cell? ⟨X.f,0,none⟩=some (.slice (some ⟨by_,oy,none⟩) N X.x.workers.cap)) (by kernel_rfl) hH0 (fun hHeld=>?_);refine tkS [(0,21),(1,22),(2,23),(3,24),(4,25),(5,26),(6,27),(7,28),(8,29),(9,30),(10,31),(11,32),(12,33),(13,34),(14,35),(15,36),(16,37),(17,38),(18,39),(19,40),(20,41),(21,42),(22,43),(23,44)] ?_;(iterate 24 (refine tkL ?_ ?_ ?_;rotate_left;(· intro w hSw;(try dsimp only at hSw);go_simp;(try with_reducible rfl));(try simp only[Act.put,tkA,tkB,tkC])));refine tkE ?_;refine tkS [(25,46),(26,47)] ?_;(iterate 2 (refine tkL ?_ ?_ ?_;rotate_left;(· intro w hSw;(try dsimp only at hSw);go_simp;(try with_reducible rfl));(try simp only[Act.put,tkA,tkB,tkC])));refine tkE ?_
         refine wpAnyH_ready (rs:=[24]) (by kernel_rfl) (by simp) ?_;refine AllReadyH.cons (i:=24) rfl (fun K hK=>?_) AllReadyH.nil;go_simp;go_at_call 205;refine(running_any X.f A n cap X.F s.runs j _ (hHeld.2.2.2.2.2.2.2.1) ((hslH.out.below (hb5H.out)).below (Below.refl _ _).drew) hn hgoH.out).mono ?_;rintro e w4 ⟨rfl,hb4⟩;rw[hbzH.out];have hHeld:=keep10 hb4 hHeld;have hb54:Below wr.heap.size wr w4:=((Below.refl wr.heap.size wr).alloc (Nat.le_refl _) _).drew.trans (hb4.mono (by simp));clear hb4;have hb54H:=Lib.hid hb54;clear hb54;refine hK.out _ _ hHeld (fun hHeld=>?_);clear hK K
         (try simp only[Act.put,tkA,tkB,tkC])
         refine tkS [(27,48),(28,49),(29,50)] ?_;(iterate 3 (refine tkL ?_ ?_ ?_;rotate_left;(· intro w hSw;(try dsimp only at hSw);go_simp;(try with_reducible rfl));(try simp only[Act.put,tkA,tkB,tkC])));refine tkE ?_;refine tkS [(30,51),(31,52),(32,53),(33,54),(34,55),(35,56),(36,57),(37,58),(38,59),(39,60),(40,61)] ?_;(iterate 11 (refine tkL ?_ ?_ ?_;rotate_left;(· intro w hSw;(try dsimp only at hSw);go_simp;(try with_reducible rfl));(try simp only[Act.put,tkA,tkB,tkC])));refine tkE ?_;refine wpAnyH_ready (rs:=[41]) (by kernel_rfl) (by simp) ?_;refine AllReadyH.cons (i:=41) rfl (fun K hK=>?_) AllReadyH.nil;go_simp;go_at_call 51;refine(fit_any z.needs.A z.needs.n z.needs.cap z.needs.l yh.A yh.n yh.cap yh.l _ (hznH.out.1.below (hbH.out.trans (hb54H.out.mono hbs))) (Nat.le_trans hznH.out.2.1 hznH.out.2.2.1) (hynH.out.1.below hb54H.out) (Nat.le_trans hynH.out.2.1 hynH.out.2.2.1) true hftH.out).mono ?_;rintro e w6 ⟨rfl,hb6⟩;have hHeld:=keep10 hb6 hHeld;have hb56:=hb54H.out.trans (hb6.mono hb54H.out.size);clear hb6;have hb56H:=Lib.hid hb56;clear hb56;refine hK.out _ _ hHeld (fun hHeld=>?_);clear hK K
         (try simp only[Act.put,tkA,tkB,tkC])
         refine tkS [(42,63),(43,64)] ?_;(iterate 2 (refine tkL ?_ ?_ ?_;rotate_left;(· intro w hSw;(try dsimp only at hSw);go_simp;(try with_reducible rfl));(try simp only[Act.put,tkA,tkB,tkC])));refine tkE ?_;refine wpAnyH_done (by kernel_rfl) ?_ _;clear hH0;obtain⟨v0,v1,v2,v3,v4,v5,v6,v7,v8,v9⟩:=hHeld;go_wp2_with fail
         go_quiet (fail)
         go_wp2;refine⟨?rel,?measure⟩
         case measure=>(simp[intOf];omega)
         case rel=>first | exact(RH.out _ (bel_drewN hb56H.out _)) | exact⟨rfl,(RH.out _ (bel_drewN hb56H.out _))⟩
        | some b0 =>
         rw[hbo]at hstep hbv;obtain rfl:bv=(b0:Int):=hbv.symm;clear hbv;have hb0N:b0<N:=by omega
         obtain⟨yb,hyb⟩:∃ y,X.x.workers.l[b0]? = some y:=⟨X.x.workers.l[b0]'(by have:=n3H.out;omega),List.getElem?_eq_getElem _⟩;have kb:=(hSH.out.wk hyb).2.2.2.1;obtain⟨ybv,hybv⟩:∃ v,yb.speed=v:=⟨_,rfl⟩;rw[hybv]at kb;simp only[kb,k4]at hstep;have e0':decide ((b0:Int)<0)=false:=by simp
         clear k4 kb
         by_cases e5:ybv<yv
         ·rw[if_pos e5]at hstep;have R:∀ w',Below wr.heap.size wr w'→BestRel X.F ok N w (.int .i64 (j:Int)) (.int .i64 ((j:Int)+1)) w':=fun w' hw' =>
           ⟨j+1,hlt,by go_num,by rw[hstep];rfl,hb.trans (hw'.mono hbs)⟩
          have e5':decide (ybv<yv)=true:=by simpa using e5
          obtain⟨hbH,hyH,hyoH,hbaH,hb5H,hH0H,hws'H,hbzH,hznH,hynH,hftH,hstepH,RH,hybH,hybvH⟩:=hq2 hb (hq2 hy (hqb hyo hba hb5 hH0 (hqc hws' hbz hzn hyn hft hstep R hyb (Lib.hid hybv))));clear hb hy hyo hba hb5 hH0 hws' hbz hzn hyn hft hstep R hyb hybv;have hH0:=hH0H.out;clear hH0H;go_wp2_with fail;refine wp_region_held_drew (S:=fun w'=>w'.cell? ⟨X.f,7,none⟩=some (.int .i64 s.now)∧w'.cell? ⟨wr.heap.size,4,none⟩=some (.int .i64 yf)∧w'.cell? ⟨wr.heap.size,5,none⟩=some (.int .i64 yt)∧w'.cell? ⟨wr.heap.size,2,none⟩=some (.int .i64 ys)∧w'.cell? ⟨X.f,1,none⟩=some (.slice (some ⟨bx,ox,none⟩) X.x.works.n X.x.works.cap)∧w'.cell? ⟨bx,ox+i*4+1,none⟩=some (.slice z.needs.A z.needs.n z.needs.cap)∧w'.cell? ⟨wr.heap.size,1,none⟩=some (.slice yh.A yh.n yh.cap)∧w'.cell? ⟨X.f,8,none⟩=some (.slice A n cap)∧w'.cell? ⟨wr.heap.size,3,none⟩=some (.int .i64 yv)∧w'.cell? ⟨X.f,0,none⟩=some (.slice (some ⟨by_,oy,none⟩) N X.x.workers.cap)) (by kernel_rfl) hH0 (fun hHeld=>?_);refine tkS [(0,21),(1,22),(2,23),(3,24),(4,25),(5,26),(6,27),(7,28),(8,29),(9,30),(10,31),(11,32),(12,33),(13,34),(14,35),(15,36),(16,37),(17,38),(18,39),(19,40),(20,41),(21,42),(22,43),(23,44)] ?_;(iterate 24 (refine tkL ?_ ?_ ?_;rotate_left;(· intro w hSw;(try dsimp only at hSw);go_simp;(try with_reducible rfl));(try simp only[Act.put,tkA,tkB,tkC])));refine tkE ?_;refine tkS [(25,46),(26,47)] ?_;(iterate 2 (refine tkL ?_ ?_ ?_;rotate_left;(· intro w hSw;(try dsimp only at hSw);go_simp;(try with_reducible rfl));(try simp only[Act.put,tkA,tkB,tkC])));refine tkE ?_
          refine wpAnyH_ready (rs:=[24]) (by kernel_rfl) (by simp) ?_;refine AllReadyH.cons (i:=24) rfl (fun K hK=>?_) AllReadyH.nil;go_simp;go_at_call 205;refine(running_any X.f A n cap X.F s.runs j _ (hHeld.2.2.2.2.2.2.2.1) ((hslH.out.below (hb5H.out)).below (Below.refl _ _).drew) hn hgoH.out).mono ?_;rintro e w4 ⟨rfl,hb4⟩;rw[hbzH.out];have hHeld:=keep10 hb4 hHeld;have hb54:Below wr.heap.size wr w4:=((Below.refl wr.heap.size wr).alloc (Nat.le_refl _) _).drew.trans (hb4.mono (by simp));clear hb4;have hb54H:=Lib.hid hb54;clear hb54;refine hK.out _ _ hHeld (fun hHeld=>?_);clear hK K
          (try simp only[Act.put,tkA,tkB,tkC])
          refine tkS [(27,48),(28,49),(29,50)] ?_;(iterate 3 (refine tkL ?_ ?_ ?_;rotate_left;(· intro w hSw;(try dsimp only at hSw);go_simp;(try with_reducible rfl));(try simp only[Act.put,tkA,tkB,tkC])));refine tkE ?_;refine tkS [(30,51),(31,52),(32,53),(33,54),(34,55),(35,56),(36,57),(37,58),(38,59),(39,60),(40,61)] ?_;(iterate 11 (refine tkL ?_ ?_ ?_;rotate_left;(· intro w hSw;(try dsimp only at hSw);go_simp;(try with_reducible rfl));(try simp only[Act.put,tkA,tkB,tkC])));refine tkE ?_;refine wpAnyH_ready (rs:=[41]) (by kernel_rfl) (by simp) ?_;refine AllReadyH.cons (i:=41) rfl (fun K hK=>?_) AllReadyH.nil;go_simp;go_at_call 51;refine(fit_any z.needs.A z.needs.n z.needs.cap z.needs.l yh.A yh.n yh.cap yh.l _ (hznH.out.1.below (hbH.out.trans (hb54H.out.mono hbs))) (Nat.le_trans hznH.out.2.1 hznH.out.2.2.1) (hynH.out.1.below hb54H.out) (Nat.le_trans hynH.out.2.1 hynH.out.2.2.1) true hftH.out).mono ?_;rintro e w6 ⟨rfl,hb6⟩;have hHeld:=keep10 hb6 hHeld;have hb56:=hb54H.out.trans (hb6.mono hb54H.out.size);clear hb6;have hb56H:=Lib.hid hb56;clear hb56;refine hK.out _ _ hHeld (fun hHeld=>?_);clear hK K
          (try simp only[Act.put,tkA,tkB,tkC])
          refine tkS [(42,63),(43,64)] ?_;(iterate 2 (refine tkL ?_ ?_ ?_;rotate_left;(· intro w hSw;(try dsimp only at hSw);go_simp;(try with_reducible rfl));(try simp only[Act.put,tkA,tkB,tkC])));refine tkE ?_;refine wpAnyH_done (by kernel_rfl) ?_ _;clear hH0;obtain⟨v0,v1,v2,v3,v4,v5,v6,v7,v8,v9⟩:=hHeld;have y3:=(cells_Worker (hwsH.out.below (hbH.out.trans (hb56H.out.mono hbs))) hybH.out).2.2.2.1;rw[hybvH.out]at y3;go_wp2_with fail
          go_quiet (fail)
          go_wp2;refine⟨?rel,?measure⟩
          case measure=>(simp[intOf];omega)
          case rel=>first | exact(RH.out _ (bel_drewN hb56H.out _)) | exact⟨rfl,(RH.out _ (bel_drewN hb56H.out _))⟩
         ·rw[if_neg e5]at hstep;have R:∀ w',Below wr.heap.size wr w'→BestRel X.F ok N w (.int .i64 (b0:Int)) (.int .i64 ((j:Int)+1)) w':=fun w' hw' =>
           ⟨j+1,hlt,by go_num,by rw[hstep];rfl,hb.trans (hw'.mono hbs)⟩
          have e5':decide (ybv<yv)=false:=by simpa using e5
          obtain⟨hbH,hyH,hyoH,hbaH,hb5H,hH0H,hws'H,hbzH,hznH,hynH,hftH,hstepH,RH,hybH,hybvH⟩:=hq2 hb (hq2 hy (hqb hyo hba hb5 hH0 (hqc hws' hbz hzn hyn hft hstep R hyb (Lib.hid hybv))));clear hb hy hyo hba hb5 hH0 hws' hbz hzn hyn hft hstep R hyb hybv;have hH0:=hH0H.out;clear hH0H;go_wp2_with fail;refine wp_region_held_drew (S:=fun w'=>w'.cell? ⟨X.f,7,none⟩=some (.int .i64 s.now)∧w'.cell? ⟨wr.heap.size,4,none⟩=some (.int .i64 yf)∧w'.cell? ⟨wr.heap.size,5,none⟩=some (.int .i64 yt)∧w'.cell? ⟨wr.heap.size,2,none⟩=some (.int .i64 ys)∧w'.cell? ⟨X.f,1,none⟩=some (.slice (some ⟨bx,ox,none⟩) X.x.works.n X.x.works.cap)∧w'.cell? ⟨bx,ox+i*4+1,none⟩=some (.slice z.needs.A z.needs.n z.needs.cap)∧w'.cell? ⟨wr.heap.size,1,none⟩=some (.slice yh.A yh.n yh.cap)∧w'.cell? ⟨X.f,8,none⟩=some (.slice A n cap)∧w'.cell? ⟨wr.heap.size,3,none⟩=some (.int .i64 yv)∧w'.cell? ⟨X.f,0,none⟩=some (.slice (some ⟨by_,oy,none⟩) N X.x.workers.cap)) (by kernel_rfl) hH0 (fun hHeld=>?_);refine tkS [(0,21),(1,22),(2,23),(3,24),(4,25),(5,26),(6,27),(7,28),(8,29),(9,30),(10,31),(11,32),(12,33),(13,34),(14,35),(15,36),(16,37),(17,38),(18,39),(19,40),(20,41),(21,42),(22,43),(23,44)] ?_;(iterate 24 (refine tkL ?_ ?_ ?_;rotate_left;(· intro w hSw;(try dsimp only at hSw);go_simp;(try with_reducible rfl));(try simp only[Act.put,tkA,tkB,tkC])));refine tkE ?_;refine tkS [(25,46),(26,47)] ?_;(iterate 2 (refine tkL ?_ ?_ ?_;rotate_left;(· intro w hSw;(try dsimp only at hSw);go_simp;(try with_reducible rfl));(try simp only[Act.put,tkA,tkB,tkC])));refine tkE ?_
          refine wpAnyH_ready (rs:=[24]) (by kernel_rfl) (by simp) ?_;refine AllReadyH.cons (i:=24) rfl (fun K hK=>?_) AllReadyH.nil;go_simp;go_at_call 205;refine(running_any X.f A n cap X.F s.runs j _ (hHeld.2.2.2.2.2.2.2.1) ((hslH.out.below (hb5H.out)).below (Below.refl _ _).drew) hn hgoH.out).mono ?_;rintro e w4 ⟨rfl,hb4⟩;rw[hbzH.out];have hHeld:=keep10 hb4 hHeld;have hb54:Below wr.heap.size wr w4:=((Below.refl wr.heap.size wr).alloc (Nat.le_refl _) _).drew.trans (hb4.mono (by simp));clear hb4;have hb54H:=Lib.hid hb54;clear hb54;refine hK.out _ _ hHeld (fun hHeld=>?_);clear hK K
          (try simp only[Act.put,tkA,tkB,tkC])
          refine tkS [(27,48),(28,49),(29,50)] ?_;(iterate 3 (refine tkL ?_ ?_ ?_;rotate_left;(· intro w hSw;(try dsimp only at hSw);go_simp;(try with_reducible rfl));(try simp only[Act.put,tkA,tkB,tkC])));refine tkE ?_;refine tkS [(30,51),(31,52),(32,53),(33,54),(34,55),(35,56),(36,57),(37,58),(38,59),(39,60),(40,61)] ?_;(iterate 11 (refine tkL ?_ ?_ ?_;rotate_left;(· intro w hSw;(try dsimp only at hSw);go_simp;(try with_reducible rfl));(try simp only[Act.put,tkA,tkB,tkC])));refine tkE ?_;refine wpAnyH_ready (rs:=[41]) (by kernel_rfl) (by simp) ?_;refine AllReadyH.cons (i:=41) rfl (fun K hK=>?_) AllReadyH.nil;go_simp;go_at_call 51;refine(fit_any z.needs.A z.needs.n z.needs.cap z.needs.l yh.A yh.n yh.cap yh.l _ (hznH.out.1.below (hbH.out.trans (hb54H.out.mono hbs))) (Nat.le_trans hznH.out.2.1 hznH.out.2.2.1) (hynH.out.1.below hb54H.out) (Nat.le_trans hynH.out.2.1 hynH.out.2.2.1) true hftH.out).mono ?_;rintro e w6 ⟨rfl,hb6⟩;have hHeld:=keep10 hb6 hHeld;have hb56:=hb54H.out.trans (hb6.mono hb54H.out.size);clear hb6;have hb56H:=Lib.hid hb56;clear hb56;refine hK.out _ _ hHeld (fun hHeld=>?_);clear hK K
          (try simp only[Act.put,tkA,tkB,tkC])
          refine tkS [(42,63),(43,64)] ?_;(iterate 2 (refine tkL ?_ ?_ ?_;rotate_left;(· intro w hSw;(try dsimp only at hSw);go_simp;(try with_reducible rfl));(try simp only[Act.put,tkA,tkB,tkC])));refine tkE ?_;refine wpAnyH_done (by kernel_rfl) ?_ _;clear hH0;obtain⟨v0,v1,v2,v3,v4,v5,v6,v7,v8,v9⟩:=hHeld;have y3:=(cells_Worker (hwsH.out.below (hbH.out.trans (hb56H.out.mono hbs))) hybH.out).2.2.2.1;rw[hybvH.out]at y3;go_wp2_with fail
          go_quiet (fail)
          go_wp2;refine⟨?rel,?measure⟩
          case measure=>(simp[intOf];omega)
          case rel=>first | exact(RH.out _ (bel_drewN hb56H.out _)) | exact⟨rfl,(RH.out _ (bel_drewN hb56H.out _))⟩
  ·obtain rfl:j=N:=by omega
   have hbH:=Lib.hid hb;clear hb;go_wp2;go_ret;exact⟨rfl,hbH.out⟩
end Go.Proofs.YtbnkoefljcekbaaGreatDoor.C9
namespace Go.Proofs.YtbnkoefljcekbaaGreatDoor.C9
open Go.RowKit
theorem rends_any (x:Worker) (sz fm:Int) (w:World) (hok:RWorker.ok w x) (h0:1≤sz) (h1:sz≤1000000) (h2:1≤x.speed) (h3:x.speed≤1000) (h4:0≤fm) (h5:fm≤1000000000) (hs:SpansIn x.stands.l) (a:Int) (b:Bool) (hE:rendsF x sz fm=(a,b)) :
  Calls Tryz.prog 176 #[.agg #[.string x.name,.slice x.has.A x.has.n x.has.cap,.int .i64 x.slots,.int .i64 x.speed,.int .i64 x.from_,.int .i64 x.to_,.slice x.stands.A x.stands.n x.stands.cap],.int .i64 sz,.int .i64 fm] w fun e w' =>
   e = .returned (.tuple #[.int .i64 a,.bool b])∧Below w.heap.size w w':=by
 obtain⟨nm,has,sl,sp,fr,tz,st⟩:=x;obtain⟨o0,o1,o2,o3,o4,o5,o6⟩:=hok;simp only at o0 o1 o2 o3 o4 o5 o6 hE h2 h3 hs ⊢;obtain⟨A,len,cap,l⟩:=st;obtain⟨hl,hcp,hcm,_⟩:=o6;simp only at hl hs hcp hcm ⊢;have hlen:len≤9223372036854775807:=by unfold maxLen at hcm;omega
 clear hcp hcm;have hll:=hl.1;have hba:=(Below.refl w.heap.size w).alloc (Nat.le_refl _) (.cells #[.string nm,.slice has.A has.n has.cap,.int .i64 sl,.int .i64 sp,.int .i64 fr,.int .i64 tz,.slice A len cap] 84);have hbas:=hba.size;obtain⟨o4a,o4b⟩:=o4;obtain⟨o5a,o5b⟩:=o5;obtain⟨o0H,o1H,o2H,o3H,hlH,hllH,hEH,hsH,hbaH,hbasH⟩:=hq2 o0 (hqc o1 o2 o3 hl hll hE hs hba (Lib.hid hbas));clear o0 o1 o2 o3 hl hll hE hs hba hbas
 by_cases hf:fm<fr
 ·have hE:=hEH.out;simp only[rendsF,if_pos hf,Prod.mk.injEq]at hE;obtain⟨rfl,rfl⟩:=hE;clear hEH;go_enter Tryz.func176,Tryz.ntmps176;go_wp2
  go_ret2
  exact⟨rfl,hbaH.out⟩
 ·obtain⟨c,hc⟩:∃ c,secsF ⟨nm,has,sl,sp,fr,tz,⟨A,len,cap,l⟩⟩ sz=c:=⟨_,rfl⟩;have hE:=hEH.out;simp only[rendsF,if_neg hf,hc]at hE;obtain⟨c1,c2⟩:=secs_in sz sp h0 h1 h2 h3;have hcc:(sz+sp-1) / sp=c:=hc;rw[hcc]at c1 c2;clear hEH;obtain⟨hEH,hccH⟩:=hq2 hE (Lib.hid hcc);clear hE hcc;go_enter Tryz.func176,Tryz.ntmps176;go_wp2_with fail;refine(rsecs ⟨nm,has,sl,sp,fr,tz,⟨A,len,cap,l⟩⟩ sz _ h0 h1 h2 h3 c hc).mono ?_;rintro e w1 ⟨rfl,hw1⟩;have q4:=(hw1.cell (by simp)).trans (cell_new w _ _ 4);have q5:=(hw1.cell (by simp)).trans (cell_new w _ _ 5);have q6:=(hw1.cell (by simp)).trans (cell_new w _ _ 6);have hbw1:=hbaH.out.trans (hw1.mono hbasH.out);have hz1:w.heap.size<w1.heap.size:=by have:=hw1.size;simp at this;omega
  simp only[List.getElem?_toArray,List.getElem?_cons_succ,List.getElem?_cons_zero]at q4 q5 q6;have hb11:=Below.refl w1.heap.size w1;obtain⟨hw1H,hbw1H,hcH,hb11H,q4H,q5H⟩:=hq2 hw1 (hqb hbw1 hc hb11 q4 (Lib.hid q5));clear hw1 hbw1 hc hb11 q4 q5;go_wp2_with fail;clear q6
  go_loopw [8,9,23] (fun lf tm i wr=>EndsRel l c fm w1 lf tm i wr) (fun _ _ i _=>len-(intOf i).toNat)
  case atStart=>exact⟨c,fm,0,rfl,rfl,rfl,Nat.zero_le _,c1,c2,h4,h5,rfl,hb11H.out⟩
  case round =>
   obtain⟨L,T,k,rfl,rfl,rfl,hk,hL0,hL1,hT0,hT1,hgo,hb⟩:=hrel;have hkl:k≤len:=by have:=hllH.out;omega
   have hbs:=hb.size;have q4:=(hb.cell hz1).trans q4H.out;have q5:=(hb.cell hz1).trans q5H.out
   by_cases hlt:k<len
   ·obtain⟨b0,off,hA,_⟩:=hlH.out.2.1 (by omega);subst hA;obtain⟨y,hy⟩:∃ y,l[k]? = some y:=⟨l[k]'(by have:=hllH.out;omega),List.getElem?_eq_getElem _⟩;have hbw:=hbw1H.out.trans (hb.mono hbw1H.out.size);obtain⟨d0,d1⟩:=cells_Span (hlH.out.below hbw) hy;obtain⟨⟨i0,i1⟩,i2,i3⟩:=hsH.out y (List.mem_of_getElem? hy);rw[drop_cons hy,endsGo]at hgo;obtain⟨yf,yt⟩:=y;simp only at d0 d1 hgo i0 i1 i2 i3;have hba2:=hb.alloc hbs (.cells #[.int .i64 yf,.int .i64 yt] 202);have hkl2:k+1≤l.length:=by have:=hllH.out;omega
    clear q4 q5;obtain⟨hbH,hbwH,hba2H,hyH⟩:=hq2 hb (hq2 hbw (hq2 hba2 (Lib.hid hy)));clear hb hbw hba2 hy
    by_cases e1:yt≤T
    ·rw[if_pos e1]at hgo;have R:EndsRel l c fm w1 (.int .i64 L) (.int .i64 T) (.int .i64 (k+1)) (wr.alloc (.cells #[.int .i64 yf,.int .i64 yt] 202)) :=
      ⟨L,T,k+1,rfl,rfl,by go_num,hkl2,hL0,hL1,hT0,hT1,hgo,hba2H.out⟩
     obtain⟨hgoH,RH⟩:=hq2 hgo (Lib.hid R);clear hgo R;go_wp2;refine⟨?rel,?measure⟩
     case measure=>(simp[intOf];omega)
     case rel=>first | exact RH.out | exact⟨rfl,RH.out⟩
    ·rw[if_neg e1]at hgo;have e1':decide (yt≤T)=false:=decide_eq_false e1
     by_cases e2:T<yf
     ·rw[if_pos e2]at hgo
      by_cases e3:L≤yf-T
      ·rw[if_pos e3]at hgo;have hgoH:=Lib.hid hgo;clear hgo;have q5:=(hba2H.out.cell hz1).trans q5H.out;have hE:=hEH.out;rw[← hgoH.out,Prod.mk.injEq]at hE;clear hEH hgoH
       by_cases hto:T+L≤tz
       ·rw[decide_eq_true hto]at hE;obtain⟨rfl,rfl⟩:=hE;go_wp2
        go_quiet (fail)
        go_wp2
        go_ret2
        exact⟨rfl,bel_drewN (hbw1H.out.trans (hba2H.out.mono hbw1H.out.size)) _⟩
       ·rw[decide_eq_false hto]at hE;obtain⟨rfl,rfl⟩:=hE;have hto2:decide (T+L≤tz)=false:=decide_eq_false hto;go_wp2
        go_quiet (fail)
        go_wp2
        go_ret2
        exact⟨rfl,bel_drewN (hbw1H.out.trans (hba2H.out.mono hbw1H.out.size)) _⟩
      ·rw[if_neg e3]at hgo;have e3':decide (yf-T ≥ L)=false:=decide_eq_false e3;have e3n:0≤yf-T:=by omega
       have R:∀ L':Int,L'=L-(yf-T)→EndsRel l c fm w1 (.int .i64 L') (.int .i64 yt) (.int .i64 (k+1)) (wr.alloc (.cells #[.int .i64 yf,.int .i64 yt] 202)) :=
        fun L' h=>⟨L',yt,k+1,rfl,rfl,by go_num,hkl2,by omega,by omega,i2,i3,h ▸ hgo,hba2H.out⟩
       obtain⟨hgoH,RH⟩:=hq2 hgo (Lib.hid R);clear hgo R;go_wp2;refine⟨?rel,?measure⟩
       case measure=>(simp[intOf];omega)
       case rel=>first | exact(RH.out _ (by omega)) | exact⟨rfl,(RH.out _ (by omega))⟩
     ·rw[if_neg e2]at hgo;have e2':decide (T<yf)=false:=decide_eq_false e2;have R:∀ L':Int,L'=L→EndsRel l c fm w1 (.int .i64 L') (.int .i64 yt) (.int .i64 (k+1)) (wr.alloc (.cells #[.int .i64 yf,.int .i64 yt] 202)) :=
       fun L' h=>⟨L',yt,k+1,rfl,rfl,by go_num,hkl2,by omega,by omega,i2,i3,h ▸ hgo,hba2H.out⟩
      obtain⟨hgoH,RH⟩:=hq2 hgo (Lib.hid R);clear hgo R;go_wp2;refine⟨?rel,?measure⟩
      case measure=>(simp[intOf];omega)
      case rel=>first | exact(RH.out _ (by omega)) | exact⟨rfl,(RH.out _ (by omega))⟩
   ·have e:l.drop k = []:=List.drop_eq_nil_of_le (by have:=hllH.out;omega);rw[e,endsGo]at hgo;have hbw:=hbw1H.out.trans (hb.mono hbw1H.out.size);clear q4;obtain⟨hbH,eH,hgoH,hbwH⟩:=hq2 hb (hq2 e (hq2 hgo (Lib.hid hbw)));clear hb e hgo hbw;have q5:=q5;have hE:=hEH.out;rw[← hgoH.out,Prod.mk.injEq]at hE;clear hEH hgoH
    by_cases hto:T+L≤tz
    ·rw[decide_eq_true hto]at hE;obtain⟨rfl,rfl⟩:=hE;go_wp2
     go_quiet (fail)
     go_wp2
     go_ret2
     exact⟨rfl,bel_drewN (hbwH.out) _⟩
    ·rw[decide_eq_false hto]at hE;obtain⟨rfl,rfl⟩:=hE;have hto2:decide (T+L≤tz)=false:=decide_eq_false hto;go_wp2
     go_quiet (fail)
     go_wp2
     go_ret2
     exact⟨rfl,bel_drewN (hbwH.out) _⟩
def sizeF (x:Worker) (sz:Int):Int:=if workerF x=0 then (if inR 1 1000000 sz=true then 0 else 1) else workerF x
def secondsR (x:Worker) (sz:Int):Int × Int:=if sizeF x sz=0 then (secsF x sz,0) else (0,sizeF x sz)
theorem standsErr_in:∀ (l:List Span) (p:Option Int),standsErr p l=0→SpansIn l
 | [],_,_=>fun s h=>by cases h
 | s::r,p,h=>by
  rw[standsErr]at h
  by_cases h0:inR 0 1000000000 s.from_=true
  ·by_cases h1:inR 0 1000000000 s.to_=true
   ·rw[if_pos h0,if_pos h1]at h
    split at h
    ·cases h
    ·split at h
     ·cases h
     ·intro y hy
      rcases List.mem_cons.1 hy with rfl | hy
      ·exact⟨inR_true h0,inR_true h1⟩
      ·exact standsErr_in r _ h y hy
   ·rw[if_pos h0,if_neg h1]at h;cases h
  ·rw[if_neg h0]at h;cases h
theorem worker_good {x:Worker} (h:workerF x=0):(1≤x.speed∧x.speed≤1000)∧(0≤x.from_∧x.from_≤1000000000)∧(0≤x.to_∧x.to_≤1000000000)∧SpansIn x.stands.l:=by
 unfold workerF at h
 split at h
 ·split at h
  ·split at h
   ·rename_i h3
    split at h
    ·cases h
    ·unfold standsF at h
     split at h
     ·exact⟨inR_true h3.2.1,inR_true h3.2.2.1,inR_true h3.2.2.2,standsErr_in _ _ h⟩
     ·cases h
   ·cases h
  ·rename_i h2
   exact absurd h h2
 ·cases h
theorem size_good {x:Worker} {sz:Int} (h:sizeF x sz=0):workerF x=0∧1≤sz∧sz≤1000000:=by
 unfold sizeF at h
 split at h
 ·rename_i h0
  split at h
  ·rename_i h1
   exact⟨h0,inR_true h1⟩
  ·cases h
 ·rename_i h0
  exact absurd h h0
theorem ok_below {w w':World} {x:Worker} (hb:Below w.heap.size w w') (h:RWorker.ok w x):RWorker.ok w' x:=RWorker.mono _ _ _ hb h
theorem wcells {w w1:World} (x:Worker) (hb:Below (w.alloc (.cells #[.string x.name,.slice x.has.A x.has.n x.has.cap,.int .i64 x.slots,.int .i64 x.speed,.int .i64 x.from_,.int .i64 x.to_,.slice x.stands.A x.stands.n x.stands.cap] 84)).heap.size (w.alloc (.cells #[.string x.name,.slice x.has.A x.has.n x.has.cap,.int .i64 x.slots,.int .i64 x.speed,.int .i64 x.from_,.int .i64 x.to_,.slice x.stands.A x.stands.n x.stands.cap] 84)) w1) :
  w1.cell? ⟨w.heap.size,0,none⟩=some (.string x.name)∧w1.cell? ⟨w.heap.size,1,none⟩=some (.slice x.has.A x.has.n x.has.cap)∧w1.cell? ⟨w.heap.size,2,none⟩=some (.int .i64 x.slots) ∧
  w1.cell? ⟨w.heap.size,3,none⟩=some (.int .i64 x.speed)∧w1.cell? ⟨w.heap.size,4,none⟩=some (.int .i64 x.from_)∧w1.cell? ⟨w.heap.size,5,none⟩=some (.int .i64 x.to_)∧w1.cell? ⟨w.heap.size,6,none⟩=some (.slice x.stands.A x.stands.n x.stands.cap) :=
 ⟨(hb.cell (by simp)).trans (cell_new w _ _ 0),(hb.cell (by simp)).trans (cell_new w _ _ 1),(hb.cell (by simp)).trans (cell_new w _ _ 2),(hb.cell (by simp)).trans (cell_new w _ _ 3),(hb.cell (by simp)).trans (cell_new w _ _ 4),(hb.cell (by simp)).trans (cell_new w _ _ 5),(hb.cell (by simp)).trans (cell_new w _ _ 6)⟩
theorem size_any (x:Worker) (sz:Int) (w:World) (hok:RWorker.ok w x) (c:Int) (hF:sizeF x sz=c) :
  Calls Tryz.prog 93 #[.agg #[.string x.name,.slice x.has.A x.has.n x.has.cap,.int .i64 x.slots,.int .i64 x.speed,.int .i64 x.from_,.int .i64 x.to_,.slice x.stands.A x.stands.n x.stands.cap],.int .i64 sz] w fun e w'=>e = .returned (.int .i64 c)∧Below w.heap.size w w':=by
 unfold sizeF at hF;obtain⟨d,hd⟩:∃ d,workerF x=d:=⟨_,rfl⟩;rw[hd]at hF;have hba:=(Below.refl w.heap.size w).alloc (Nat.le_refl _) (.cells #[.string x.name,.slice x.has.A x.has.n x.has.cap,.int .i64 x.slots,.int .i64 x.speed,.int .i64 x.from_,.int .i64 x.to_,.slice x.stands.A x.stands.n x.stands.cap] 84);have hok0:=ok_below hba hok;obtain⟨hokH,hdH,hFH,hbaH,hok0H⟩:=hqb hok hd hF hba (Lib.hid hok0);clear hok hd hF hba hok0;go_enter Tryz.func93,Tryz.ntmps93;go_wp2_with fail;refine(worker_any x _ hok0H.out d hdH.out).mono ?_;rintro e w1 ⟨rfl,hw1⟩;obtain⟨q0,q1,q2,q3,q4,q5,q6⟩:=wcells x hw1;have hb1:=hbaH.out.trans (hw1.mono hbaH.out.size);clear hw1;have hb1H:=Lib.hid hb1;clear hb1
 by_cases e0:d=0
 ·subst e0;have hF:=hFH.out;clear hFH
  by_cases i0:inR 1 1000000 sz=true
  ·rw[if_pos rfl,if_pos i0]at hF;subst hF;go_wp2_with (go_at_call 43;refine(within_p _ _ _ _).mono ?_;rintro e wz ⟨rfl,rfl⟩);go_ret;exact⟨rfl,hb1H.out⟩
  ·rw[if_pos rfl,if_neg i0]at hF;subst hF;have i0:inR 1 1000000 sz=false:=by simpa using i0
   go_wp2_with (go_at_call 43;refine(within_p _ _ _ _).mono ?_;rintro e wz ⟨rfl,rfl⟩);go_ret;exact⟨rfl,hb1H.out⟩
 ·have hF:=hFH.out;clear hFH;rw[if_neg e0]at hF;subst hF;have e1:(d != 0)=true:=by simpa using e0
  go_wp2;go_ret;exact⟨rfl,hb1H.out⟩
theorem seconds_any (x:Worker) (sz:Int) (w:World) (hok:RWorker.ok w x) (a b:Int) (hF:secondsR x sz=(a,b)) :
  Calls Tryz.prog 48 #[.agg #[.string x.name,.slice x.has.A x.has.n x.has.cap,.int .i64 x.slots,.int .i64 x.speed,.int .i64 x.from_,.int .i64 x.to_,.slice x.stands.A x.stands.n x.stands.cap],.int .i64 sz] w fun e w'=>e = .returned (.tuple #[.int .i64 a,.int .i64 b])∧Below w.heap.size w w':=by
 unfold secondsR at hF;obtain⟨d,hd⟩:∃ d,sizeF x sz=d:=⟨_,rfl⟩;rw[hd]at hF;have hba:=(Below.refl w.heap.size w).alloc (Nat.le_refl _) (.cells #[.string x.name,.slice x.has.A x.has.n x.has.cap,.int .i64 x.slots,.int .i64 x.speed,.int .i64 x.from_,.int .i64 x.to_,.slice x.stands.A x.stands.n x.stands.cap] 84);have hok0:=ok_below hba hok;obtain⟨hokH,hdH,hFH,hbaH,hok0H⟩:=hqb hok hd hF hba (Lib.hid hok0);clear hok hd hF hba hok0;go_enter Tryz.func48,Tryz.ntmps48;go_wp2_with fail;refine(size_any x sz _ hok0H.out d hdH.out).mono ?_;rintro e w1 ⟨rfl,hw1⟩;obtain⟨q0,q1,q2,q3,q4,q5,q6⟩:=wcells x hw1;have hb1:=hbaH.out.trans (hw1.mono hbaH.out.size);clear hw1;have hb1H:=Lib.hid hb1;clear hb1;have hF:=hFH.out;clear hFH
 by_cases e0:d=0
 ·subst e0;obtain⟨g0,g1,g2⟩:=size_good hdH.out;obtain⟨⟨g3,g4⟩,_⟩:=worker_good g0;rw[if_pos rfl,Prod.mk.injEq]at hF;obtain⟨hs,rfl⟩:=hF;clear g0;have hsH:=Lib.hid hs;clear hs;go_wp2_with fail;refine(secs x sz _ g1 g2 g3 g4 a hsH.out).mono ?_;rintro e w2 ⟨rfl,hb2⟩;have hbb:=hb1H.out.trans (hb2.mono hb1H.out.size);obtain⟨hb2H,hbbH⟩:=hq2 hb2 (Lib.hid hbb);clear hb2 hbb;go_wp2
  go_ret2
  exact⟨rfl,hbbH.out⟩
 ·rw[if_neg e0,Prod.mk.injEq]at hF;obtain⟨rfl,rfl⟩:=hF;have e1:(d != 0)=true:=by simpa using e0
  go_wp2
  go_ret2
  exact⟨rfl,hb1H.out⟩
theorem rends_ends (x:Worker) (sz fm:Int):endsF x sz fm=if (rendsF x sz fm).2=true then rendsF x sz fm else (0,false):=by
 unfold endsF rendsF
 by_cases h:fm<x.from_
 ·simp[h]
 ·rw[if_neg h,if_neg h]
  by_cases h2:x.to_<endsGo (secsF x sz) fm x.stands.l
  ·rw[if_pos h2,decide_eq_false (by omega)];simp
  ·rw[if_neg h2,decide_eq_true (by omega)];simp
def wAwake:Worker:=⟨⟨#[97]⟩,⟨none,0,0,[]⟩,1,2,0,1,⟨none,0,0,[]⟩⟩
theorem slAt_nil {α:Type} (R:Rd α) (w:World):(RSl R).ok w ⟨none,0,0,[]⟩ :=
 ⟨⟨rfl,fun h=>absurd h (Nat.lt_irrefl 0),fun x hx=>by cases hx⟩,Nat.le_refl _,Nat.zero_le _,fun _=>rfl⟩
theorem wAwake_ok (w:World):RWorker.ok w wAwake:=by
 refine⟨?_,slAt_nil _ w,?_,?_,?_,?_,slAt_nil _ w⟩
 ·show ByteArray.size ⟨#[97]⟩≤maxLen
  decide +kernel
 all_goals exact⟨by decide,by decide⟩
theorem wAwake_F:secondsR wAwake 3=(2,0):=by decide +kernel
theorem awake_any (w:World):Calls Tryz.prog 15 #[] w fun e w'=>e = .returned (.bool true)∧Below w.heap.size w w':=by
 go_enter Tryz.func15,Tryz.ntmps15;go_wp2_with fail;refine(seconds_any wAwake 3 _ (wAwake_ok _) 2 0 wAwake_F).mono ?_;rintro e w' ⟨rfl,hb⟩;go_wp2;go_ret;exact⟨rfl,by first | exact hb | exact(Below.refl _ _).alloc (Nat.le_refl _) _ |>.trans (hb.mono (by simp))⟩
end Go.Proofs.YtbnkoefljcekbaaGreatDoor.C9