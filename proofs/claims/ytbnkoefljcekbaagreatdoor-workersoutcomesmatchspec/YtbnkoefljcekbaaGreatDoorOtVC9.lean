/-
 Several texts of mine as one, without what is not wanted here: XRqN, XCFarmR, XOutD, XRoD.
-/
import Derived.Test.YtbnkoefljcekbaaGreatDoorOtUC9
set_option linter.unusedVariables false
set_option linter.unusedSimpArgs false
set_option maxRecDepth 100000
set_option maxHeartbeats 8000000
namespace Go.Proofs.YtbnkoefljcekbaaGreatDoor.C9
open Go.ChangeShapes Go.WideShapes Go.Deep Go.RowKit Go.Maps
def leftQ (f:Nat) (w:World):Nat:=match w.cell? ⟨f,6,none⟩ with
 | some (.int .i64 t)=>(1002000001-t).toNat
 | _=>0
theorem leftQ_of {f:Nat} {w:World} {t:Int} (h:w.cell? ⟨f,6,none⟩=some (.int .i64 t)):leftQ f w=(1002000001-t).toNat:=by unfold leftQ;rw[h]
def FwAns (x:Farm) (w:World) (e:Ending) (w':World):Prop :=
 ∃ (X:RX) (rv:Value) (q':QS),e = .returned (.pointer (some ⟨X.f,0,none⟩))∧X.x=x∧X.F=fpx x∧RS X w∧QA X rv q' w w'∧QTrace (fpx x) q0 q'∧RN X q'∧∃ lo hi,Inv (fpx x) lo hi q'
def FoRel (X:RX) (w0 wr:World):Prop:=∃ (rv:Value) (q:QS),QA X rv q w0 wr∧Inv X.F (q.at_-1) q.at_ q∧q.at_≤1002000000∧∀ q',QTrace X.F q q'→QTrace X.F q0 q'
theorem follow_any (x:Farm) (w:World) (hx:RFarm.ok w x) (hok:FarmOk x) :
  Calls Tryz.prog 33 #[.agg #[.slice x.workers.A x.workers.n x.workers.cap,.slice x.works.A x.works.n x.works.cap,.slice x.lost.A x.lost.n x.lost.cap,.int .i64 x.tries,.bool x.doubles]] w (FwAns x w):=by
 have hx1:=hx.2.1;have hN:x.works.l.length=x.works.n:=hx1.1.1;have hN2:x.works.n≤200:=by have:=hok.wo.len;omega
 obtain⟨W1,hW1⟩:∃ Y,w.alloc (.cells #[.slice x.workers.A x.workers.n x.workers.cap,.slice x.works.A x.works.n x.works.cap,.slice x.lost.A x.lost.n x.lost.cap,.int .i64 x.tries,.bool x.doubles] 26)=Y:=⟨_,rfl⟩;obtain⟨xb,hxb⟩:∃ b,w.heap.size=b:=⟨_,rfl⟩;have hba:Below w.heap.size w W1:=by rw[← hW1];exact(Below.refl _ _).alloc (Nat.le_refl _) _
 have c0:W1.cell? ⟨xb,0,none⟩=some (.slice x.workers.A x.workers.n x.workers.cap):=by rw[← hW1,← hxb];exact cell_new _ _ _ 0
 have c1:W1.cell? ⟨xb,1,none⟩=some (.slice x.works.A x.works.n x.works.cap):=by rw[← hW1,← hxb];exact cell_new _ _ _ 1
 have c2:W1.cell? ⟨xb,2,none⟩=some (.slice x.lost.A x.lost.n x.lost.cap):=by rw[← hW1,← hxb];exact cell_new _ _ _ 2
 have c3:W1.cell? ⟨xb,3,none⟩=some (.int .i64 x.tries):=by rw[← hW1,← hxb];exact cell_new _ _ _ 3
 have c4:W1.cell? ⟨xb,4,none⟩=some (.bool x.doubles):=by rw[← hW1,← hxb];exact cell_new _ _ _ 4
 obtain⟨N,hNe⟩:∃ n,x.works.n=n:=⟨_,rfl⟩;obtain⟨Z,hZ⟩:∃ Z,FwAns x w=Z:=⟨_,rfl⟩;rw[hZ];have hlt:xb<W1.heap.size:=cell?_lt c0;have hS0:(fun w':World=>w'.cell? ⟨xb,0,none⟩=some (.slice x.workers.A x.workers.n x.workers.cap)∧w'.cell? ⟨xb,1,none⟩=some (.slice x.works.A N x.works.cap)∧w'.cell? ⟨xb,2,none⟩=some (.slice x.lost.A x.lost.n x.lost.cap)∧w'.cell? ⟨xb,3,none⟩=some (.int .i64 x.tries)∧w'.cell? ⟨xb,4,none⟩=some (.bool x.doubles)) W1:=⟨c0,by rw[← hNe];exact c1,c2,c3,c4⟩;obtain⟨hZH,hxH,hx1H,hokH,hNH,hN2H,hW1H,hxbH,hbaH,hltH,hS0H,hNeH⟩:=hq2 hZ (hq2 hx (hq2 hx1 (hqc hok hN hN2 hW1 hxb hba hlt hS0 (Lib.hid hNe))));clear hZ hx hx1 hok hN hN2 hW1 hxb hba hlt hS0 hNe;go_enter Tryz.func33,Tryz.ntmps33;go_wp2_with fail;rw[hW1H.out,hxbH.out,hNeH.out];clear c0 c1 c2 c3 c4;refine wp_region_held_drew (S:=fun w':World=>w'.cell? ⟨xb,0,none⟩=some (.slice x.workers.A x.workers.n x.workers.cap)∧w'.cell? ⟨xb,1,none⟩=some (.slice x.works.A N x.works.cap)∧w'.cell? ⟨xb,2,none⟩=some (.slice x.lost.A x.lost.n x.lost.cap)∧w'.cell? ⟨xb,3,none⟩=some (.int .i64 x.tries)∧w'.cell? ⟨xb,4,none⟩=some (.bool x.doubles)) (by kernel_rfl) hS0H.out (fun hHeld=>?_);refine tkS [(0,6),(1,7),(2,8)] ?_;(iterate 3 (refine tkL ?_ ?_ ?_;rotate_left;(· intro w hSw;(try dsimp only at hSw);go_simp;(try with_reducible rfl));(try simp only[Act.put,tkA,tkB,tkC])));refine tkE ?_;refine tkS [(4,10),(5,11),(6,12)] ?_;(iterate 3 (refine tkL ?_ ?_ ?_;rotate_left;(· intro w hSw;(try dsimp only at hSw);go_simp;(try with_reducible rfl));(try simp only[Act.put,tkA,tkB,tkC])));refine tkE ?_
 refine tkS [(8,14),(9,15),(10,16)] ?_;(iterate 3 (refine tkL ?_ ?_ ?_;rotate_left;(· intro w hSw;(try dsimp only at hSw);go_simp;(try with_reducible rfl));(try simp only[Act.put,tkA,tkB,tkC])));refine tkE ?_;have hkS:∀ W W':World,Below W.heap.size W W'→(W.cell? ⟨xb,0,none⟩=some (.slice x.workers.A x.workers.n x.workers.cap)∧W.cell? ⟨xb,1,none⟩=some (.slice x.works.A N x.works.cap)∧W.cell? ⟨xb,2,none⟩=some (.slice x.lost.A x.lost.n x.lost.cap)∧W.cell? ⟨xb,3,none⟩=some (.int .i64 x.tries)∧W.cell? ⟨xb,4,none⟩=some (.bool x.doubles)) →
   (W'.cell? ⟨xb,0,none⟩=some (.slice x.workers.A x.workers.n x.workers.cap)∧W'.cell? ⟨xb,1,none⟩=some (.slice x.works.A N x.works.cap)∧W'.cell? ⟨xb,2,none⟩=some (.slice x.lost.A x.lost.n x.lost.cap)∧W'.cell? ⟨xb,3,none⟩=some (.int .i64 x.tries)∧W'.cell? ⟨xb,4,none⟩=some (.bool x.doubles)) :=
  fun W W' hb h=>⟨keepC hb h.1,keepC hb h.2.1,keepC hb h.2.2.1,keepC hb h.2.2.2.1,keepC hb h.2.2.2.2⟩
 change wpAnyH _ _ _ _ _ 6 (L3b false false false) _ _
 refine pool3 (FJ x xb N w) _ rfl ?hR _ ?hJ hHeld ?H0 ?h3 ?h7 ?h11
 case hR=>intro b3 b7 b11;cases b3 <;> cases b7 <;> cases b11 <;> kernel_rfl
 case hJ=>exact⟨hbaH.out.trans (Below.refl _ _).drew,hltH.out,(fun v e=>by cases e),(fun v e=>by cases e),(fun v e=>by cases e),(fun v v' b e=>by cases e),(fun v v' b e=>by cases e),(fun v v' b e=>by cases e)⟩
 case H0 =>
  intro v3 v7 v11 wr hJ hS;have hk3:=hJ.k3 v3 rfl;have hk7:=hJ.k7 v7 rfl;have hk11:=hJ.k11 v11 rfl;obtain⟨A3,c3,S3,M3,hv3,_⟩:=hk3;obtain⟨db,hv7,_⟩:=hk7;obtain⟨lb,hv11,_⟩:=hk11;subst hv3 hv7 hv11;simp only[putO,pvO,Option.getD,Act.put,List.setIfInBounds_toArray,List.set_cons_zero,List.set_cons_succ];obtain⟨hJH,hkSH⟩:=hq2 hJ (Lib.hid hkS);clear hJ hkS;refine wpAnyH_ready (rs:=[12]) (by kernel_rfl) (by simp) ?_;refine AllReadyH.cons (i:=12) rfl (fun K hK=>?_) AllReadyH.nil;go_simp;refine hK.out _ _ hS (fun hHeld=>?_);clear hK K
  (try simp only[Act.put,tkA,tkB,tkC])
  refine wpAnyH_ready (rs:=[13]) (by kernel_rfl) (by simp) ?_;refine AllReadyH.cons (i:=13) rfl (fun K hK=>?_) AllReadyH.nil;go_simp;refine hK.out _ _ (hkSH.out _ _ ((Below.refl _ _).alloc (Nat.le_refl _) _) hHeld) (fun hHeld=>?_);clear hK K
  (try simp only[Act.put,tkA,tkB,tkC])
  refine wpAnyH_ready (rs:=[14]) (by kernel_rfl) (by simp) ?_;refine AllReadyH.cons (i:=14) rfl (fun K hK=>?_) AllReadyH.nil;go_simp;refine hK.out _ _ hHeld (fun hHeld=>?_);clear hK K
  (try simp only[Act.put,tkA,tkB,tkC])
  refine wpAnyH_done (by kernel_rfl) ?_ _;obtain⟨X,hXx,hXf,hXF,hSX,hFi,hA9⟩:=follow_lays hJH.out hxbH.out hNeH.out hokH.out hxH.out;obtain⟨W9,hW9⟩:∃ Y,(wr.alloc (.cells #[.slice x.workers.A x.workers.n x.workers.cap,.slice x.works.A N x.works.cap,.slice x.lost.A x.lost.n x.lost.cap,.int .i64 x.tries,.bool x.doubles,.slice A3 N c3,.int .i64 0,.slice none 0 0,.slice (some ⟨db,0,none⟩) N N,.slice (some ⟨lb,0,none⟩) N N] 63))=Y:=⟨_,rfl⟩;rw[hW9]at hA9;have hst:FoRel X w W9:=⟨_,q0,hA9,inv0 hFi,by decide,fun q' h=>h⟩;obtain⟨f,hf⟩:∃ f,wr.heap.size=f:=⟨_,rfl⟩;rw[hf]at hXf;have hordl:∀ i∈X.F.order,i<X.x.works.l.length:=fun i hi=>by rw[← hSX.nX];exact hFi.lt i hi
  rw[hW9,hf];clear hHeld hS hkSH hJH;subst hXf;obtain⟨hXxH,hXFH,hSXH,hFiH,hW9H,hstH,hordlH,hfH,hA9H⟩:=hqc hXx hXF hSX hFi hW9 hst hordl hf (Lib.hid hA9);clear hXx hXF hSX hFi hW9 hst hordl hf hA9;go_wp2_with fail
  go_loopw [] (fun wr=>FoRel X w wr) (fun wr=>leftQ X.f wr)
  case atStart=>exact hstH.out
  case round =>
   clear hstH;obtain⟨rv,q,hA,hI,hat,hT⟩:=hrel;have hleft:=leftQ_of (hA.blk 6 _ rfl).1;obtain⟨m1,m2,m3,m4⟩:=moment hFiH.out hI;obtain⟨k1,k2,k3⟩:=known hSXH.out hFiH.out hI hat;have hfin:=rfinish_any hA hSXH.out k1 (fun k=>(hI.two k).2) k2;obtain⟨hAH,hIH,hTH,hleftH,m1H,m2H,m3H,m4H,hfinH,k1H,k2H,k3H⟩:=hq2 hA (hq2 hI (hq2 hT (hqc hleft m1 m2 m3 m4 hfin k1 k2 (Lib.hid k3))));clear hA hI hT hleft m1 m2 m3 m4 hfin k1 k2 k3;go_wp2_with fail;go_at_call 76;refine hfinH.out.mono ?_;rintro e w1 ⟨rfl,hA1⟩;obtain⟨k1,k2,k3⟩:=known hSXH.out hFiH.out m1H.out hat;have hlo:=rlose_any hA1 hSXH.out k1 k3;clear hfinH hA1;obtain⟨hloH,k1H,k2H,k3H⟩:=hq2 hlo (hq2 k1 (hq2 k2 (Lib.hid k3)));clear hlo k1 k2 k3;go_wp2_with fail;go_at_call 77;refine hloH.out.mono ?_;rintro e w2 ⟨rfl,hA2⟩;obtain⟨k1,k2,k3⟩:=known hSXH.out hFiH.out m3H.out hat;have hsta:=rbeginAll_any hA2 hSXH.out k1 hordlH.out;clear hloH hA2;obtain⟨hstaH,k1H,k2H,k3H⟩:=hq2 hsta (hq2 k1 (hq2 k2 (Lib.hid k3)));clear hsta k1 k2 k3;go_wp2_with fail;go_at_call 78;refine hstaH.out.mono ?_;rintro e w3 ⟨rfl,rv3,hA3⟩;obtain⟨k4,k5,k6⟩:=known hSXH.out hFiH.out m4H.out (by rw[at_step];exact hat);have hdb:=rdoubleAll_any hA3 hSXH.out k1H.out k4 k5;clear hstaH hA3;obtain⟨hdbH,k4H,k5H,k6H⟩:=hq2 hdb (hq2 k4 (hq2 k5 (Lib.hid k6)));clear hdb k4 k5 k6;go_wp2_with fail;go_at_call 79;refine hdbH.out.mono ?_
   rintro e w4 ⟨rfl,rv4,hA4⟩;have hA4:QA X rv4 (stepQ X.F q) w w4:=hA4;have hnx:=rnext_any hA4 hSXH.out k4H.out k5H.out;clear hdbH;obtain⟨hA4H,hnxH⟩:=hq2 hA4 (Lib.hid hnx);clear hA4 hnx;go_wp2_with fail;go_at_call 80;refine hnxH.out.mono ?_;rintro e w5 ⟨rfl,hA5⟩
   cases hnq:nextQ X.F (stepQ X.F q) with
   | none =>
    have R:Z (.returned (.pointer (some ⟨X.f,0,none⟩))) w5:=by
     rw[← hZH.out];have:=hTH.out _ (.last _ hnq);rw[hXFH.out]at this hA5;exact⟨X,rv4,_,rfl,hXxH.out,hXFH.out,hSXH.out,by rw[hXFH.out]at *;exact hA5,this,by have:=k4H.out;rw[hXFH.out]at this;exact this,_,_,by have:=m4H.out;rw[hXFH.out]at this;exact this⟩
    clear hA5;simp only[Option.getD_none,Option.isSome_none];obtain⟨RH,hnqH⟩:=hq2 R (Lib.hid hnq);clear R hnq;go_wp2;exact RH.out
   | some n =>
    have hB:Bnd X.F 1000000000 1000000:=by rw[hXFH.out];exact bnd_of hokH.out _
    obtain⟨b1,b2⟩:=next_bnd hFiH.out hB (q:=stepQ X.F q) (by rw[at_step];exact m4H.out) hnq;have hI4:Inv X.F (n-1) n { stepQ X.F q with at_:=n }:=Inv.at (q:=stepQ X.F q) (by rw[at_step];exact m4H.out) hnq;rw[at_step]at b1;have hA6:=hA5.setAt n;have R:FoRel X w (w5.setCell ⟨X.f,6,none⟩ (.int .i64 n)):=⟨rv4,{ stepQ X.F q with at_:=n },hA6,hI4,by show n≤1002000000;omega,fun q' h=>hTH.out q' (.more _ _ _ hnq h)⟩;have hl6:=leftQ_of (hA6.blk 6 _ rfl).1;have hfr6:=(hA5.blk 6 _ rfl).2;have c6:=(hA5.blk 6 _ rfl).1;have hdec:leftQ X.f (w5.setCell ⟨X.f,6,none⟩ (.int .i64 n))<leftQ X.f wr:=by
     rw[hl6,hleftH.out];show (1002000001-n).toNat<(1002000001-q.at_).toNat;omega
    clear hA5 hA6 hl6;simp only[Option.getD_some,Option.isSome_some];obtain⟨RH,hnqH,hI4H,hBH,hdecH⟩:=hqb R hnq hI4 hB (Lib.hid hdec);clear R hnq hI4 hB hdec;go_wp2;refine⟨?rel,?measure⟩
    case measure=>exact hdecH.out
    case rel=>first | exact RH.out | exact⟨rfl,RH.out⟩
 case h3 =>
  intro y z wr hJ hS;have hl:=hx1H.out.1.below hJ.bel;rw[hNeH.out]at hl;have hcr:=rranked_any x.works.A N x.works.cap x.works.l wr hl hokH.out.wo;refine⟨_,rfl,fun K hK=>?_⟩;have hKH:=Lib.hid hK;clear hK hl;obtain⟨hJH,hSH,hkSH⟩:=hq2 hJ (hq2 hS (Lib.hid hkS));clear hJ hS hkS;simp only[putO,Act.put,List.setIfInBounds_toArray,List.set_cons_zero,List.set_cons_succ];go_simp;go_at_call 75;refine hcr.mono ?_;rintro e w2 ⟨A',c',S',M,rfl,q1,q2,q3,q4,q5⟩;exact hKH.out.out _ w2 (hJH.out.put3 q5 q1 ⟨q2,q3,q4⟩) (hkSH.out _ _ q5 hSH.out)
 case h7 =>
  intro u z wr hJ hS;have hm:=run_makeB N (by have:=hN2H.out;have:=hNeH.out;omega);have hb7:=(Below.refl wr.heap.size wr).alloc (Nat.le_refl _) (.cells (madeB N) 4);have hS7:=hkS wr _ hb7 hS;have hJ7:=hJ.put7 hb7 (by simp) (BRow.made _ _);refine⟨_,rfl,fun K hK=>?_⟩;have hKH:=Lib.hid hK;clear hK hkS;obtain⟨hJH,hSH,hb7H,hS7H,hJ7H⟩:=hqb hJ hS hb7 hS7 (Lib.hid hJ7);clear hJ hS hb7 hS7 hJ7;simp only[putO,Act.put,List.setIfInBounds_toArray,List.set_cons_zero,List.set_cons_succ];go_simp;exact hKH.out.out _ _ hJ7H.out hS7H.out
 case h11 =>
  intro u y wr hJ hS;have hm:=run_makeInts N (by have:=hN2H.out;have:=hNeH.out;omega);have hb7:=(Below.refl wr.heap.size wr).alloc (Nat.le_refl _) (.cells (madeI N) 3);have hS7:=hkS wr _ hb7 hS;have hJ7:=hJ.put11 hb7 (by simp) (irow_madeQ _ _);refine⟨_,rfl,fun K hK=>?_⟩;have hKH:=Lib.hid hK;clear hK hkS;obtain⟨hJH,hSH,hb7H,hS7H,hJ7H⟩:=hqb hJ hS hb7 hS7 (Lib.hid hJ7);clear hJ hS hb7 hS7 hJ7;simp only[putO,Act.put,List.setIfInBounds_toArray,List.set_cons_zero,List.set_cons_succ];go_simp;exact hKH.out.out _ _ hJ7H.out hS7H.out
end Go.Proofs.YtbnkoefljcekbaaGreatDoor.C9
namespace Go.Proofs.YtbnkoefljcekbaaGreatDoor.C9
open Go.ChangeShapes Go.WideShapes Go.Deep Go.RowKit
theorem rfarm_any (x:Farm) (w:World) (hx:RFarm.ok w x) (c:Int) (hF:farmF x=c) :
  Calls Tryz.prog 13 #[farmV x] w (CfAns c w):=by
 obtain⟨hx0,hx1,hx2,hx3,hx4⟩:=hx;unfold farmV;obtain⟨Z,hZ⟩:∃ Z,CfAns c w=Z:=⟨_,rfl⟩;have hZ':∀ W,Below w.heap.size w W→Z (.returned (.int .i64 c)) W:=fun W h=>by rw[← hZ];exact⟨rfl,h⟩
 rw[hZ];clear hZ;unfold farmF at hF;obtain⟨⟨wA,wn,wc,wsl⟩,⟨xA,xn,xc,xsl⟩,⟨lA,ln,lc,lsl⟩,tr,db⟩:=x;simp only at hx0 hx1 hx2 hx3 hx4 hF ⊢;obtain⟨W1,hW1⟩:∃ Y,w.alloc (.cells #[.slice wA wn wc,.slice xA xn xc,.slice lA ln lc,.int .i64 tr,.bool db] 26)=Y:=⟨_,rfl⟩;obtain⟨xb,hxb⟩:∃ b,w.heap.size=b:=⟨_,rfl⟩;have hba:Below w.heap.size w W1:=by rw[← hW1];exact(Below.refl _ _).alloc (Nat.le_refl _) _
 have c0:W1.cell? ⟨xb,0,none⟩=some (.slice wA wn wc):=by rw[← hW1,← hxb];exact cell_new _ _ _ 0
 have c1:W1.cell? ⟨xb,1,none⟩=some (.slice xA xn xc):=by rw[← hW1,← hxb];exact cell_new _ _ _ 1
 have c2:W1.cell? ⟨xb,2,none⟩=some (.slice lA ln lc):=by rw[← hW1,← hxb];exact cell_new _ _ _ 2
 have c3:W1.cell? ⟨xb,3,none⟩=some (.int .i64 tr):=by rw[← hW1,← hxb];exact cell_new _ _ _ 3
 have hw1:SlAt RWorker W1 wA wn wsl:=hx0.1.below hba;have hw2:SlAt RWork W1 xA xn xsl:=hx1.1.below hba;have hw3:SlAt RLoss W1 lA ln lsl:=hx2.1.below hba;have hm2:ln≤lc∧lc≤maxLen:=⟨hx2.2.1,hx2.2.2.1⟩;have hC:∀ W,Below W1.heap.size W1 W→W.cell? ⟨xb,2,none⟩=some (.slice lA ln lc)∧W.cell? ⟨xb,0,none⟩=some (.slice wA wn wc)∧W.cell? ⟨xb,3,none⟩=some (.int .i64 tr):=fun W h=>⟨keepC h c2,keepC h c0,keepC h c3⟩;have hll:lsl.length=ln:=hw3.1;have hwl:wsl.length=wn:=hw1.1;obtain⟨f1,hf1⟩:∃ f,workersF wsl=f:=⟨_,rfl⟩;obtain⟨f2,hf2⟩:∃ f,worksF xsl=f:=⟨_,rfl⟩;rw[hf1,hf2]at hF;have RZ:∀ W,Below W1.heap.size W1 W→Z (.returned (.int .i64 c)) W:=fun W h=>hZ' W (hba.trans (h.mono hba.size));obtain⟨hCH,hZ'H,hx0H,hx1H,hx2H,hx3H,hx4H,hW1H,hxbH,hbaH,hw1H,hw2H,hw3H,hFH,hf1H,hf2H,hllH,hwlH,RZH⟩:=hq2 hC (hq2 hZ' (hqc hx0 hx1 hx2 hx3 hx4 hW1 hxb hba (hqc hw1 hw2 hw3 hF hf1 hf2 hll hwl (Lib.hid RZ))));clear hC hZ' hx0 hx1 hx2 hx3 hx4 hW1 hxb hba hw1 hw2 hw3 hF hf1 hf2 hll hwl RZ;go_enter Tryz.func13,Tryz.ntmps13;go_wp2_with fail;rw[hW1H.out,hxbH.out];refine(rworkers_any wA wn wc wsl _ hw1H.out f1 hf1H.out).mono ?_;rintro e w1 ⟨rfl,hb1⟩;have c0:=keepC hb1 c0;have c1:=keepC hb1 c1;have c2:=keepC hb1 c2;have c3:=keepC hb1 c3;have hF:=hFH.out;clear hFH
 by_cases h1:f1=0
 ·subst h1;rw[if_pos rfl]at hF;obtain⟨hb1H,hFH⟩:=hq2 hb1 (Lib.hid hF);clear hb1 hF;go_wp2_with fail;refine(rworks_any xA xn xc xsl _ (hw2H.out.below hb1H.out) f2 hf2H.out).mono ?_;rintro e w2 ⟨rfl,hb2⟩;have c0:=keepC hb2 c0;have c2:=keepC hb2 c2;have c3:=keepC hb2 c3;have hb2:=hb1H.out.trans (hb2.mono hb1H.out.size);have hF:=hFH.out;clear hFH
  by_cases h2:f2=0
  ·subst h2;rw[if_pos rfl,hllH.out]at hF
   by_cases h3:ln≤200
   ·rw[if_pos h3]at hF;obtain⟨d,hd⟩:∃ d,lossErr wsl none lsl=d:=⟨_,rfl⟩;rw[hd]at hF;have hst:LosRel wsl lsl d W1 (.int .i64 0) w2:=⟨0,Nat.zero_le _,rfl,hd,hb2⟩;have hrise:wsl.length≤50∧wsl.Pairwise fun a b=>cmpS a.name b.name = -1:=by
     have h:=hf1H.out;unfold workersF at h
     by_cases h6:wsl.length≤50
     ·rw[if_pos h6]at h;exact⟨h6,(workersErr_ok _ _ h).2.1⟩
     ·rw[if_neg h6]at h;exact absurd h (by decide)
    have he5:(5:Int)=d→c=5:=fun e=>by rw[← e,if_neg (by decide)]at hF;exact hF.symm
    have he1:(1:Int)=d→c=1:=fun e=>by rw[← e,if_neg (by decide)]at hF;exact hF.symm
    have he8:(8:Int)=d→c=8:=fun e=>by rw[← e,if_neg (by decide)]at hF;exact hF.symm
    have he0:(0:Int)=d→(if inR 1 10 tr=true then 0 else 1)=c:=fun e=>by rw[← e,if_pos rfl]at hF;exact hF
    clear hF;obtain⟨hb2H,hstH,hdH,hriseH,he5H,he1H,he8H,he0H⟩:=hq2 hb2 (hq2 hst (hq2 hd (hqb hrise he5 he1 he8 (Lib.hid he0))));clear hb2 hst hd hrise he5 he1 he8 he0;go_wp2_with fail;clear c0 c1 c2 c3
    go_loopw [26] (fun i w5=>LosRel wsl lsl d W1 i w5) (fun i _=>ln-(intOf i).toNat)
    case atStart=>exact hstH.out
    case round =>
     clear hstH;obtain⟨k,hk,rfl,hck,hb⟩:=hrel;have hkl:k≤ln:=by have:=hllH.out;omega
     have hbs:=hb.size;obtain⟨c2,c0,c3⟩:=hCH.out wr hb
     by_cases hlt:k<ln
     ·have hsl:=hw3H.out.below hb;obtain⟨bl,ol,hA9,_⟩:=hsl.2.1 (by omega);subst hA9;obtain⟨y,hy⟩:∃ y,lsl[k]? = some y:=⟨lsl[k]'(by have:=hllH.out;omega),List.getElem?_eq_getElem _⟩;obtain⟨d0,d1⟩:=cells_Loss hsl hy;have hok:=hsl.2.2 y (List.mem_of_getElem? hy);rw[drop_lo hy,lossErr]at hck;have hkl2:k+1≤lsl.length:=by have:=hllH.out;omega
      have hpn:prevLo lsl (k+1)=some y:=by rw[prevLo,if_neg (by omega),show k+1-1=k from rfl,hy]
      obtain⟨nm,mt⟩:=y;simp only at d0 d1 hck;have hba:=hb.alloc hbs (.cells #[.string nm,.int .i64 mt] 71);have hbas:=hba.size;have c0a:=keepC ((Below.refl wr.heap.size wr).alloc (Nat.le_refl _) (.cells #[.string nm,.int .i64 mt] 71)) c0;have hwk:=(hw1H.out.below hba);have n5:hasNm wsl nm=false→c=5:=fun h=>he5H.out (by rw[h]at hck;rw[if_neg (by decide)]at hck;exact hck);obtain⟨hn,hhn⟩:∃ b,hasNm wsl nm=b:=⟨_,rfl⟩;rw[hhn]at n5;obtain⟨hyH,hckH,hbH,hbaH,hbasH,hokH,hpnH,hkl2H,hwkH,hslH,n5H,hhnH⟩:=hq2 hy (hq2 hck (hq2 hb (hqc hba hbas hok hpn hkl2 hwk hsl n5 (Lib.hid hhn))));clear hy hck hb hba hbas hok hpn hkl2 hwk hsl n5 hhn;go_wp2_with fail;refine(workerOf_any wA wn wc wsl nm _ (by have:=hriseH.out.1;have:=hwlH.out;omega) hwkH.out).mono ?_;rintro e w4 ⟨rfl,hw4⟩;have hwf:wkF wsl nm=if hn=true then ((ixNm wsl nm:Nat):Int) else -1:=by unfold wkF;rw[hhnH.out]
      rw[hwf];have q0:w4.cell? ⟨wr.heap.size,0,none⟩=some (.string nm):=(hw4.cell (by simp)).trans (cell_new _ _ _ 0);have q1:w4.cell? ⟨wr.heap.size,1,none⟩=some (.int .i64 mt):=(hw4.cell (by simp)).trans (cell_new _ _ _ 1);have hb4:=hbaH.out.trans (hw4.mono hbasH.out);clear c0 c0a c2 c3 d0 d1;have c2:=(hCH.out w4 hb4).1
      cases hn
      ·obtain rfl:=n5H.out rfl;have R:=RZH.out _ hb4;rw[if_neg (by decide)];clear hwf;obtain⟨RH,hb4H,hw4H⟩:=hq2 R (hq2 hb4 (Lib.hid hw4));clear R hb4 hw4;go_wp2;exact RH.out
      ·have hck:=hckH.out;clear hckH;rw[if_pos hhnH.out]at hck;rw[if_pos rfl];clear hwf;obtain⟨ixn,hixn⟩:∃ v,ixNm wsl nm=v:=⟨_,rfl⟩;rw[hixn];have dix:decide ((ixn:Int)<0)=false:=decide_eq_false (by omega);clear hixn
       by_cases i1:inR 0 1000000000 mt=true
       ·rw[if_pos i1]at hck
        by_cases hk0:k=0
        ·subst hk0;have R:∀ nq,LosRel wsl lsl d W1 (.int .i64 1) (w4.drewN nq):=by
          refine fun nq=>⟨1,hkl2H.out,by go_num,?_,bel_drewN hb4 nq⟩;rw[prevLo,if_pos rfl,Option.map_none,if_neg (by decide)]at hck;rw[show prevLo lsl 1=_ from hpnH.out];exact hck
         obtain⟨RH,hckH,hb4H,hw4H⟩:=hq2 R (hq2 hck (hq2 hb4 (Lib.hid hw4)));clear R hck hb4 hw4;go_wp2_with (go_at_call 47;refine(within_r _ _ _ _).mono ?_;rintro e wz ⟨rfl,rfl⟩)
         go_quiet (fail)
         go_wp2;refine⟨?rel,?measure⟩
         case measure=>(simp[intOf];omega)
         case rel=>first | exact(RH.out _) | exact⟨rfl,(RH.out _)⟩
        ·obtain⟨j,rfl⟩:∃ j,k=j+1:=⟨k-1,by omega⟩;obtain⟨y,hy⟩:∃ y,lsl[j]? = some y:=⟨lsl[j]'(by have:=hllH.out;omega),List.getElem?_eq_getElem _⟩;obtain⟨d0,d1⟩:=cells_Loss (hw3H.out.below hb4) hy;have hpr:prevLo lsl (j+1)=some y:=by rw[prevLo,if_neg (by omega),show j+1-1=j from rfl,hy]
         rw[hpr,Option.map_some]at hck;clear hpr;obtain⟨ynm,ymt⟩:=y;simp only at d0 d1;have f0:(0:Int)≤(j:Int):=by omega
         have f1:(j:Int)<(ln:Int):=by omega
         have hln2:ln≤200:=h3;have f2:IntKind.i64.wrap ((j:Int)+1-1)=(j:Int):=by rw[show (j:Int)+1-1=(j:Int) by omega];exact IntWalk.i64_in _ (by omega)
         have f3:(j:Int).toNat=j:=by omega
         have f4:IntKind.i64.wrap (j:Int)=(j:Int):=IntWalk.i64_in _ (by omega);have f5:IntKind.i64.wrap (((j+1:Nat):Int)-1)=(j:Int):=by rw[show ((j+1:Nat):Int)-1=(j:Int) by omega];exact f4
         have hLE:lossLe ⟨nm,mt⟩ ⟨ynm,ymt⟩=(decide (mt<ymt)||(decide (mt=ymt)&&sle nm ynm)):=rfl;rw[hLE]at hck;clear hLE
         by_cases hA:mt<ymt
         ·have dA:decide (mt<ymt)=true:=decide_eq_true hA;rw[dA,Bool.true_or,if_pos rfl]at hck;obtain rfl:=he8H.out hck;have R:∀ nq,Z (.returned (.int .i64 8)) (w4.drewN nq):=fun nq=>RZH.out _ (bel_drewN hb4 nq);obtain⟨hckH,hb4H,hw4H,RH,hyH⟩:=hqb hck hb4 hw4 R (Lib.hid hy);clear hck hb4 hw4 R hy;go_wp2_with (go_at_call 47;refine(within_r _ _ _ _).mono ?_;rintro e wz ⟨rfl,rfl⟩)
          go_quiet (fail)
          go_wp2;exact RH.out _
         ·have dA:decide (mt<ymt)=false:=decide_eq_false hA;rw[dA,Bool.false_or]at hck
          by_cases hB:mt=ymt
          ·have dB:(mt==ymt)=true:=by simpa using hB
           rw[decide_eq_true hB,Bool.true_and]at hck
           cases hle:sle nm ynm
           ·have hle':(Op.bytesLess nm.toList ynm.toList||nm.toList==ynm.toList)=false:=hle;rw[hle,if_neg (by decide)]at hck;have R:∀ nq,LosRel wsl lsl d W1 (.int .i64 (j+1+1)) (w4.drewN nq):=by
             refine fun nq=>⟨j+1+1,hkl2H.out,by go_num,?_,bel_drewN hb4 nq⟩;rw[hpnH.out];exact hck
            clear hB;obtain⟨hckH,hleH,hb4H,hw4H,RH,hyH⟩:=hq2 hck (hqb hle hb4 hw4 R (Lib.hid hy));clear hck hle hb4 hw4 R hy;go_wp2_with (go_at_call 47;refine(within_r _ _ _ _).mono ?_;rintro e wz ⟨rfl,rfl⟩)
            go_quiet (fail)
            go_wp2;refine⟨?rel,?measure⟩
            case measure=>(simp[intOf];omega)
            case rel=>first | exact(RH.out _) | exact⟨rfl,(RH.out _)⟩
           ·have hle':(Op.bytesLess nm.toList ynm.toList||nm.toList==ynm.toList)=true:=hle;rw[hle,if_pos rfl]at hck;obtain rfl:=he8H.out hck;have R:∀ nq,Z (.returned (.int .i64 8)) (w4.drewN nq):=fun nq=>RZH.out _ (bel_drewN hb4 nq);clear hB;obtain⟨hckH,hleH,hb4H,hw4H,RH,hyH⟩:=hq2 hck (hqb hle hb4 hw4 R (Lib.hid hy));clear hck hle hb4 hw4 R hy;go_wp2_with (go_at_call 47;refine(within_r _ _ _ _).mono ?_;rintro e wz ⟨rfl,rfl⟩)
            go_quiet (fail)
            go_wp2;exact RH.out _
          ·have dB:(mt==ymt)=false:=by simpa using hB
           rw[decide_eq_false hB,Bool.false_and,if_neg (by decide)]at hck;have R:∀ nq,LosRel wsl lsl d W1 (.int .i64 (j+1+1)) (w4.drewN nq):=by
            refine fun nq=>⟨j+1+1,hkl2H.out,by go_num,?_,bel_drewN hb4 nq⟩;rw[hpnH.out];exact hck
           clear hB;obtain⟨hckH,hb4H,hw4H,RH,hyH⟩:=hqb hck hb4 hw4 R (Lib.hid hy);clear hck hb4 hw4 R hy;go_wp2_with (go_at_call 47;refine(within_r _ _ _ _).mono ?_;rintro e wz ⟨rfl,rfl⟩)
           go_quiet (fail)
           go_wp2;refine⟨?rel,?measure⟩
           case measure=>(simp[intOf];omega)
           case rel=>first | exact(RH.out _) | exact⟨rfl,(RH.out _)⟩
       ·rw[if_neg i1]at hck;obtain rfl:=he1H.out hck;have R:=RZH.out _ hb4;have i1':inR 0 1000000000 mt=false:=by simpa using i1
        clear i1;obtain⟨RH,hb4H,hw4H,hckH⟩:=hq2 R (hq2 hb4 (hq2 hw4 (Lib.hid hck)));clear R hb4 hw4 hck;go_wp2_with (go_at_call 47;refine(within_r _ _ _ _).mono ?_;rintro e wz ⟨rfl,rfl⟩);exact RH.out
     ·obtain rfl:k=ln:=by omega
      have e:lsl.drop k = []:=List.drop_eq_nil_of_le (by have:=hllH.out;omega);rw[e,lossErr]at hck;have hF:=he0H.out hck;clear e hck
      by_cases i1:inR 1 10 tr=true
      ·rw[if_pos i1]at hF;subst hF;have R:=RZH.out _ hb;obtain⟨RH,hbH⟩:=hq2 R (Lib.hid hb);clear R hb;go_wp2_with (go_at_call 47;refine(within_r _ _ _ _).mono ?_;rintro e wz ⟨rfl,rfl⟩);exact RH.out
      ·rw[if_neg i1]at hF;subst hF;have i1':inR 1 10 tr=false:=by simpa using i1
       clear i1;have R:=RZH.out _ hb;obtain⟨RH,hbH⟩:=hq2 R (Lib.hid hb);clear R hb;go_wp2_with (go_at_call 47;refine(within_r _ _ _ _).mono ?_;rintro e wz ⟨rfl,rfl⟩);exact RH.out
   ·rw[if_neg h3]at hF;subst hF;have R:=RZH.out _ hb2;obtain⟨RH,hb2H⟩:=hq2 R (Lib.hid hb2);clear R hb2;go_wp2;exact RH.out
  ·rw[if_neg h2]at hF;subst hF;have R:=RZH.out _ hb2;have h2':(f2 != 0)=true:=by simpa using h2
   clear h2;obtain⟨RH,hb2H⟩:=hq2 R (Lib.hid hb2);clear R hb2;go_wp2;exact RH.out
 ·rw[if_neg h1]at hF;subst hF;have R:=RZH.out _ hb1;have h1':(f1 != 0)=true:=by simpa using h1
  clear h1;obtain⟨RH,hb1H⟩:=hq2 R (Lib.hid hb1);clear R hb1;go_wp2;exact RH.out
end Go.Proofs.YtbnkoefljcekbaaGreatDoor.C9
namespace Go.Proofs.YtbnkoefljcekbaaGreatDoor.C9
open Go.ChangeShapes Go.WideShapes Go.Deep Go.RowKit Go.Maps
def outS (x:Farm) (p:PS) (i:Nat):Int:=if p.done i=true then 1 else if x.tries≤p.lost i then 2 else 3
def outT (x:Farm) (p:PS) (i:Nat):Int:=if p.done i=true then p.last i else if x.tries≤p.lost i then p.last i else 0
def outOf (x:Farm) (p:PS) (i:Nat):Outcome:=⟨(woOf x i).id_,outS x p i,outT x p i,p.begun i⟩
section
variable {x:Farm} {p:PS} {q:QS} {L:List RR}
theorem endP_nums (hE:EndP (fpx x) p q) (h0:farmF x=0) (i:Nat):0≤p.begun i∧p.begun i≤11∧0≤p.last i∧p.last i≤1000000000:=by
 have hok:=farmOk_of h0;have h1:=hE.sim.begun i;have h2:=hE.fin.inv.cnt i;have h3:(fpx x).tries≤10:=hok.tri.2;have h4:(q.runs.countP fun r=>r.work==i)=q.runs.countP (onWork i):=rfl;rw[h4]at h1;refine⟨by omega,by omega,?_⟩
 rcases(hE.last i).2 with e | ⟨r,hr,_,_,e⟩
 ·omega
 ·have hI:=hE.fin.inv;obtain⟨a1,a2,a3,_⟩:=hI.en r hr (hE.fin.ended r hr);obtain⟨b1,b2,b3,_⟩:=hI.fr r hr;have hlt:r.worker<x.workers.l.length:=(hI.named r hr).1;have c:(wkOf x r.worker).to_≤1000000000:=by
   rw[wkOf_get (List.getElem?_eq_getElem hlt)];exact(worker_times (hok.wk _ (List.getElem_mem hlt))).2.2.2
  have a3':r.to_≤(wkOf x r.worker).to_:=a3;omega
end
def rfo (q:QS) (i k:Nat):OS:=(q.runs.take k).foldl (oStep i) os0
theorem rfo_zero (q:QS) (i:Nat):rfo q i 0=os0:=by unfold rfo;rw[List.take_zero];rfl
theorem rfo_take {q:QS} {i k:Nat} {r:RR} (h:q.runs[k]? = some r):rfo q i (k+1)=oStep i (rfo q i k) r:=by
 unfold rfo;rw[List.take_add_one,h,Option.toList_some,List.foldl_append];rfl
theorem rfo_all (q:QS) (i:Nat):rfo q i q.runs.length=q.runs.foldl (oStep i) os0:=by unfold rfo;rw[List.take_length]
def routOf (x:Farm) (q:QS) (i:Nat):Outcome:=⟨(woOf x i).id_,oS x.tries (q.done i) (q.lost i) (rfo q i q.runs.length),oT x.tries (q.done i) (q.lost i) (rfo q i q.runs.length),(rfo q i q.runs.length).tr⟩
theorem rout_same {x:Farm} {p:PS} {q:QS} (hE:EndP (fpx x) p q) (i:Nat):routOf x q i=outOf x p i:=by
 obtain⟨a,b,c⟩:=outcome_same hE i (ospec_fold i q.runs);have ht:(fpx x).tries=x.tries:=rfl;rw[ht]at b c;unfold routOf outOf outS outT;rw[rfo_all,a,b,c]
structure OsOk (k:Nat) (s:OS):Prop where
 tr:0≤s.tr∧s.tr≤k
 st:s.st=1∨s.st=3
 am:I64 s.am
 la:I64 s.la
theorem rfo_ok {q:QS} (h:∀ r∈q.runs,I64 r.to_) (i:Nat):∀ k,OsOk k (rfo q i k):=by
 intro k
 induction k with
 | zero=>rw[rfo_zero];exact⟨⟨Int.le_refl _,by decide⟩,.inr rfl,by unfold I64 os0;decide,by unfold I64 os0;decide⟩
 | succ k ih =>
  cases hr:q.runs[k]? with
  | none =>
   have e:rfo q i (k+1)=rfo q i k:=by
    unfold rfo;rw[List.getElem?_eq_none_iff]at hr;rw[List.take_of_length_le (by omega),List.take_of_length_le hr]
   rw[e];obtain⟨a,b,c,d⟩:=ih;exact⟨by omega,b,c,d⟩
  | some r =>
   have ht:=h r (List.mem_of_getElem? hr);rw[rfo_take hr];obtain⟨a,b,c,d⟩:=ih;unfold oStep
   split
   ·refine⟨?_,?_,?_,?_⟩
    ·simp only;omega
    ·simp only;split
     ·exact .inl rfl
     ·exact b
    ·simp only;split
     ·exact ht
     ·exact c
    ·simp only;split
     ·unfold I64 at *;omega
     ·exact d
   ·exact⟨by omega,b,c,d⟩
theorem rout_ok {x:Farm} {q:QS} (h:∀ r∈q.runs,I64 r.to_) (hn:q.runs.length≤4000) (i:Nat):I64 (routOf x q i).state∧I64 (routOf x q i).at_∧I64 (routOf x q i).tries:=by
 obtain⟨a,b,c,d⟩:=rfo_ok h i q.runs.length;unfold routOf oS oT;simp only;refine⟨?_,?_,?_⟩
 ·unfold I64;split
  ·decide
  ·omega
 ·split
  ·exact d
  ·exact c
 ·unfold I64;omega
def nvF (ws:List Worker) (l:List Work):List ByteArray:=(l.filter fun z=>!(ws.any fun y=>fitF z.needs.l y.has.l)).map (·.id_)
theorem nv_take {ws:List Worker} {l:List Work} {k:Nat} {z:Work} (h:l[k]? = some z):nvF ws (l.take (k+1))=nvF ws (l.take k)++if (ws.any fun y=>fitF z.needs.l y.has.l)=true then [] else [z.id_]:=by
 unfold nvF;rw[List.take_add_one,h,Option.toList_some,List.filter_append,List.map_append]
 congr 1
 cases e:ws.any fun y=>fitF z.needs.l y.has.l
 ·simp[e]
 ·simp[e]
theorem nv_len (ws:List Worker) (l:List Work):(nvF ws l).length≤l.length:=by
 unfold nvF;rw[List.length_map];exact List.length_filter_le _ _
end Go.Proofs.YtbnkoefljcekbaaGreatDoor.C9