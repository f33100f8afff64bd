/-
 Several texts of mine as one, without what is not wanted here: XRqN, XRqOp, XCFarmR.
-/
import Derived.Test.YtbnkoefljcekbaaGreatDoorPyUC9
set_option linter.unusedVariables false
set_option linter.unusedSimpArgs false
set_option maxRecDepth 100000
set_option maxHeartbeats 8000000
namespace Go.Proofs.YtbnkoefljcekbaaGreatDoor.C9
open Go.ChangeShapes Go.WideShapes Go.Deep Go.RowKit Go.Maps
def leftQ (f:Nat) (w:World):Nat:=match w.cell? ⟨f,6,none⟩ with
 | some (.int .i64 t)=>(1002000001-t).toNat
 | _=>0
theorem leftQ_of {f:Nat} {w:World} {t:Int} (h:w.cell? ⟨f,6,none⟩=some (.int .i64 t)):leftQ f w=(1002000001-t).toNat:=by unfold leftQ;rw[h]
def FwAns (x:Farm) (w:World) (e:Ending) (w':World):Prop :=
 ∃ (X:RX) (rv:Value) (q':QS),e = .returned (.pointer (some ⟨X.f,0,none⟩))∧X.x=x∧X.F=fpx x∧RS X w∧QA X rv q' w w'∧QTrace (fpx x) q0 q'∧RN X q'∧∃ lo hi,Inv (fpx x) lo hi q'
def FoRel (X:RX) (w0 wr:World):Prop:=∃ (rv:Value) (q:QS),QA X rv q w0 wr∧Inv X.F (q.at_-1) q.at_ q∧q.at_≤1002000000∧∀ q',QTrace X.F q q'→QTrace X.F q0 q'
theorem follow_any (x:Farm) (w:World) (hx:RFarm.ok w x) (hok:FarmOk x) :
  Calls Tryz.prog 33 #[.agg #[.slice x.workers.A x.workers.n x.workers.cap,.slice x.works.A x.works.n x.works.cap,.slice x.lost.A x.lost.n x.lost.cap,.int .i64 x.tries,.bool x.doubles]] w (FwAns x w):=by
 have hx1:=hx.2.1;have hN:x.works.l.length=x.works.n:=hx1.1.1;have hN2:x.works.n≤200:=by have:=hok.wo.len;omega
 obtain⟨W1,hW1⟩:∃ Y,w.alloc (.cells #[.slice x.workers.A x.workers.n x.workers.cap,.slice x.works.A x.works.n x.works.cap,.slice x.lost.A x.lost.n x.lost.cap,.int .i64 x.tries,.bool x.doubles] 26)=Y:=⟨_,rfl⟩;obtain⟨xb,hxb⟩:∃ b,w.heap.size=b:=⟨_,rfl⟩;have hba:Below w.heap.size w W1:=by rw[← hW1];exact(Below.refl _ _).alloc (Nat.le_refl _) _
 have c0:W1.cell? ⟨xb,0,none⟩=some (.slice x.workers.A x.workers.n x.workers.cap):=by rw[← hW1,← hxb];exact cell_new _ _ _ 0
 have c1:W1.cell? ⟨xb,1,none⟩=some (.slice x.works.A x.works.n x.works.cap):=by rw[← hW1,← hxb];exact cell_new _ _ _ 1
 have c2:W1.cell? ⟨xb,2,none⟩=some (.slice x.lost.A x.lost.n x.lost.cap):=by rw[← hW1,← hxb];exact cell_new _ _ _ 2
 have c3:W1.cell? ⟨xb,3,none⟩=some (.int .i64 x.tries):=by rw[← hW1,← hxb];exact cell_new _ _ _ 3
 have c4:W1.cell? ⟨xb,4,none⟩=some (.bool x.doubles):=by rw[← hW1,← hxb];exact cell_new _ _ _ 4
 obtain⟨N,hNe⟩:∃ n,x.works.n=n:=⟨_,rfl⟩;obtain⟨Z,hZ⟩:∃ Z,FwAns x w=Z:=⟨_,rfl⟩;rw[hZ];have hlt:xb<W1.heap.size:=cell?_lt c0;have hS0:(fun w':World=>w'.cell? ⟨xb,0,none⟩=some (.slice x.workers.A x.workers.n x.workers.cap)∧w'.cell? ⟨xb,1,none⟩=some (.slice x.works.A N x.works.cap)∧w'.cell? ⟨xb,2,none⟩=some (.slice x.lost.A x.lost.n x.lost.cap)∧w'.cell? ⟨xb,3,none⟩=some (.int .i64 x.tries)∧w'.cell? ⟨xb,4,none⟩=some (.bool x.doubles)) W1:=⟨c0,by rw[← hNe];exact c1,c2,c3,c4⟩;obtain⟨hZH,hxH,hx1H,hokH,hNH,hN2H,hW1H,hxbH,hbaH,hltH,hS0H,hNeH⟩:=hq2 hZ (hq2 hx (hq2 hx1 (hqc hok hN hN2 hW1 hxb hba hlt hS0 (Lib.hid hNe))));clear hZ hx hx1 hok hN hN2 hW1 hxb hba hlt hS0 hNe;go_enter Tryz.func33,Tryz.ntmps33;go_wp2_with fail;rw[hW1H.out,hxbH.out,hNeH.out];clear c0 c1 c2 c3 c4;refine wp_region_held_drew (S:=fun w':World=>w'.cell? ⟨xb,0,none⟩=some (.slice x.workers.A x.workers.n x.workers.cap)∧w'.cell? ⟨xb,1,none⟩=some (.slice x.works.A N x.works.cap)∧w'.cell? ⟨xb,2,none⟩=some (.slice x.lost.A x.lost.n x.lost.cap)∧w'.cell? ⟨xb,3,none⟩=some (.int .i64 x.tries)∧w'.cell? ⟨xb,4,none⟩=some (.bool x.doubles)) (by kernel_rfl) hS0H.out (fun hHeld=>?_);refine tkS [(0,6),(1,7),(2,8)] ?_;(iterate 3 (refine tkL ?_ ?_ ?_;rotate_left;(· intro w hSw;(try dsimp only at hSw);go_simp;(try with_reducible rfl));(try simp only[Act.put,tkA,tkB,tkC])));refine tkE ?_;refine tkS [(4,10),(5,11),(6,12)] ?_;(iterate 3 (refine tkL ?_ ?_ ?_;rotate_left;(· intro w hSw;(try dsimp only at hSw);go_simp;(try with_reducible rfl));(try simp only[Act.put,tkA,tkB,tkC])));refine tkE ?_
 refine tkS [(8,14),(9,15),(10,16)] ?_;(iterate 3 (refine tkL ?_ ?_ ?_;rotate_left;(· intro w hSw;(try dsimp only at hSw);go_simp;(try with_reducible rfl));(try simp only[Act.put,tkA,tkB,tkC])));refine tkE ?_;have hkS:∀ W W':World,Below W.heap.size W W'→(W.cell? ⟨xb,0,none⟩=some (.slice x.workers.A x.workers.n x.workers.cap)∧W.cell? ⟨xb,1,none⟩=some (.slice x.works.A N x.works.cap)∧W.cell? ⟨xb,2,none⟩=some (.slice x.lost.A x.lost.n x.lost.cap)∧W.cell? ⟨xb,3,none⟩=some (.int .i64 x.tries)∧W.cell? ⟨xb,4,none⟩=some (.bool x.doubles)) →
   (W'.cell? ⟨xb,0,none⟩=some (.slice x.workers.A x.workers.n x.workers.cap)∧W'.cell? ⟨xb,1,none⟩=some (.slice x.works.A N x.works.cap)∧W'.cell? ⟨xb,2,none⟩=some (.slice x.lost.A x.lost.n x.lost.cap)∧W'.cell? ⟨xb,3,none⟩=some (.int .i64 x.tries)∧W'.cell? ⟨xb,4,none⟩=some (.bool x.doubles)) :=
  fun W W' hb h=>⟨keepC hb h.1,keepC hb h.2.1,keepC hb h.2.2.1,keepC hb h.2.2.2.1,keepC hb h.2.2.2.2⟩
 change wpAnyH _ _ _ _ _ 6 (L3b false false false) _ _
 refine pool3 (FJ x xb N w) _ rfl ?hR _ ?hJ hHeld ?H0 ?h3 ?h7 ?h11
 case hR=>intro b3 b7 b11;cases b3 <;> cases b7 <;> cases b11 <;> kernel_rfl
 case hJ=>exact⟨hbaH.out.trans (Below.refl _ _).drew,hltH.out,(fun v e=>by cases e),(fun v e=>by cases e),(fun v e=>by cases e),(fun v v' b e=>by cases e),(fun v v' b e=>by cases e),(fun v v' b e=>by cases e)⟩
 case H0 =>
  intro v3 v7 v11 wr hJ hS;have hk3:=hJ.k3 v3 rfl;have hk7:=hJ.k7 v7 rfl;have hk11:=hJ.k11 v11 rfl;obtain⟨A3,c3,S3,M3,hv3,_⟩:=hk3;obtain⟨db,hv7,_⟩:=hk7;obtain⟨lb,hv11,_⟩:=hk11;subst hv3 hv7 hv11;simp only[putO,pvO,Option.getD,Act.put,List.setIfInBounds_toArray,List.set_cons_zero,List.set_cons_succ];obtain⟨hJH,hkSH⟩:=hq2 hJ (Lib.hid hkS);clear hJ hkS;refine wpAnyH_ready (rs:=[12]) (by kernel_rfl) (by simp) ?_;refine AllReadyH.cons (i:=12) rfl (fun K hK=>?_) AllReadyH.nil;go_simp;refine hK.out _ _ hS (fun hHeld=>?_);clear hK K
  (try simp only[Act.put,tkA,tkB,tkC])
  refine wpAnyH_ready (rs:=[13]) (by kernel_rfl) (by simp) ?_;refine AllReadyH.cons (i:=13) rfl (fun K hK=>?_) AllReadyH.nil;go_simp;refine hK.out _ _ (hkSH.out _ _ ((Below.refl _ _).alloc (Nat.le_refl _) _) hHeld) (fun hHeld=>?_);clear hK K
  (try simp only[Act.put,tkA,tkB,tkC])
  refine wpAnyH_ready (rs:=[14]) (by kernel_rfl) (by simp) ?_;refine AllReadyH.cons (i:=14) rfl (fun K hK=>?_) AllReadyH.nil;go_simp;refine hK.out _ _ hHeld (fun hHeld=>?_);clear hK K
  (try simp only[Act.put,tkA,tkB,tkC])
  refine wpAnyH_done (by kernel_rfl) ?_ _;obtain⟨X,hXx,hXf,hXF,hSX,hFi,hA9⟩:=follow_lays hJH.out hxbH.out hNeH.out hokH.out hxH.out;obtain⟨W9,hW9⟩:∃ Y,(wr.alloc (.cells #[.slice x.workers.A x.workers.n x.workers.cap,.slice x.works.A N x.works.cap,.slice x.lost.A x.lost.n x.lost.cap,.int .i64 x.tries,.bool x.doubles,.slice A3 N c3,.int .i64 0,.slice none 0 0,.slice (some ⟨db,0,none⟩) N N,.slice (some ⟨lb,0,none⟩) N N] 63))=Y:=⟨_,rfl⟩;rw[hW9]at hA9;have hst:FoRel X w W9:=⟨_,q0,hA9,inv0 hFi,by decide,fun q' h=>h⟩;obtain⟨f,hf⟩:∃ f,wr.heap.size=f:=⟨_,rfl⟩;rw[hf]at hXf;have hordl:∀ i∈X.F.order,i<X.x.works.l.length:=fun i hi=>by rw[← hSX.nX];exact hFi.lt i hi
  rw[hW9,hf];clear hHeld hS hkSH hJH;subst hXf;obtain⟨hXxH,hXFH,hSXH,hFiH,hW9H,hstH,hordlH,hfH,hA9H⟩:=hqc hXx hXF hSX hFi hW9 hst hordl hf (Lib.hid hA9);clear hXx hXF hSX hFi hW9 hst hordl hf hA9;go_wp2_with fail
  go_loopw [] (fun wr=>FoRel X w wr) (fun wr=>leftQ X.f wr)
  case atStart=>exact hstH.out
  case round =>
   clear hstH;obtain⟨rv,q,hA,hI,hat,hT⟩:=hrel;have hleft:=leftQ_of (hA.blk 6 _ rfl).1;obtain⟨m1,m2,m3,m4⟩:=moment hFiH.out hI;obtain⟨k1,k2,k3⟩:=known hSXH.out hFiH.out hI hat;have hfin:=rfinish_any hA hSXH.out k1 (fun k=>(hI.two k).2) k2;obtain⟨hAH,hIH,hTH,hleftH,m1H,m2H,m3H,m4H,hfinH,k1H,k2H,k3H⟩:=hq2 hA (hq2 hI (hq2 hT (hqc hleft m1 m2 m3 m4 hfin k1 k2 (Lib.hid k3))));clear hA hI hT hleft m1 m2 m3 m4 hfin k1 k2 k3;go_wp2_with fail;go_at_call 76;refine hfinH.out.mono ?_;rintro e w1 ⟨rfl,hA1⟩;obtain⟨k1,k2,k3⟩:=known hSXH.out hFiH.out m1H.out hat;have hlo:=rlose_any hA1 hSXH.out k1 k3;clear hfinH hA1;obtain⟨hloH,k1H,k2H,k3H⟩:=hq2 hlo (hq2 k1 (hq2 k2 (Lib.hid k3)));clear hlo k1 k2 k3;go_wp2_with fail;go_at_call 77;refine hloH.out.mono ?_;rintro e w2 ⟨rfl,hA2⟩;obtain⟨k1,k2,k3⟩:=known hSXH.out hFiH.out m3H.out hat;have hsta:=rbeginAll_any hA2 hSXH.out k1 hordlH.out;clear hloH hA2;obtain⟨hstaH,k1H,k2H,k3H⟩:=hq2 hsta (hq2 k1 (hq2 k2 (Lib.hid k3)));clear hsta k1 k2 k3;go_wp2_with fail;go_at_call 78;refine hstaH.out.mono ?_;rintro e w3 ⟨rfl,rv3,hA3⟩;obtain⟨k4,k5,k6⟩:=known hSXH.out hFiH.out m4H.out (by rw[at_step];exact hat);have hdb:=rdoubleAll_any hA3 hSXH.out k1H.out k4 k5;clear hstaH hA3;obtain⟨hdbH,k4H,k5H,k6H⟩:=hq2 hdb (hq2 k4 (hq2 k5 (Lib.hid k6)));clear hdb k4 k5 k6;go_wp2_with fail;go_at_call 79;refine hdbH.out.mono ?_
   rintro e w4 ⟨rfl,rv4,hA4⟩;have hA4:QA X rv4 (stepQ X.F q) w w4:=hA4;have hnx:=rnext_any hA4 hSXH.out k4H.out k5H.out;clear hdbH;obtain⟨hA4H,hnxH⟩:=hq2 hA4 (Lib.hid hnx);clear hA4 hnx;go_wp2_with fail;go_at_call 80;refine hnxH.out.mono ?_;rintro e w5 ⟨rfl,hA5⟩
   cases hnq:nextQ X.F (stepQ X.F q) with
   | none =>
    have R:Z (.returned (.pointer (some ⟨X.f,0,none⟩))) w5:=by
     rw[← hZH.out];have:=hTH.out _ (.last _ hnq);rw[hXFH.out]at this hA5;exact⟨X,rv4,_,rfl,hXxH.out,hXFH.out,hSXH.out,by rw[hXFH.out]at *;exact hA5,this,by have:=k4H.out;rw[hXFH.out]at this;exact this,_,_,by have:=m4H.out;rw[hXFH.out]at this;exact this⟩
    clear hA5;simp only[Option.getD_none,Option.isSome_none];obtain⟨RH,hnqH⟩:=hq2 R (Lib.hid hnq);clear R hnq;go_wp2;exact RH.out
   | some n =>
    have hB:Bnd X.F 1000000000 1000000:=by rw[hXFH.out];exact bnd_of hokH.out _
    obtain⟨b1,b2⟩:=next_bnd hFiH.out hB (q:=stepQ X.F q) (by rw[at_step];exact m4H.out) hnq;have hI4:Inv X.F (n-1) n { stepQ X.F q with at_:=n }:=Inv.at (q:=stepQ X.F q) (by rw[at_step];exact m4H.out) hnq;rw[at_step]at b1;have hA6:=hA5.setAt n;have R:FoRel X w (w5.setCell ⟨X.f,6,none⟩ (.int .i64 n)):=⟨rv4,{ stepQ X.F q with at_:=n },hA6,hI4,by show n≤1002000000;omega,fun q' h=>hTH.out q' (.more _ _ _ hnq h)⟩;have hl6:=leftQ_of (hA6.blk 6 _ rfl).1;have hfr6:=(hA5.blk 6 _ rfl).2;have c6:=(hA5.blk 6 _ rfl).1;have hdec:leftQ X.f (w5.setCell ⟨X.f,6,none⟩ (.int .i64 n))<leftQ X.f wr:=by
     rw[hl6,hleftH.out];show (1002000001-n).toNat<(1002000001-q.at_).toNat;omega
    clear hA5 hA6 hl6;simp only[Option.getD_some,Option.isSome_some];obtain⟨RH,hnqH,hI4H,hBH,hdecH⟩:=hqb R hnq hI4 hB (Lib.hid hdec);clear R hnq hI4 hB hdec;go_wp2;refine⟨?rel,?measure⟩
    case measure=>exact hdecH.out
    case rel=>first | exact RH.out | exact⟨rfl,RH.out⟩
 case h3 =>
  intro y z wr hJ hS;have hl:=hx1H.out.1.below hJ.bel;rw[hNeH.out]at hl;have hcr:=rranked_any x.works.A N x.works.cap x.works.l wr hl hokH.out.wo;refine⟨_,rfl,fun K hK=>?_⟩;have hKH:=Lib.hid hK;clear hK hl;obtain⟨hJH,hSH,hkSH⟩:=hq2 hJ (hq2 hS (Lib.hid hkS));clear hJ hS hkS;simp only[putO,Act.put,List.setIfInBounds_toArray,List.set_cons_zero,List.set_cons_succ];go_simp;go_at_call 75;refine hcr.mono ?_;rintro e w2 ⟨A',c',S',M,rfl,q1,q2,q3,q4,q5⟩;exact hKH.out.out _ w2 (hJH.out.put3 q5 q1 ⟨q2,q3,q4⟩) (hkSH.out _ _ q5 hSH.out)
 case h7 =>
  intro u z wr hJ hS;have hm:=run_makeB N (by have:=hN2H.out;have:=hNeH.out;omega);have hb7:=(Below.refl wr.heap.size wr).alloc (Nat.le_refl _) (.cells (madeB N) 4);have hS7:=hkS wr _ hb7 hS;have hJ7:=hJ.put7 hb7 (by simp) (BRow.made _ _);refine⟨_,rfl,fun K hK=>?_⟩;have hKH:=Lib.hid hK;clear hK hkS;obtain⟨hJH,hSH,hb7H,hS7H,hJ7H⟩:=hqb hJ hS hb7 hS7 (Lib.hid hJ7);clear hJ hS hb7 hS7 hJ7;simp only[putO,Act.put,List.setIfInBounds_toArray,List.set_cons_zero,List.set_cons_succ];go_simp;exact hKH.out.out _ _ hJ7H.out hS7H.out
 case h11 =>
  intro u y wr hJ hS;have hm:=run_makeInts N (by have:=hN2H.out;have:=hNeH.out;omega);have hb7:=(Below.refl wr.heap.size wr).alloc (Nat.le_refl _) (.cells (madeI N) 3);have hS7:=hkS wr _ hb7 hS;have hJ7:=hJ.put11 hb7 (by simp) (irow_madeQ _ _);refine⟨_,rfl,fun K hK=>?_⟩;have hKH:=Lib.hid hK;clear hK hkS;obtain⟨hJH,hSH,hb7H,hS7H,hJ7H⟩:=hqb hJ hS hb7 hS7 (Lib.hid hJ7);clear hJ hS hb7 hS7 hJ7;simp only[putO,Act.put,List.setIfInBounds_toArray,List.set_cons_zero,List.set_cons_succ];go_simp;exact hKH.out.out _ _ hJ7H.out hS7H.out
theorem runLt_iff (a b:Run):runLt a b=true↔a.from_<b.from_∨(a.from_=b.from_∧(cmpS a.id_ b.id_ = -1∨(a.id_=b.id_∧cmpS a.worker b.worker = -1))):=by
 unfold runLt
 by_cases h1:a.from_=b.from_
 ·rw[if_pos h1]
  by_cases h2:a.id_=b.id_
  ·rw[if_pos h2,ltS_cmp,decide_eq_true_iff]
   constructor
   ·exact fun h=>.inr ⟨h1,.inr ⟨h2,h⟩⟩
   ·rintro(h | ⟨_,h | ⟨_,h⟩⟩)
    ·omega
    ·rw[h2,(cmpS_zero _ _).2 rfl]at h;omega
    ·exact h
  ·rw[if_neg h2,ltS_cmp,decide_eq_true_iff]
   constructor
   ·exact fun h=>.inr ⟨h1,.inl h⟩
   ·rintro(h | ⟨_,h | ⟨h,_⟩⟩)
    ·omega
    ·exact h
    ·exact absurd h h2
 ·rw[if_neg h1,decide_eq_true_iff]
  constructor
  ·exact fun h=>.inl h
  ·rintro(h | ⟨h,_⟩)
   ·exact h
   ·exact absurd h h1
theorem runLt_trans (a b c:Run) (h1:runLt a b=true) (h2:runLt b c=true):runLt a c=true:=by
 rw[runLt_iff]at *
 rcases h1 with h1 | ⟨e1,h1⟩
 ·rcases h2 with h2 | ⟨e2,h2⟩ <;> exact .inl (by omega)
 ·rcases h2 with h2 | ⟨e2,h2⟩
  ·exact .inl (by omega)
  ·refine .inr ⟨by omega,?_⟩
   rcases h1 with h1 | ⟨f1,h1⟩
   ·rcases h2 with h2 | ⟨f2,h2⟩
    ·exact .inl (cmpS_trans h1 h2)
    ·exact .inl (by rw[← f2];exact h1)
   ·rcases h2 with h2 | ⟨f2,h2⟩
    ·exact .inl (by rw[f1];exact h2)
    ·exact .inr ⟨by rw[f1,f2],cmpS_trans h1 h2⟩
theorem runLt_asym (a b:Run) (h1:runLt a b=true) (h2:runLt b a=true):False:=by
 have h:=runLt_trans a b a h1 h2;rw[runLt_iff]at h
 rcases h with h | ⟨_,h | ⟨_,h⟩⟩
 ·omega
 ·rw[(cmpS_zero _ _).2 rfl]at h;omega
 ·rw[(cmpS_zero _ _).2 rfl]at h;omega
def keyNe (a b:Run):Prop:=¬ (a.from_=b.from_∧a.id_=b.id_∧a.worker=b.worker)
theorem runLt_else {a b:Run} (h:runLt a b=false) (hne:keyNe a b):runLt b a=true :=
 runLt_of (runCmp_le h) (fun e=>hne ⟨e.1.symm,e.2.1.symm,e.2.2.symm⟩)
theorem keys_of {x:Farm} (hok:FarmOk x) {q:QS} (hn:Named (fpx x) q.runs) (hd:q.runs.Pairwise fun a b=>¬ (a.from_=b.from_∧a.work=b.work∧a.worker=b.worker)):(q.runs.map (toRun x)).Pairwise keyNe:=by
 rw[List.pairwise_map];refine hd.imp_of_mem fun {a b} ha hb h e=>h ⟨e.1,?_,?_⟩
 ·exact idInj hok (hn a ha).2 (hn b hb).2 e.2.1
 ·exact nmInj hok (hn a ha).1 (hn b hb).1 e.2.2
structure InsO (R:List Run) (k:Nat) (O:List Run):Prop where
 perm:O.Perm (R.take k)
 sort:O.Pairwise fun a b=>runLt a b=true
theorem InsO.put {R O:List Run} {k a:Nat} {x:Run} (h:InsO R k O) (hx:R[k]? = some x) (hR:R.Pairwise keyNe) (ha:a≤O.length) (h1:∀ y∈O.drop a,runLt x y=true) (h2:∀ y,0<a→O[a-1]? = some y→runLt x y=false):InsO R (k+1) (O.take a++x::O.drop a):=by
 refine⟨?_,ins_sortedQ (lt:=fun a b=>runLt a b=true) runLt_trans h.sort ha h1 (fun y hp hy=>?_)⟩
 ·rw[List.take_add_one,hx,Option.toList_some];exact ins_permQ h.perm
 ·refine runLt_else (h2 y hp hy) ?_;have hm:y∈R.take k:=h.perm.mem_iff.1 (List.mem_of_getElem? hy);obtain⟨j,hj⟩:=List.getElem?_of_mem hm;rw[List.getElem?_take]at hj
  by_cases hjk:j<k
  ·rw[if_pos hjk]at hj;obtain⟨j1,j2⟩:=List.getElem?_eq_some_iff.1 hj;obtain⟨k1,k2⟩:=List.getElem?_eq_some_iff.1 hx;have:=List.pairwise_iff_getElem.1 hR j k j1 k1 hjk;rw[j2,k2]at this;exact fun e=>this ⟨e.1.symm,e.2.1.symm,e.2.2.symm⟩
  ·rw[if_neg hjk]at hj;cases hj
theorem same_play {x:Farm} {q:QS} {L:List RR} {O:List Run} (hD:Done x q L) (hO:InsO (q.runs.map (toRun x)) q.runs.length O):O=L.map (toRun x):=by
 refine strict_uniq (lt:=fun a b=>runLt a b=true) runLt_asym ?_ hO.sort hD.lt_run;have h1:=hO.perm;rw[List.take_of_length_le (by rw[List.length_map];exact Nat.le_refl _)]at h1;exact h1.trans (hD.perm.map _).symm
end Go.Proofs.YtbnkoefljcekbaaGreatDoor.C9
namespace Go.Proofs.YtbnkoefljcekbaaGreatDoor.C9
open Go.ChangeShapes Go.WideShapes Go.Deep Go.RowKit
theorem rfarm_any (x:Farm) (w:World) (hx:RFarm.ok w x) (c:Int) (hF:farmF x=c) :
  Calls Tryz.prog 13 #[farmV x] w (CfAns c w):=by
 obtain⟨hx0,hx1,hx2,hx3,hx4⟩:=hx;unfold farmV;obtain⟨Z,hZ⟩:∃ Z,CfAns c w=Z:=⟨_,rfl⟩;have hZ':∀ W,Below w.heap.size w W→Z (.returned (.int .i64 c)) W:=fun W h=>by rw[← hZ];exact⟨rfl,h⟩
 rw[hZ];clear hZ;unfold farmF at hF;obtain⟨⟨wA,wn,wc,wsl⟩,⟨xA,xn,xc,xsl⟩,⟨lA,ln,lc,lsl⟩,tr,db⟩:=x;simp only at hx0 hx1 hx2 hx3 hx4 hF ⊢;obtain⟨W1,hW1⟩:∃ Y,w.alloc (.cells #[.slice wA wn wc,.slice xA xn xc,.slice lA ln lc,.int .i64 tr,.bool db] 26)=Y:=⟨_,rfl⟩;obtain⟨xb,hxb⟩:∃ b,w.heap.size=b:=⟨_,rfl⟩;have hba:Below w.heap.size w W1:=by rw[← hW1];exact(Below.refl _ _).alloc (Nat.le_refl _) _
 have c0:W1.cell? ⟨xb,0,none⟩=some (.slice wA wn wc):=by rw[← hW1,← hxb];exact cell_new _ _ _ 0
 have c1:W1.cell? ⟨xb,1,none⟩=some (.slice xA xn xc):=by rw[← hW1,← hxb];exact cell_new _ _ _ 1
 have c2:W1.cell? ⟨xb,2,none⟩=some (.slice lA ln lc):=by rw[← hW1,← hxb];exact cell_new _ _ _ 2
 have c3:W1.cell? ⟨xb,3,none⟩=some (.int .i64 tr):=by rw[← hW1,← hxb];exact cell_new _ _ _ 3
 have hw1:SlAt RWorker W1 wA wn wsl:=hx0.1.below hba;have hw2:SlAt RWork W1 xA xn xsl:=hx1.1.below hba;have hw3:SlAt RLoss W1 lA ln lsl:=hx2.1.below hba;have hm2:ln≤lc∧lc≤maxLen:=⟨hx2.2.1,hx2.2.2.1⟩;have hC:∀ W,Below W1.heap.size W1 W→W.cell? ⟨xb,2,none⟩=some (.slice lA ln lc)∧W.cell? ⟨xb,0,none⟩=some (.slice wA wn wc)∧W.cell? ⟨xb,3,none⟩=some (.int .i64 tr):=fun W h=>⟨keepC h c2,keepC h c0,keepC h c3⟩;have hll:lsl.length=ln:=hw3.1;have hwl:wsl.length=wn:=hw1.1;obtain⟨f1,hf1⟩:∃ f,workersF wsl=f:=⟨_,rfl⟩;obtain⟨f2,hf2⟩:∃ f,worksF xsl=f:=⟨_,rfl⟩;rw[hf1,hf2]at hF;have RZ:∀ W,Below W1.heap.size W1 W→Z (.returned (.int .i64 c)) W:=fun W h=>hZ' W (hba.trans (h.mono hba.size));obtain⟨hCH,hZ'H,hx0H,hx1H,hx2H,hx3H,hx4H,hW1H,hxbH,hbaH,hw1H,hw2H,hw3H,hFH,hf1H,hf2H,hllH,hwlH,RZH⟩:=hq2 hC (hq2 hZ' (hqc hx0 hx1 hx2 hx3 hx4 hW1 hxb hba (hqc hw1 hw2 hw3 hF hf1 hf2 hll hwl (Lib.hid RZ))));clear hC hZ' hx0 hx1 hx2 hx3 hx4 hW1 hxb hba hw1 hw2 hw3 hF hf1 hf2 hll hwl RZ;go_enter Tryz.func13,Tryz.ntmps13;go_wp2_with fail;rw[hW1H.out,hxbH.out];refine(rworkers_any wA wn wc wsl _ hw1H.out f1 hf1H.out).mono ?_;rintro e w1 ⟨rfl,hb1⟩;have c0:=keepC hb1 c0;have c1:=keepC hb1 c1;have c2:=keepC hb1 c2;have c3:=keepC hb1 c3;have hF:=hFH.out;clear hFH
 by_cases h1:f1=0
 ·subst h1;rw[if_pos rfl]at hF;obtain⟨hb1H,hFH⟩:=hq2 hb1 (Lib.hid hF);clear hb1 hF;go_wp2_with fail;refine(rworks_any xA xn xc xsl _ (hw2H.out.below hb1H.out) f2 hf2H.out).mono ?_;rintro e w2 ⟨rfl,hb2⟩;have c0:=keepC hb2 c0;have c2:=keepC hb2 c2;have c3:=keepC hb2 c3;have hb2:=hb1H.out.trans (hb2.mono hb1H.out.size);have hF:=hFH.out;clear hFH
  by_cases h2:f2=0
  ·subst h2;rw[if_pos rfl,hllH.out]at hF
   by_cases h3:ln≤200
   ·rw[if_pos h3]at hF;obtain⟨d,hd⟩:∃ d,lossErr wsl none lsl=d:=⟨_,rfl⟩;rw[hd]at hF;have hst:LosRel wsl lsl d W1 (.int .i64 0) w2:=⟨0,Nat.zero_le _,rfl,hd,hb2⟩;have hrise:wsl.length≤50∧wsl.Pairwise fun a b=>cmpS a.name b.name = -1:=by
     have h:=hf1H.out;unfold workersF at h
     by_cases h6:wsl.length≤50
     ·rw[if_pos h6]at h;exact⟨h6,(workersErr_ok _ _ h).2.1⟩
     ·rw[if_neg h6]at h;exact absurd h (by decide)
    have he5:(5:Int)=d→c=5:=fun e=>by rw[← e,if_neg (by decide)]at hF;exact hF.symm
    have he1:(1:Int)=d→c=1:=fun e=>by rw[← e,if_neg (by decide)]at hF;exact hF.symm
    have he8:(8:Int)=d→c=8:=fun e=>by rw[← e,if_neg (by decide)]at hF;exact hF.symm
    have he0:(0:Int)=d→(if inR 1 10 tr=true then 0 else 1)=c:=fun e=>by rw[← e,if_pos rfl]at hF;exact hF
    clear hF;obtain⟨hb2H,hstH,hdH,hriseH,he5H,he1H,he8H,he0H⟩:=hq2 hb2 (hq2 hst (hq2 hd (hqb hrise he5 he1 he8 (Lib.hid he0))));clear hb2 hst hd hrise he5 he1 he8 he0;go_wp2_with fail;clear c0 c1 c2 c3
    go_loopw [26] (fun i w5=>LosRel wsl lsl d W1 i w5) (fun i _=>ln-(intOf i).toNat)
    case atStart=>exact hstH.out
    case round =>
     clear hstH;obtain⟨k,hk,rfl,hck,hb⟩:=hrel;have hkl:k≤ln:=by have:=hllH.out;omega
     have hbs:=hb.size;obtain⟨c2,c0,c3⟩:=hCH.out wr hb
     by_cases hlt:k<ln
     ·have hsl:=hw3H.out.below hb;obtain⟨bl,ol,hA9,_⟩:=hsl.2.1 (by omega);subst hA9;obtain⟨y,hy⟩:∃ y,lsl[k]? = some y:=⟨lsl[k]'(by have:=hllH.out;omega),List.getElem?_eq_getElem _⟩;obtain⟨d0,d1⟩:=cells_Loss hsl hy;have hok:=hsl.2.2 y (List.mem_of_getElem? hy);rw[drop_lo hy,lossErr]at hck;have hkl2:k+1≤lsl.length:=by have:=hllH.out;omega
      have hpn:prevLo lsl (k+1)=some y:=by rw[prevLo,if_neg (by omega),show k+1-1=k from rfl,hy]
      obtain⟨nm,mt⟩:=y;simp only at d0 d1 hck;have hba:=hb.alloc hbs (.cells #[.string nm,.int .i64 mt] 71);have hbas:=hba.size;have c0a:=keepC ((Below.refl wr.heap.size wr).alloc (Nat.le_refl _) (.cells #[.string nm,.int .i64 mt] 71)) c0;have hwk:=(hw1H.out.below hba);have n5:hasNm wsl nm=false→c=5:=fun h=>he5H.out (by rw[h]at hck;rw[if_neg (by decide)]at hck;exact hck);obtain⟨hn,hhn⟩:∃ b,hasNm wsl nm=b:=⟨_,rfl⟩;rw[hhn]at n5;obtain⟨hyH,hckH,hbH,hbaH,hbasH,hokH,hpnH,hkl2H,hwkH,hslH,n5H,hhnH⟩:=hq2 hy (hq2 hck (hq2 hb (hqc hba hbas hok hpn hkl2 hwk hsl n5 (Lib.hid hhn))));clear hy hck hb hba hbas hok hpn hkl2 hwk hsl n5 hhn;go_wp2_with fail;refine(workerOf_any wA wn wc wsl nm _ (by have:=hriseH.out.1;have:=hwlH.out;omega) hwkH.out).mono ?_;rintro e w4 ⟨rfl,hw4⟩;have hwf:wkF wsl nm=if hn=true then ((ixNm wsl nm:Nat):Int) else -1:=by unfold wkF;rw[hhnH.out]
      rw[hwf];have q0:w4.cell? ⟨wr.heap.size,0,none⟩=some (.string nm):=(hw4.cell (by simp)).trans (cell_new _ _ _ 0);have q1:w4.cell? ⟨wr.heap.size,1,none⟩=some (.int .i64 mt):=(hw4.cell (by simp)).trans (cell_new _ _ _ 1);have hb4:=hbaH.out.trans (hw4.mono hbasH.out);clear c0 c0a c2 c3 d0 d1;have c2:=(hCH.out w4 hb4).1
      cases hn
      ·obtain rfl:=n5H.out rfl;have R:=RZH.out _ hb4;rw[if_neg (by decide)];clear hwf;obtain⟨RH,hb4H,hw4H⟩:=hq2 R (hq2 hb4 (Lib.hid hw4));clear R hb4 hw4;go_wp2;exact RH.out
      ·have hck:=hckH.out;clear hckH;rw[if_pos hhnH.out]at hck;rw[if_pos rfl];clear hwf;obtain⟨ixn,hixn⟩:∃ v,ixNm wsl nm=v:=⟨_,rfl⟩;rw[hixn];have dix:decide ((ixn:Int)<0)=false:=decide_eq_false (by omega);clear hixn
       by_cases i1:inR 0 1000000000 mt=true
       ·rw[if_pos i1]at hck
        by_cases hk0:k=0
        ·subst hk0;have R:∀ nq,LosRel wsl lsl d W1 (.int .i64 1) (w4.drewN nq):=by
          refine fun nq=>⟨1,hkl2H.out,by go_num,?_,bel_drewN hb4 nq⟩;rw[prevLo,if_pos rfl,Option.map_none,if_neg (by decide)]at hck;rw[show prevLo lsl 1=_ from hpnH.out];exact hck
         obtain⟨RH,hckH,hb4H,hw4H⟩:=hq2 R (hq2 hck (hq2 hb4 (Lib.hid hw4)));clear R hck hb4 hw4;go_wp2_with (go_at_call 47;refine(within_r _ _ _ _).mono ?_;rintro e wz ⟨rfl,rfl⟩)
         go_quiet (fail)
         go_wp2;refine⟨?rel,?measure⟩
         case measure=>(simp[intOf];omega)
         case rel=>first | exact(RH.out _) | exact⟨rfl,(RH.out _)⟩
        ·obtain⟨j,rfl⟩:∃ j,k=j+1:=⟨k-1,by omega⟩;obtain⟨y,hy⟩:∃ y,lsl[j]? = some y:=⟨lsl[j]'(by have:=hllH.out;omega),List.getElem?_eq_getElem _⟩;obtain⟨d0,d1⟩:=cells_Loss (hw3H.out.below hb4) hy;have hpr:prevLo lsl (j+1)=some y:=by rw[prevLo,if_neg (by omega),show j+1-1=j from rfl,hy]
         rw[hpr,Option.map_some]at hck;clear hpr;obtain⟨ynm,ymt⟩:=y;simp only at d0 d1;have f0:(0:Int)≤(j:Int):=by omega
         have f1:(j:Int)<(ln:Int):=by omega
         have hln2:ln≤200:=h3;have f2:IntKind.i64.wrap ((j:Int)+1-1)=(j:Int):=by rw[show (j:Int)+1-1=(j:Int) by omega];exact IntWalk.i64_in _ (by omega)
         have f3:(j:Int).toNat=j:=by omega
         have f4:IntKind.i64.wrap (j:Int)=(j:Int):=IntWalk.i64_in _ (by omega);have f5:IntKind.i64.wrap (((j+1:Nat):Int)-1)=(j:Int):=by rw[show ((j+1:Nat):Int)-1=(j:Int) by omega];exact f4
         have hLE:lossLe ⟨nm,mt⟩ ⟨ynm,ymt⟩=(decide (mt<ymt)||(decide (mt=ymt)&&sle nm ynm)):=rfl;rw[hLE]at hck;clear hLE
         by_cases hA:mt<ymt
         ·have dA:decide (mt<ymt)=true:=decide_eq_true hA;rw[dA,Bool.true_or,if_pos rfl]at hck;obtain rfl:=he8H.out hck;have R:∀ nq,Z (.returned (.int .i64 8)) (w4.drewN nq):=fun nq=>RZH.out _ (bel_drewN hb4 nq);obtain⟨hckH,hb4H,hw4H,RH,hyH⟩:=hqb hck hb4 hw4 R (Lib.hid hy);clear hck hb4 hw4 R hy;go_wp2_with (go_at_call 47;refine(within_r _ _ _ _).mono ?_;rintro e wz ⟨rfl,rfl⟩)
          go_quiet (fail)
          go_wp2;exact RH.out _
         ·have dA:decide (mt<ymt)=false:=decide_eq_false hA;rw[dA,Bool.false_or]at hck
          by_cases hB:mt=ymt
          ·have dB:(mt==ymt)=true:=by simpa using hB
           rw[decide_eq_true hB,Bool.true_and]at hck
           cases hle:sle nm ynm
           ·have hle':(Op.bytesLess nm.toList ynm.toList||nm.toList==ynm.toList)=false:=hle;rw[hle,if_neg (by decide)]at hck;have R:∀ nq,LosRel wsl lsl d W1 (.int .i64 (j+1+1)) (w4.drewN nq):=by
             refine fun nq=>⟨j+1+1,hkl2H.out,by go_num,?_,bel_drewN hb4 nq⟩;rw[hpnH.out];exact hck
            clear hB;obtain⟨hckH,hleH,hb4H,hw4H,RH,hyH⟩:=hq2 hck (hqb hle hb4 hw4 R (Lib.hid hy));clear hck hle hb4 hw4 R hy;go_wp2_with (go_at_call 47;refine(within_r _ _ _ _).mono ?_;rintro e wz ⟨rfl,rfl⟩)
            go_quiet (fail)
            go_wp2;refine⟨?rel,?measure⟩
            case measure=>(simp[intOf];omega)
            case rel=>first | exact(RH.out _) | exact⟨rfl,(RH.out _)⟩
           ·have hle':(Op.bytesLess nm.toList ynm.toList||nm.toList==ynm.toList)=true:=hle;rw[hle,if_pos rfl]at hck;obtain rfl:=he8H.out hck;have R:∀ nq,Z (.returned (.int .i64 8)) (w4.drewN nq):=fun nq=>RZH.out _ (bel_drewN hb4 nq);clear hB;obtain⟨hckH,hleH,hb4H,hw4H,RH,hyH⟩:=hq2 hck (hqb hle hb4 hw4 R (Lib.hid hy));clear hck hle hb4 hw4 R hy;go_wp2_with (go_at_call 47;refine(within_r _ _ _ _).mono ?_;rintro e wz ⟨rfl,rfl⟩)
            go_quiet (fail)
            go_wp2;exact RH.out _
          ·have dB:(mt==ymt)=false:=by simpa using hB
           rw[decide_eq_false hB,Bool.false_and,if_neg (by decide)]at hck;have R:∀ nq,LosRel wsl lsl d W1 (.int .i64 (j+1+1)) (w4.drewN nq):=by
            refine fun nq=>⟨j+1+1,hkl2H.out,by go_num,?_,bel_drewN hb4 nq⟩;rw[hpnH.out];exact hck
           clear hB;obtain⟨hckH,hb4H,hw4H,RH,hyH⟩:=hqb hck hb4 hw4 R (Lib.hid hy);clear hck hb4 hw4 R hy;go_wp2_with (go_at_call 47;refine(within_r _ _ _ _).mono ?_;rintro e wz ⟨rfl,rfl⟩)
           go_quiet (fail)
           go_wp2;refine⟨?rel,?measure⟩
           case measure=>(simp[intOf];omega)
           case rel=>first | exact(RH.out _) | exact⟨rfl,(RH.out _)⟩
       ·rw[if_neg i1]at hck;obtain rfl:=he1H.out hck;have R:=RZH.out _ hb4;have i1':inR 0 1000000000 mt=false:=by simpa using i1
        clear i1;obtain⟨RH,hb4H,hw4H,hckH⟩:=hq2 R (hq2 hb4 (hq2 hw4 (Lib.hid hck)));clear R hb4 hw4 hck;go_wp2_with (go_at_call 47;refine(within_r _ _ _ _).mono ?_;rintro e wz ⟨rfl,rfl⟩);exact RH.out
     ·obtain rfl:k=ln:=by omega
      have e:lsl.drop k = []:=List.drop_eq_nil_of_le (by have:=hllH.out;omega);rw[e,lossErr]at hck;have hF:=he0H.out hck;clear e hck
      by_cases i1:inR 1 10 tr=true
      ·rw[if_pos i1]at hF;subst hF;have R:=RZH.out _ hb;obtain⟨RH,hbH⟩:=hq2 R (Lib.hid hb);clear R hb;go_wp2_with (go_at_call 47;refine(within_r _ _ _ _).mono ?_;rintro e wz ⟨rfl,rfl⟩);exact RH.out
      ·rw[if_neg i1]at hF;subst hF;have i1':inR 1 10 tr=false:=by simpa using i1
       clear i1;have R:=RZH.out _ hb;obtain⟨RH,hbH⟩:=hq2 R (Lib.hid hb);clear R hb;go_wp2_with (go_at_call 47;refine(within_r _ _ _ _).mono ?_;rintro e wz ⟨rfl,rfl⟩);exact RH.out
   ·rw[if_neg h3]at hF;subst hF;have R:=RZH.out _ hb2;obtain⟨RH,hb2H⟩:=hq2 R (Lib.hid hb2);clear R hb2;go_wp2;exact RH.out
  ·rw[if_neg h2]at hF;subst hF;have R:=RZH.out _ hb2;have h2':(f2 != 0)=true:=by simpa using h2
   clear h2;obtain⟨RH,hb2H⟩:=hq2 R (Lib.hid hb2);clear R hb2;go_wp2;exact RH.out
 ·rw[if_neg h1]at hF;subst hF;have R:=RZH.out _ hb1;have h1':(f1 != 0)=true:=by simpa using h1
  clear h1;obtain⟨RH,hb1H⟩:=hq2 R (Lib.hid hb1);clear R hb1;go_wp2;exact RH.out
end Go.Proofs.YtbnkoefljcekbaaGreatDoor.C9