/-
 Several texts of mine as one, without what is not wanted here: XReE, XReD.
-/
import Derived.Test.YtpdjjjiknijpkaaGreatDoorTvLC10
set_option linter.unusedVariables false
set_option linter.unusedSimpArgs false
set_option maxRecDepth 100000
set_option maxHeartbeats 8000000
namespace Go.Proofs.YtpdjjjiknijpkaaGreatDoor.C10
open Go.ChangeShapes Go.WideShapes Go.Deep Go.RowKit Go.Lib
def entV (e:Ent):Value:=.agg #[.string e.name,.string e.digest,.bool e.dir,.bool e.run]
def ReAns (x:Ent) (w:World) (e:Ending) (w':World):Prop:=e = .returned (.tuple #[entV x,.bool true])∧Below w.heap.size w w'
theorem readEntry_any (x:Ent) (hx:EntOk x) (w:World) (hmx:MaxLenAt w) :
  Calls Tryz.prog 58 #[.string (lnE x)] w (ReAns x w):=by
 obtain⟨Z,hZ⟩:∃ Z,ReAns x w=Z:=⟨_,rfl⟩;have hZ':∀ e W,ReAns x w e W→Z e W:=fun e W h=>by rw[← hZ];exact h
 rw[hZ];clear hZ;have hsz:=lnE_size hx;have hwd:=lnE_words hx;obtain⟨xn,xg,xd,xr⟩:=x;obtain⟨s,hs⟩:∃ s,lnE ⟨xn,xg,xd,xr⟩=s:=⟨_,rfl⟩;rw[hs]at hsz hwd ⊢;obtain⟨W0,hW0⟩:∃ W,w.alloc (.cells #[.string ⟨#[]⟩,.string ⟨#[]⟩,.bool false,.bool false] 73)=W:=⟨_,rfl⟩;have hb0:Below w.heap.size w W0:=by rw[← hW0];exact(Below.refl _ _).alloc (Nat.le_refl _) _
 have hz0:Blk W0 w.heap.size [.string ⟨#[]⟩,.string ⟨#[]⟩,.bool false,.bool false]:=by rw[← hW0];exact blk_new w _ _
 have hs0:w.heap.size<W0.heap.size:=by rw[← hW0];simp
 have hmx0:=hmx.below hb0;have hn1:partB xn=true:=hx.name;have hn2:xn.size≤200:=hx.size;have hn3:digB xg=true:=hx.dig;obtain⟨nb,hnb⟩:∃ b,w.heap.size=b:=⟨_,rfl⟩;rw[hnb]at hz0 hs0;obtain⟨hZ'H,hmxH,hxH,hb0H,hz0H,hmx0H,hwdH,hsH⟩:=hq2 hZ' (hq2 hmx (hq2 hx (hqb hb0 hz0 hmx0 hwd (Lib.hid hs))));clear hZ' hmx hx hb0 hz0 hmx0 hwd hs;go_enter Tryz.func58,Tryz.ntmps58;go_wp2_with fail;refine(split_sp s W0 hmx0H.out (by omega)).mono ?_;rintro e w1 ⟨m,rfl,hsl,hb1⟩;rw[hwdH.out]at hsl;have hb01:=hb0H.out.trans (hb1.mono hb0H.out.size);have hz1:=blk_below hz0H.out (by simp) hb1;have hw1s:W0.heap.size≤w1.heap.size:=hb1.size;obtain⟨wb,hwb⟩:∃ b,W0.heap.size=b:=⟨_,rfl⟩;rw[hwb]at hsl hw1s hs0
 cases xd with
 | true =>
  obtain rfl:xr=false:=hxH.out.run rfl;have hm:m=3:=by have:=hsl.1;unfold wdE at this;simpa using this.symm
  subst hm;have hsl':SlAt RStr w1 (some ⟨wb,0,none⟩) 3 [wsD,xn,xg]:=hsl;have c0:w1.cell? ⟨wb,0,none⟩=some (.string wsD):=by simpa using cell_Str hsl' (k:=0) rfl
  have c1:w1.cell? ⟨wb,1,none⟩=some (.string xn):=by simpa using cell_Str hsl' (k:=1) rfl
  have c2:w1.cell? ⟨wb,2,none⟩=some (.string xg):=by simpa using cell_Str hsl' (k:=2) rfl
  unfold wsD at c0;obtain⟨hb1H,hslH,hsl'H,hb01H,hz1H⟩:=hqb hb1 hsl hsl' hb01 (Lib.hid hz1);clear hb1 hsl hsl' hb01 hz1;go_wp2_with fail;refine startR (R:=Rk (fun _=>True) (fun V=>V.cell? ⟨wb,0,none⟩=some (.string ⟨#[100,105,114]⟩)∧V.cell? ⟨wb,1,none⟩=some (.string xn)∧V.cell? ⟨wb,2,none⟩=some (.string xg)) 99 99) (by kernel_rfl) ?_;have hC:w1.drew.cell? ⟨wb,0,none⟩=some (.string ⟨#[100,105,114]⟩)∧w1.drew.cell? ⟨wb,1,none⟩=some (.string xn)∧w1.drew.cell? ⟨wb,2,none⟩=some (.string xg):=⟨c0,c1,c2⟩;refine takeC (i:=0) (d:=some 40) (v:=?_) rfl rfl (by kernel_rfl) (by kernel_rfl) (by kernel_rfl) (by kernel_rfl) (fun _ _ _ h=>h) (Or.inl ⟨by rfl,?_⟩) hC ?_
  rotate_left
  ·(intro w hSw;(try dsimp only at hSw);go_simp;(try with_reducible rfl))
  (try simp only[Act.put,List.setIfInBounds_toArray,List.set_cons_zero,List.set_cons_succ])
  refine takeC (i:=1) (d:=some 41) (v:=?_) rfl rfl (by kernel_rfl) (by kernel_rfl) (by kernel_rfl) (by kernel_rfl) (fun _ _ _ h=>h) (Or.inl ⟨by rfl,?_⟩) hC ?_
  rotate_left
  ·(intro w hSw;(try dsimp only at hSw);go_simp;(try with_reducible rfl))
  (try simp only[Act.put,List.setIfInBounds_toArray,List.set_cons_zero,List.set_cons_succ])
  refine takeC (i:=2) (d:=some 42) (v:=?_) rfl rfl (by kernel_rfl) (by kernel_rfl) (by kernel_rfl) (by kernel_rfl) (fun _ _ _ h=>h) (Or.inl ⟨by rfl,?_⟩) hC ?_
  rotate_left
  ·(intro w hSw;(try dsimp only at hSw);go_simp;(try with_reducible rfl))
  (try simp only[Act.put,List.setIfInBounds_toArray,List.set_cons_zero,List.set_cons_succ])
  refine takeC (i:=3) (d:=some 43) (v:=?_) rfl rfl (by kernel_rfl) (by kernel_rfl) (by kernel_rfl) (by kernel_rfl) (fun _ _ _ h=>h) (Or.inl ⟨by rfl,?_⟩) hC ?_
  rotate_left
  ·(intro w hSw;(try dsimp only at hSw);go_simp;(try with_reducible rfl))
  (try simp only[Act.put,List.setIfInBounds_toArray,List.set_cons_zero,List.set_cons_succ])
  refine takeC (i:=4) (d:=some 44) (v:=?_) rfl rfl (by kernel_rfl) (by kernel_rfl) (by kernel_rfl) (by kernel_rfl) (fun _ _ _ h=>h) (Or.inl ⟨by rfl,?_⟩) hC ?_
  rotate_left
  ·(intro w hSw;(try dsimp only at hSw);go_simp;(try with_reducible rfl))
  (try simp only[Act.put,List.setIfInBounds_toArray,List.set_cons_zero,List.set_cons_succ])
  refine takeC (i:=5) (d:=some 45) (v:=?_) rfl rfl (by kernel_rfl) (by kernel_rfl) (by kernel_rfl) (by kernel_rfl) (fun _ _ _ h=>h) (Or.inl ⟨by rfl,?_⟩) hC ?_
  rotate_left
  ·(intro w hSw;(try dsimp only at hSw);go_simp;(try with_reducible rfl))
  (try simp only[Act.put,List.setIfInBounds_toArray,List.set_cons_zero,List.set_cons_succ])
  refine takeC (i:=6) (d:=some 46) (v:=?_) rfl rfl (by kernel_rfl) (by kernel_rfl) (by kernel_rfl) (by kernel_rfl) (fun _ _ _ h=>h) (Or.inl ⟨by rfl,?_⟩) hC ?_
  rotate_left
  ·(intro w hSw;(try dsimp only at hSw);go_simp;(try with_reducible rfl))
  (try simp only[Act.put,List.setIfInBounds_toArray,List.set_cons_zero,List.set_cons_succ])
  refine takeC (i:=7) (d:=some 47) (v:=?_) rfl rfl (by kernel_rfl) (by kernel_rfl) (by kernel_rfl) (by kernel_rfl) (fun _ _ _ h=>h) (Or.inl ⟨by rfl,?_⟩) hC ?_
  rotate_left
  ·(intro w hSw;(try dsimp only at hSw);go_simp;(try with_reducible rfl))
  (try simp only[Act.put,List.setIfInBounds_toArray,List.set_cons_zero,List.set_cons_succ])
  refine takeC (i:=8) (d:=some 48) (v:=?_) rfl rfl (by kernel_rfl) (by kernel_rfl) (by kernel_rfl) (by kernel_rfl) (fun _ _ _ h=>h) (Or.inl ⟨by rfl,?_⟩) hC ?_
  rotate_left
  ·(intro w hSw;(try dsimp only at hSw);go_simp;(try with_reducible rfl))
  (try simp only[Act.put,List.setIfInBounds_toArray,List.set_cons_zero,List.set_cons_succ])
  refine takeC (i:=9) (d:=some 49) (v:=?_) rfl rfl (by kernel_rfl) (by kernel_rfl) (by kernel_rfl) (by kernel_rfl) (fun _ _ _ h=>h) (Or.inl ⟨by rfl,?_⟩) hC ?_
  rotate_left
  ·(intro w hSw;(try dsimp only at hSw);go_simp;(try with_reducible rfl))
  (try simp only[Act.put,List.setIfInBounds_toArray,List.set_cons_zero,List.set_cons_succ])
  refine takeC (i:=10) (d:=some 50) (v:=?_) rfl rfl (by kernel_rfl) (by kernel_rfl) (by kernel_rfl) (by kernel_rfl) (fun _ _ _ h=>h) (Or.inl ⟨by rfl,?_⟩) hC ?_
  rotate_left
  ·(intro w hSw;(try dsimp only at hSw);go_simp;(try with_reducible rfl))
  (try simp only[Act.put,List.setIfInBounds_toArray,List.set_cons_zero,List.set_cons_succ])
  refine takeC (i:=11) (d:=some 51) (v:=?_) rfl rfl (by kernel_rfl) (by kernel_rfl) (by kernel_rfl) (by kernel_rfl) (fun _ _ _ h=>h) (Or.inl ⟨by rfl,?_⟩) hC ?_
  rotate_left
  ·(intro w hSw;(try dsimp only at hSw);go_simp;(try with_reducible rfl))
  (try simp only[Act.put,List.setIfInBounds_toArray,List.set_cons_zero,List.set_cons_succ])
  refine takeC (i:=12) (d:=some 52) (v:=?_) rfl rfl (by kernel_rfl) (by kernel_rfl) (by kernel_rfl) (by kernel_rfl) (fun _ _ _ h=>h) (Or.inl ⟨by rfl,?_⟩) hC ?_
  rotate_left
  ·(intro w hSw;(try dsimp only at hSw);go_simp;(try with_reducible rfl))
  (try simp only[Act.put,List.setIfInBounds_toArray,List.set_cons_zero,List.set_cons_succ])
  refine takeC (i:=13) (d:=some 53) (v:=?_) rfl rfl (by kernel_rfl) (by kernel_rfl) (by kernel_rfl) (by kernel_rfl) (fun _ _ _ h=>h) (Or.inl ⟨by rfl,?_⟩) hC ?_
  rotate_left
  ·(intro w hSw;(try dsimp only at hSw);go_simp;(try with_reducible rfl))
  (try simp only[Act.put,List.setIfInBounds_toArray,List.set_cons_zero,List.set_cons_succ])
  refine takeC (i:=14) (d:=some 54) (v:=undef) rfl rfl (by kernel_rfl) (by kernel_rfl) (by kernel_rfl) (by kernel_rfl) (fun _ _ _ h=>h) (Or.inr ⟨by rfl,rfl⟩) hC ?_
  (try simp only[Act.put,List.setIfInBounds_toArray,List.set_cons_zero,List.set_cons_succ])
  refine takeC (i:=15) (d:=some 55) (v:=undef) rfl rfl (by kernel_rfl) (by kernel_rfl) (by kernel_rfl) (by kernel_rfl) (fun _ _ _ h=>h) (Or.inr ⟨by rfl,rfl⟩) hC ?_
  (try simp only[Act.put,List.setIfInBounds_toArray,List.set_cons_zero,List.set_cons_succ])
  refine takeC (i:=16) (d:=some 56) (v:=undef) rfl rfl (by kernel_rfl) (by kernel_rfl) (by kernel_rfl) (by kernel_rfl) (fun _ _ _ h=>h) (Or.inr ⟨by rfl,rfl⟩) hC ?_
  (try simp only[Act.put,List.setIfInBounds_toArray,List.set_cons_zero,List.set_cons_succ])
  refine takeC (i:=17) (d:=some 57) (v:=undef) rfl rfl (by kernel_rfl) (by kernel_rfl) (by kernel_rfl) (by kernel_rfl) (fun _ _ _ h=>h) (Or.inr ⟨by rfl,rfl⟩) hC ?_
  (try simp only[Act.put,List.setIfInBounds_toArray,List.set_cons_zero,List.set_cons_succ])
  refine takeC (i:=18) (d:=some 58) (v:=?_) rfl rfl (by kernel_rfl) (by kernel_rfl) (by kernel_rfl) (by kernel_rfl) (fun _ _ _ h=>h) (Or.inl ⟨by rfl,?_⟩) hC ?_
  rotate_left
  ·(intro w hSw;(try dsimp only at hSw);go_simp;(try with_reducible rfl))
  (try simp only[Act.put,List.setIfInBounds_toArray,List.set_cons_zero,List.set_cons_succ])
  refine takeC (i:=19) (d:=some 59) (v:=?_) rfl rfl (by kernel_rfl) (by kernel_rfl) (by kernel_rfl) (by kernel_rfl) (fun _ _ _ h=>h) (Or.inl ⟨by rfl,?_⟩) hC ?_
  rotate_left
  ·(intro w hSw;(try dsimp only at hSw);go_simp;(try with_reducible rfl))
  (try simp only[Act.put,List.setIfInBounds_toArray,List.set_cons_zero,List.set_cons_succ])
  refine takeC (i:=20) (d:=some 60) (v:=?_) rfl rfl (by kernel_rfl) (by kernel_rfl) (by kernel_rfl) (by kernel_rfl) (fun _ _ _ h=>h) (Or.inl ⟨by rfl,?_⟩) hC ?_
  rotate_left
  ·(intro w hSw;(try dsimp only at hSw);go_simp;(try with_reducible rfl))
  (try simp only[Act.put,List.setIfInBounds_toArray,List.set_cons_zero,List.set_cons_succ])
  refine takeC (i:=21) (d:=some 61) (v:=?_) rfl rfl (by kernel_rfl) (by kernel_rfl) (by kernel_rfl) (by kernel_rfl) (fun _ _ _ h=>h) (Or.inl ⟨by rfl,?_⟩) hC ?_
  rotate_left
  ·(intro w hSw;(try dsimp only at hSw);go_simp;(try with_reducible rfl))
  (try simp only[Act.put,List.setIfInBounds_toArray,List.set_cons_zero,List.set_cons_succ])
  refine takeC (i:=22) (d:=some 62) (v:=?_) rfl rfl (by kernel_rfl) (by kernel_rfl) (by kernel_rfl) (by kernel_rfl) (fun _ _ _ h=>h) (Or.inl ⟨by rfl,?_⟩) hC ?_
  rotate_left
  ·(intro w hSw;(try dsimp only at hSw);go_simp;(try with_reducible rfl))
  (try simp only[Act.put,List.setIfInBounds_toArray,List.set_cons_zero,List.set_cons_succ])
  refine oneR (i:=23) (by kernel_rfl) rfl (fun K hK=>?_);go_simp;go_at_call 69;refine(isPart_any xn w1.drew (by omega) true hn1).mono ?_;rintro e w2 ⟨rfl,rfl⟩;refine hK.out _ _ ⟨fun _ _ _=>trivial,fun _ _=>hC⟩ ?_;clear hK K
  (try simp only[Act.put,List.setIfInBounds_toArray,List.set_cons_zero,List.set_cons_succ])
  refine takeC (i:=24) (d:=some 64) (v:=?_) rfl rfl (by kernel_rfl) (by kernel_rfl) (by kernel_rfl) (by kernel_rfl) (fun _ _ _ h=>h) (Or.inl ⟨by rfl,?_⟩) hC ?_
  rotate_left
  ·(intro w hSw;(try dsimp only at hSw);go_simp;(try with_reducible rfl))
  (try simp only[Act.put,List.setIfInBounds_toArray,List.set_cons_zero,List.set_cons_succ])
  refine takeC (i:=25) (d:=some 65) (v:=?_) rfl rfl (by kernel_rfl) (by kernel_rfl) (by kernel_rfl) (by kernel_rfl) (fun _ _ _ h=>h) (Or.inl ⟨by rfl,?_⟩) hC ?_
  rotate_left
  ·(intro w hSw;(try dsimp only at hSw);go_simp;(try with_reducible rfl))
  (try simp only[Act.put,List.setIfInBounds_toArray,List.set_cons_zero,List.set_cons_succ])
  refine takeC (i:=26) (d:=some 66) (v:=?_) rfl rfl (by kernel_rfl) (by kernel_rfl) (by kernel_rfl) (by kernel_rfl) (fun _ _ _ h=>h) (Or.inl ⟨by rfl,?_⟩) hC ?_
  rotate_left
  ·(intro w hSw;(try dsimp only at hSw);go_simp;(try with_reducible rfl))
  (try simp only[Act.put,List.setIfInBounds_toArray,List.set_cons_zero,List.set_cons_succ])
  refine takeC (i:=27) (d:=some 67) (v:=?_) rfl rfl (by kernel_rfl) (by kernel_rfl) (by kernel_rfl) (by kernel_rfl) (fun _ _ _ h=>h) (Or.inl ⟨by rfl,?_⟩) hC ?_
  rotate_left
  ·(intro w hSw;(try dsimp only at hSw);go_simp;(try with_reducible rfl))
  (try simp only[Act.put,List.setIfInBounds_toArray,List.set_cons_zero,List.set_cons_succ])
  refine oneR (i:=28) (by kernel_rfl) rfl (fun K hK=>?_);go_simp;go_at_call 54;refine(dig_any xg w1.drew true hn3).mono ?_;rintro e w3 ⟨rfl,hb3⟩;have hb13:Below w1.heap.size w1 w3:=(Below.refl w1.heap.size w1).drew.trans hb3;have hC3:w3.cell? ⟨wb,0,none⟩=some (.string ⟨#[100,105,114]⟩)∧w3.cell? ⟨wb,1,none⟩=some (.string xn)∧w3.cell? ⟨wb,2,none⟩=some (.string xg):=⟨keepC hb13 c0,keepC hb13 c1,keepC hb13 c2⟩;have hz3:=blk_below hz1H.out (by simp) hb13;have hb03:=hb01H.out.trans (hb13.mono hb01H.out.size);clear hC c0 c1 c2;have hC:=hC3;obtain⟨hb3H,hb13H,hz3H,hb03H⟩:=hq2 hb3 (hq2 hb13 (hq2 hz3 (Lib.hid hb03)));clear hb3 hb13 hz3 hb03;refine hK.out _ _ ⟨fun _ _ _=>trivial,fun _ _=>hC3⟩ ?_;clear hK K
  (try simp only[Act.put,List.setIfInBounds_toArray,List.set_cons_zero,List.set_cons_succ])
  refine takeC (i:=29) (d:=some 69) (v:=?_) rfl rfl (by kernel_rfl) (by kernel_rfl) (by kernel_rfl) (by kernel_rfl) (fun _ _ _ h=>h) (Or.inl ⟨by rfl,?_⟩) hC ?_
  rotate_left
  ·(intro w hSw;(try dsimp only at hSw);go_simp;(try with_reducible rfl))
  (try simp only[Act.put,List.setIfInBounds_toArray,List.set_cons_zero,List.set_cons_succ])
  obtain⟨z0,f0⟩:=hz3H.out 0 _ rfl;obtain⟨z1,f1⟩:=hz3H.out 1 _ rfl;obtain⟨z2,f2⟩:=hz3H.out 2 _ rfl;obtain⟨z3,f3⟩:=hz3H.out 3 _ rfl;refine oneR (i:=30) (by kernel_rfl) rfl (fun K hK=>?_);go_simp;obtain⟨w4,hw4⟩:∃ W,(((w3.setCell ⟨nb,0,none⟩ (.string xn)).setCell ⟨nb,1,none⟩ (.string xg)).setCell ⟨nb,2,none⟩ (.bool true)).setCell ⟨nb,3,none⟩ (.bool false)=W:=⟨_,rfl⟩;rw[hw4];have hz4:Blk w4 nb [.string xn,.string xg,.bool true,.bool false]:=by
   rw[← hw4];exact(((hz3H.out.set (k:=0) (by simp) (.string xn)).set (k:=1) (by simp) (.string xg)).set (k:=2) (by simp) (.bool true)).set (k:=3) (by simp) (.bool false)
  have hkeep:∀ (a:Addr) v,a.block≠nb→w3.cell? a=some v→w4.cell? a=some v:=by
   intro a v ha hv;rw[← hw4,World.cell?_setCell_other _ _ _ _ (fun e=>ha (by rw[← e])),World.cell?_setCell_other _ _ _ _ (fun e=>ha (by rw[← e])),World.cell?_setCell_other _ _ _ _ (fun e=>ha (by rw[← e])),World.cell?_setCell_other _ _ _ _ (fun e=>ha (by rw[← e]))];exact hv
  have hb04:Below w.heap.size w w4:=by
   rw[← hw4];exact(((hb03H.out.setCell (by rw[hnb];exact Nat.le_refl _) _).setCell (by rw[hnb];exact Nat.le_refl _) _).setCell (by rw[hnb];exact Nat.le_refl _) _).setCell (by rw[hnb];exact Nat.le_refl _) _
  have hne:wb≠nb:=by omega
  have R:=hZ'H.out _ w4 ⟨rfl,hb04⟩;obtain⟨t0,-⟩:=hz4 0 _ rfl;obtain⟨t1,-⟩:=hz4 1 _ rfl;obtain⟨t2,-⟩:=hz4 2 _ rfl;obtain⟨t3,-⟩:=hz4 3 _ rfl;have hC4:=(⟨hkeep _ _ hne hC3.1,hkeep _ _ hne hC3.2.1,hkeep _ _ hne hC3.2.2⟩:w4.cell? ⟨wb,0,none⟩=some (.string ⟨#[100,105,114]⟩)∧w4.cell? ⟨wb,1,none⟩=some (.string xn)∧w4.cell? ⟨wb,2,none⟩=some (.string xg));clear hC hC3 z0 z1 z2 z3 f0 f1 f2 f3 hkeep;have hC:=hC4;obtain⟨hb04H,hz4H,RH,hw4H⟩:=hq2 hb04 (hq2 hz4 (hq2 R (Lib.hid hw4)));clear hb04 hz4 R hw4;refine hK.out _ _ ⟨fun _ _ _=>trivial,fun _ _=>hC4⟩ ?_;clear hK K
  (try simp only[Act.put,List.setIfInBounds_toArray,List.set_cons_zero,List.set_cons_succ])
  refine oneR (i:=31) (by kernel_rfl) rfl (fun K hK=>?_);go_simp;refine hK.out _ _ ⟨fun _ _ _=>trivial,fun _ h=>h⟩ ?_;clear hK K
  (try simp only[Act.put,List.setIfInBounds_toArray,List.set_cons_zero,List.set_cons_succ])
  refine doneR (by kernel_rfl) ?_ _;clear hC hC4;go_wp2_with fail;exact bodyPost_ret (v:=.tuple #[.agg #[.string xn,.string xg,.bool true,.bool false],.bool true]) (by simp[results,Tryz.results58,go_sem,t0,t1,t2,t3]) rfl RH.out
 | false =>
  have hm:m=4:=by have:=hsl.1;unfold wdE at this;simpa using this.symm
  subst hm;have hsl':SlAt RStr w1 (some ⟨wb,0,none⟩) 4 [wsF,xn,xg,wsR xr]:=hsl;have c0:w1.cell? ⟨wb,0,none⟩=some (.string wsF):=by simpa using cell_Str hsl' (k:=0) rfl
  have c1:w1.cell? ⟨wb,1,none⟩=some (.string xn):=by simpa using cell_Str hsl' (k:=1) rfl
  have c2:w1.cell? ⟨wb,2,none⟩=some (.string xg):=by simpa using cell_Str hsl' (k:=2) rfl
  have c3:w1.cell? ⟨wb,3,none⟩=some (.string (wsR xr)):=by simpa using cell_Str hsl' (k:=3) rfl
  unfold wsF at c0;unfold wsR at c3;obtain⟨hb1H,hslH,hsl'H,hb01H,hz1H⟩:=hqb hb1 hsl hsl' hb01 (Lib.hid hz1);clear hb1 hsl hsl' hb01 hz1
  cases xr <;> simp only[Bool.false_eq_true,if_false,if_true]at c3
  ·go_wp2_with fail;refine startR (R:=Rk (fun _=>True) (fun V=>V.cell? ⟨wb,0,none⟩=some (.string ⟨#[102,105,108,101]⟩)∧V.cell? ⟨wb,1,none⟩=some (.string xn)∧V.cell? ⟨wb,2,none⟩=some (.string xg)∧V.cell? ⟨wb,3,none⟩=some (.string ⟨#[45]⟩)) 99 99) (by kernel_rfl) ?_;have hC:w1.drew.cell? ⟨wb,0,none⟩=some (.string ⟨#[102,105,108,101]⟩)∧w1.drew.cell? ⟨wb,1,none⟩=some (.string xn)∧w1.drew.cell? ⟨wb,2,none⟩=some (.string xg)∧w1.drew.cell? ⟨wb,3,none⟩=some (.string ⟨#[45]⟩):=⟨c0,c1,c2,c3⟩;refine takeC (i:=0) (d:=some 40) (v:=?_) rfl rfl (by kernel_rfl) (by kernel_rfl) (by kernel_rfl) (by kernel_rfl) (fun _ _ _ h=>h) (Or.inl ⟨by rfl,?_⟩) hC ?_
   rotate_left
   ·(intro w hSw;(try dsimp only at hSw);go_simp;(try with_reducible rfl))
   (try simp only[Act.put,List.setIfInBounds_toArray,List.set_cons_zero,List.set_cons_succ])
   refine takeC (i:=1) (d:=some 41) (v:=?_) rfl rfl (by kernel_rfl) (by kernel_rfl) (by kernel_rfl) (by kernel_rfl) (fun _ _ _ h=>h) (Or.inl ⟨by rfl,?_⟩) hC ?_
   rotate_left
   ·(intro w hSw;(try dsimp only at hSw);go_simp;(try with_reducible rfl))
   (try simp only[Act.put,List.setIfInBounds_toArray,List.set_cons_zero,List.set_cons_succ])
   refine takeC (i:=2) (d:=some 42) (v:=?_) rfl rfl (by kernel_rfl) (by kernel_rfl) (by kernel_rfl) (by kernel_rfl) (fun _ _ _ h=>h) (Or.inl ⟨by rfl,?_⟩) hC ?_
   rotate_left
   ·(intro w hSw;(try dsimp only at hSw);go_simp;(try with_reducible rfl))
   (try simp only[Act.put,List.setIfInBounds_toArray,List.set_cons_zero,List.set_cons_succ])
   refine takeC (i:=3) (d:=some 43) (v:=?_) rfl rfl (by kernel_rfl) (by kernel_rfl) (by kernel_rfl) (by kernel_rfl) (fun _ _ _ h=>h) (Or.inl ⟨by rfl,?_⟩) hC ?_
   rotate_left
   ·(intro w hSw;(try dsimp only at hSw);go_simp;(try with_reducible rfl))
   (try simp only[Act.put,List.setIfInBounds_toArray,List.set_cons_zero,List.set_cons_succ])
   refine takeC (i:=4) (d:=some 44) (v:=?_) rfl rfl (by kernel_rfl) (by kernel_rfl) (by kernel_rfl) (by kernel_rfl) (fun _ _ _ h=>h) (Or.inl ⟨by rfl,?_⟩) hC ?_
   rotate_left
   ·(intro w hSw;(try dsimp only at hSw);go_simp;(try with_reducible rfl))
   (try simp only[Act.put,List.setIfInBounds_toArray,List.set_cons_zero,List.set_cons_succ])
   refine takeC (i:=5) (d:=some 45) (v:=?_) rfl rfl (by kernel_rfl) (by kernel_rfl) (by kernel_rfl) (by kernel_rfl) (fun _ _ _ h=>h) (Or.inl ⟨by rfl,?_⟩) hC ?_
   rotate_left
   ·(intro w hSw;(try dsimp only at hSw);go_simp;(try with_reducible rfl))
   (try simp only[Act.put,List.setIfInBounds_toArray,List.set_cons_zero,List.set_cons_succ])
   refine takeC (i:=6) (d:=some 46) (v:=?_) rfl rfl (by kernel_rfl) (by kernel_rfl) (by kernel_rfl) (by kernel_rfl) (fun _ _ _ h=>h) (Or.inl ⟨by rfl,?_⟩) hC ?_
   rotate_left
   ·(intro w hSw;(try dsimp only at hSw);go_simp;(try with_reducible rfl))
   (try simp only[Act.put,List.setIfInBounds_toArray,List.set_cons_zero,List.set_cons_succ])
   refine takeC (i:=7) (d:=some 47) (v:=?_) rfl rfl (by kernel_rfl) (by kernel_rfl) (by kernel_rfl) (by kernel_rfl) (fun _ _ _ h=>h) (Or.inl ⟨by rfl,?_⟩) hC ?_
   rotate_left
   ·(intro w hSw;(try dsimp only at hSw);go_simp;(try with_reducible rfl))
   (try simp only[Act.put,List.setIfInBounds_toArray,List.set_cons_zero,List.set_cons_succ])
   refine takeC (i:=8) (d:=some 48) (v:=?_) rfl rfl (by kernel_rfl) (by kernel_rfl) (by kernel_rfl) (by kernel_rfl) (fun _ _ _ h=>h) (Or.inl ⟨by rfl,?_⟩) hC ?_
   rotate_left
   ·(intro w hSw;(try dsimp only at hSw);go_simp;(try with_reducible rfl))
   (try simp only[Act.put,List.setIfInBounds_toArray,List.set_cons_zero,List.set_cons_succ])
   refine takeC (i:=9) (d:=some 49) (v:=?_) rfl rfl (by kernel_rfl) (by kernel_rfl) (by kernel_rfl) (by kernel_rfl) (fun _ _ _ h=>h) (Or.inl ⟨by rfl,?_⟩) hC ?_
   rotate_left
   ·(intro w hSw;(try dsimp only at hSw);go_simp;(try with_reducible rfl))
   (try simp only[Act.put,List.setIfInBounds_toArray,List.set_cons_zero,List.set_cons_succ])
   refine takeC (i:=10) (d:=some 50) (v:=?_) rfl rfl (by kernel_rfl) (by kernel_rfl) (by kernel_rfl) (by kernel_rfl) (fun _ _ _ h=>h) (Or.inl ⟨by rfl,?_⟩) hC ?_
   rotate_left
   ·(intro w hSw;(try dsimp only at hSw);go_simp;(try with_reducible rfl))
   (try simp only[Act.put,List.setIfInBounds_toArray,List.set_cons_zero,List.set_cons_succ])
   refine takeC (i:=11) (d:=some 51) (v:=?_) rfl rfl (by kernel_rfl) (by kernel_rfl) (by kernel_rfl) (by kernel_rfl) (fun _ _ _ h=>h) (Or.inl ⟨by rfl,?_⟩) hC ?_
   rotate_left
   ·(intro w hSw;(try dsimp only at hSw);go_simp;(try with_reducible rfl))
   (try simp only[Act.put,List.setIfInBounds_toArray,List.set_cons_zero,List.set_cons_succ])
   refine takeC (i:=12) (d:=some 52) (v:=?_) rfl rfl (by kernel_rfl) (by kernel_rfl) (by kernel_rfl) (by kernel_rfl) (fun _ _ _ h=>h) (Or.inl ⟨by rfl,?_⟩) hC ?_
   rotate_left
   ·(intro w hSw;(try dsimp only at hSw);go_simp;(try with_reducible rfl))
   (try simp only[Act.put,List.setIfInBounds_toArray,List.set_cons_zero,List.set_cons_succ])
   refine takeC (i:=13) (d:=some 53) (v:=?_) rfl rfl (by kernel_rfl) (by kernel_rfl) (by kernel_rfl) (by kernel_rfl) (fun _ _ _ h=>h) (Or.inl ⟨by rfl,?_⟩) hC ?_
   rotate_left
   ·(intro w hSw;(try dsimp only at hSw);go_simp;(try with_reducible rfl))
   (try simp only[Act.put,List.setIfInBounds_toArray,List.set_cons_zero,List.set_cons_succ])
   refine takeC (i:=14) (d:=some 54) (v:=?_) rfl rfl (by kernel_rfl) (by kernel_rfl) (by kernel_rfl) (by kernel_rfl) (fun _ _ _ h=>h) (Or.inl ⟨by rfl,?_⟩) hC ?_
   rotate_left
   ·(intro w hSw;(try dsimp only at hSw);go_simp;(try with_reducible rfl))
   (try simp only[Act.put,List.setIfInBounds_toArray,List.set_cons_zero,List.set_cons_succ])
   refine takeC (i:=15) (d:=some 55) (v:=?_) rfl rfl (by kernel_rfl) (by kernel_rfl) (by kernel_rfl) (by kernel_rfl) (fun _ _ _ h=>h) (Or.inl ⟨by rfl,?_⟩) hC ?_
   rotate_left
   ·(intro w hSw;(try dsimp only at hSw);go_simp;(try with_reducible rfl))
   (try simp only[Act.put,List.setIfInBounds_toArray,List.set_cons_zero,List.set_cons_succ])
   refine takeC (i:=16) (d:=some 56) (v:=?_) rfl rfl (by kernel_rfl) (by kernel_rfl) (by kernel_rfl) (by kernel_rfl) (fun _ _ _ h=>h) (Or.inl ⟨by rfl,?_⟩) hC ?_
   rotate_left
   ·(intro w hSw;(try dsimp only at hSw);go_simp;(try with_reducible rfl))
   (try simp only[Act.put,List.setIfInBounds_toArray,List.set_cons_zero,List.set_cons_succ])
   refine takeC (i:=17) (d:=some 57) (v:=?_) rfl rfl (by kernel_rfl) (by kernel_rfl) (by kernel_rfl) (by kernel_rfl) (fun _ _ _ h=>h) (Or.inl ⟨by rfl,?_⟩) hC ?_
   rotate_left
   ·(intro w hSw;(try dsimp only at hSw);go_simp;(try with_reducible rfl))
   (try simp only[Act.put,List.setIfInBounds_toArray,List.set_cons_zero,List.set_cons_succ])
   refine takeC (i:=18) (d:=some 58) (v:=?_) rfl rfl (by kernel_rfl) (by kernel_rfl) (by kernel_rfl) (by kernel_rfl) (fun _ _ _ h=>h) (Or.inl ⟨by rfl,?_⟩) hC ?_
   rotate_left
   ·(intro w hSw;(try dsimp only at hSw);go_simp;(try with_reducible rfl))
   (try simp only[Act.put,List.setIfInBounds_toArray,List.set_cons_zero,List.set_cons_succ])
   refine takeC (i:=19) (d:=some 59) (v:=?_) rfl rfl (by kernel_rfl) (by kernel_rfl) (by kernel_rfl) (by kernel_rfl) (fun _ _ _ h=>h) (Or.inl ⟨by rfl,?_⟩) hC ?_
   rotate_left
   ·(intro w hSw;(try dsimp only at hSw);go_simp;(try with_reducible rfl))
   (try simp only[Act.put,List.setIfInBounds_toArray,List.set_cons_zero,List.set_cons_succ])
   refine takeC (i:=20) (d:=some 60) (v:=?_) rfl rfl (by kernel_rfl) (by kernel_rfl) (by kernel_rfl) (by kernel_rfl) (fun _ _ _ h=>h) (Or.inl ⟨by rfl,?_⟩) hC ?_
   rotate_left
   ·(intro w hSw;(try dsimp only at hSw);go_simp;(try with_reducible rfl))
   (try simp only[Act.put,List.setIfInBounds_toArray,List.set_cons_zero,List.set_cons_succ])
   refine takeC (i:=21) (d:=some 61) (v:=?_) rfl rfl (by kernel_rfl) (by kernel_rfl) (by kernel_rfl) (by kernel_rfl) (fun _ _ _ h=>h) (Or.inl ⟨by rfl,?_⟩) hC ?_
   rotate_left
   ·(intro w hSw;(try dsimp only at hSw);go_simp;(try with_reducible rfl))
   (try simp only[Act.put,List.setIfInBounds_toArray,List.set_cons_zero,List.set_cons_succ])
   refine takeC (i:=22) (d:=some 62) (v:=?_) rfl rfl (by kernel_rfl) (by kernel_rfl) (by kernel_rfl) (by kernel_rfl) (fun _ _ _ h=>h) (Or.inl ⟨by rfl,?_⟩) hC ?_
   rotate_left
   ·(intro w hSw;(try dsimp only at hSw);go_simp;(try with_reducible rfl))
   (try simp only[Act.put,List.setIfInBounds_toArray,List.set_cons_zero,List.set_cons_succ])
   refine oneR (i:=23) (by kernel_rfl) rfl (fun K hK=>?_);go_simp;go_at_call 69;refine(isPart_any xn w1.drew (by omega) true hn1).mono ?_;rintro e w2 ⟨rfl,rfl⟩;refine hK.out _ _ ⟨fun _ _ _=>trivial,fun _ _=>hC⟩ ?_;clear hK K
   (try simp only[Act.put,List.setIfInBounds_toArray,List.set_cons_zero,List.set_cons_succ])
   refine takeC (i:=24) (d:=some 64) (v:=?_) rfl rfl (by kernel_rfl) (by kernel_rfl) (by kernel_rfl) (by kernel_rfl) (fun _ _ _ h=>h) (Or.inl ⟨by rfl,?_⟩) hC ?_
   rotate_left
   ·(intro w hSw;(try dsimp only at hSw);go_simp;(try with_reducible rfl))
   (try simp only[Act.put,List.setIfInBounds_toArray,List.set_cons_zero,List.set_cons_succ])
   refine takeC (i:=25) (d:=some 65) (v:=?_) rfl rfl (by kernel_rfl) (by kernel_rfl) (by kernel_rfl) (by kernel_rfl) (fun _ _ _ h=>h) (Or.inl ⟨by rfl,?_⟩) hC ?_
   rotate_left
   ·(intro w hSw;(try dsimp only at hSw);go_simp;(try with_reducible rfl))
   (try simp only[Act.put,List.setIfInBounds_toArray,List.set_cons_zero,List.set_cons_succ])
   refine takeC (i:=26) (d:=some 66) (v:=?_) rfl rfl (by kernel_rfl) (by kernel_rfl) (by kernel_rfl) (by kernel_rfl) (fun _ _ _ h=>h) (Or.inl ⟨by rfl,?_⟩) hC ?_
   rotate_left
   ·(intro w hSw;(try dsimp only at hSw);go_simp;(try with_reducible rfl))
   (try simp only[Act.put,List.setIfInBounds_toArray,List.set_cons_zero,List.set_cons_succ])
   refine takeC (i:=27) (d:=some 67) (v:=?_) rfl rfl (by kernel_rfl) (by kernel_rfl) (by kernel_rfl) (by kernel_rfl) (fun _ _ _ h=>h) (Or.inl ⟨by rfl,?_⟩) hC ?_
   rotate_left
   ·(intro w hSw;(try dsimp only at hSw);go_simp;(try with_reducible rfl))
   (try simp only[Act.put,List.setIfInBounds_toArray,List.set_cons_zero,List.set_cons_succ])
   refine oneR (i:=28) (by kernel_rfl) rfl (fun K hK=>?_);go_simp;go_at_call 54;refine(dig_any xg w1.drew true hn3).mono ?_;rintro e w3 ⟨rfl,hb3⟩;have hb13:Below w1.heap.size w1 w3:=(Below.refl w1.heap.size w1).drew.trans hb3;have hC3:w3.cell? ⟨wb,0,none⟩=some (.string ⟨#[102,105,108,101]⟩)∧w3.cell? ⟨wb,1,none⟩=some (.string xn)∧w3.cell? ⟨wb,2,none⟩=some (.string xg)∧w3.cell? ⟨wb,3,none⟩=some (.string ⟨#[45]⟩):=⟨keepC hb13 c0,keepC hb13 c1,keepC hb13 c2,keepC hb13 c3⟩;have hz3:=blk_below hz1H.out (by simp) hb13;have hb03:=hb01H.out.trans (hb13.mono hb01H.out.size);clear hC c0 c1 c2 c3;have hC:=hC3;obtain⟨hb3H,hb13H,hz3H,hb03H⟩:=hq2 hb3 (hq2 hb13 (hq2 hz3 (Lib.hid hb03)));clear hb3 hb13 hz3 hb03;refine hK.out _ _ ⟨fun _ _ _=>trivial,fun _ _=>hC3⟩ ?_;clear hK K
   (try simp only[Act.put,List.setIfInBounds_toArray,List.set_cons_zero,List.set_cons_succ])
   refine takeC (i:=29) (d:=some 69) (v:=?_) rfl rfl (by kernel_rfl) (by kernel_rfl) (by kernel_rfl) (by kernel_rfl) (fun _ _ _ h=>h) (Or.inl ⟨by rfl,?_⟩) hC ?_
   rotate_left
   ·(intro w hSw;(try dsimp only at hSw);go_simp;(try with_reducible rfl))
   (try simp only[Act.put,List.setIfInBounds_toArray,List.set_cons_zero,List.set_cons_succ])
   obtain⟨z0,f0⟩:=hz3H.out 0 _ rfl;obtain⟨z1,f1⟩:=hz3H.out 1 _ rfl;obtain⟨z2,f2⟩:=hz3H.out 2 _ rfl;obtain⟨z3,f3⟩:=hz3H.out 3 _ rfl;refine oneR (i:=30) (by kernel_rfl) rfl (fun K hK=>?_);go_simp;obtain⟨w4,hw4⟩:∃ W,(((w3.setCell ⟨nb,0,none⟩ (.string xn)).setCell ⟨nb,1,none⟩ (.string xg)).setCell ⟨nb,2,none⟩ (.bool false)).setCell ⟨nb,3,none⟩ (.bool false)=W:=⟨_,rfl⟩;rw[hw4];have hz4:Blk w4 nb [.string xn,.string xg,.bool false,.bool false]:=by
    rw[← hw4];exact(((hz3H.out.set (k:=0) (by simp) (.string xn)).set (k:=1) (by simp) (.string xg)).set (k:=2) (by simp) (.bool false)).set (k:=3) (by simp) (.bool false)
   have hkeep:∀ (a:Addr) v,a.block≠nb→w3.cell? a=some v→w4.cell? a=some v:=by
    intro a v ha hv;rw[← hw4,World.cell?_setCell_other _ _ _ _ (fun e=>ha (by rw[← e])),World.cell?_setCell_other _ _ _ _ (fun e=>ha (by rw[← e])),World.cell?_setCell_other _ _ _ _ (fun e=>ha (by rw[← e])),World.cell?_setCell_other _ _ _ _ (fun e=>ha (by rw[← e]))];exact hv
   have hb04:Below w.heap.size w w4:=by
    rw[← hw4];exact(((hb03H.out.setCell (by rw[hnb];exact Nat.le_refl _) _).setCell (by rw[hnb];exact Nat.le_refl _) _).setCell (by rw[hnb];exact Nat.le_refl _) _).setCell (by rw[hnb];exact Nat.le_refl _) _
   have hne:wb≠nb:=by omega
   have R:=hZ'H.out _ w4 ⟨rfl,hb04⟩;obtain⟨t0,-⟩:=hz4 0 _ rfl;obtain⟨t1,-⟩:=hz4 1 _ rfl;obtain⟨t2,-⟩:=hz4 2 _ rfl;obtain⟨t3,-⟩:=hz4 3 _ rfl;have hC4:=(⟨hkeep _ _ hne hC3.1,hkeep _ _ hne hC3.2.1,hkeep _ _ hne hC3.2.2.1,hkeep _ _ hne hC3.2.2.2⟩:w4.cell? ⟨wb,0,none⟩=some (.string ⟨#[102,105,108,101]⟩)∧w4.cell? ⟨wb,1,none⟩=some (.string xn)∧w4.cell? ⟨wb,2,none⟩=some (.string xg)∧w4.cell? ⟨wb,3,none⟩=some (.string ⟨#[45]⟩));clear hC hC3 z0 z1 z2 z3 f0 f1 f2 f3 hkeep;have hC:=hC4;obtain⟨hb04H,hz4H,RH,hw4H⟩:=hq2 hb04 (hq2 hz4 (hq2 R (Lib.hid hw4)));clear hb04 hz4 R hw4;refine hK.out _ _ ⟨fun _ _ _=>trivial,fun _ _=>hC4⟩ ?_;clear hK K
   (try simp only[Act.put,List.setIfInBounds_toArray,List.set_cons_zero,List.set_cons_succ])
   refine oneR (i:=31) (by kernel_rfl) rfl (fun K hK=>?_);go_simp;refine hK.out _ _ ⟨fun _ _ _=>trivial,fun _ h=>h⟩ ?_;clear hK K
   (try simp only[Act.put,List.setIfInBounds_toArray,List.set_cons_zero,List.set_cons_succ])
   refine doneR (by kernel_rfl) ?_ _;clear hC hC4;go_wp2_with fail;exact bodyPost_ret (v:=.tuple #[.agg #[.string xn,.string xg,.bool false,.bool false],.bool true]) (by simp[results,Tryz.results58,go_sem,t0,t1,t2,t3]) rfl RH.out
  ·go_wp2_with fail;refine startR (R:=Rk (fun _=>True) (fun V=>V.cell? ⟨wb,0,none⟩=some (.string ⟨#[102,105,108,101]⟩)∧V.cell? ⟨wb,1,none⟩=some (.string xn)∧V.cell? ⟨wb,2,none⟩=some (.string xg)∧V.cell? ⟨wb,3,none⟩=some (.string ⟨#[120]⟩)) 99 99) (by kernel_rfl) ?_;have hC:w1.drew.cell? ⟨wb,0,none⟩=some (.string ⟨#[102,105,108,101]⟩)∧w1.drew.cell? ⟨wb,1,none⟩=some (.string xn)∧w1.drew.cell? ⟨wb,2,none⟩=some (.string xg)∧w1.drew.cell? ⟨wb,3,none⟩=some (.string ⟨#[120]⟩):=⟨c0,c1,c2,c3⟩;refine takeC (i:=0) (d:=some 40) (v:=?_) rfl rfl (by kernel_rfl) (by kernel_rfl) (by kernel_rfl) (by kernel_rfl) (fun _ _ _ h=>h) (Or.inl ⟨by rfl,?_⟩) hC ?_
   rotate_left
   ·(intro w hSw;(try dsimp only at hSw);go_simp;(try with_reducible rfl))
   (try simp only[Act.put,List.setIfInBounds_toArray,List.set_cons_zero,List.set_cons_succ])
   refine takeC (i:=1) (d:=some 41) (v:=?_) rfl rfl (by kernel_rfl) (by kernel_rfl) (by kernel_rfl) (by kernel_rfl) (fun _ _ _ h=>h) (Or.inl ⟨by rfl,?_⟩) hC ?_
   rotate_left
   ·(intro w hSw;(try dsimp only at hSw);go_simp;(try with_reducible rfl))
   (try simp only[Act.put,List.setIfInBounds_toArray,List.set_cons_zero,List.set_cons_succ])
   refine takeC (i:=2) (d:=some 42) (v:=?_) rfl rfl (by kernel_rfl) (by kernel_rfl) (by kernel_rfl) (by kernel_rfl) (fun _ _ _ h=>h) (Or.inl ⟨by rfl,?_⟩) hC ?_
   rotate_left
   ·(intro w hSw;(try dsimp only at hSw);go_simp;(try with_reducible rfl))
   (try simp only[Act.put,List.setIfInBounds_toArray,List.set_cons_zero,List.set_cons_succ])
   refine takeC (i:=3) (d:=some 43) (v:=?_) rfl rfl (by kernel_rfl) (by kernel_rfl) (by kernel_rfl) (by kernel_rfl) (fun _ _ _ h=>h) (Or.inl ⟨by rfl,?_⟩) hC ?_
   rotate_left
   ·(intro w hSw;(try dsimp only at hSw);go_simp;(try with_reducible rfl))
   (try simp only[Act.put,List.setIfInBounds_toArray,List.set_cons_zero,List.set_cons_succ])
   refine takeC (i:=4) (d:=some 44) (v:=?_) rfl rfl (by kernel_rfl) (by kernel_rfl) (by kernel_rfl) (by kernel_rfl) (fun _ _ _ h=>h) (Or.inl ⟨by rfl,?_⟩) hC ?_
   rotate_left
   ·(intro w hSw;(try dsimp only at hSw);go_simp;(try with_reducible rfl))
   (try simp only[Act.put,List.setIfInBounds_toArray,List.set_cons_zero,List.set_cons_succ])
   refine takeC (i:=5) (d:=some 45) (v:=?_) rfl rfl (by kernel_rfl) (by kernel_rfl) (by kernel_rfl) (by kernel_rfl) (fun _ _ _ h=>h) (Or.inl ⟨by rfl,?_⟩) hC ?_
   rotate_left
   ·(intro w hSw;(try dsimp only at hSw);go_simp;(try with_reducible rfl))
   (try simp only[Act.put,List.setIfInBounds_toArray,List.set_cons_zero,List.set_cons_succ])
   refine takeC (i:=6) (d:=some 46) (v:=?_) rfl rfl (by kernel_rfl) (by kernel_rfl) (by kernel_rfl) (by kernel_rfl) (fun _ _ _ h=>h) (Or.inl ⟨by rfl,?_⟩) hC ?_
   rotate_left
   ·(intro w hSw;(try dsimp only at hSw);go_simp;(try with_reducible rfl))
   (try simp only[Act.put,List.setIfInBounds_toArray,List.set_cons_zero,List.set_cons_succ])
   refine takeC (i:=7) (d:=some 47) (v:=?_) rfl rfl (by kernel_rfl) (by kernel_rfl) (by kernel_rfl) (by kernel_rfl) (fun _ _ _ h=>h) (Or.inl ⟨by rfl,?_⟩) hC ?_
   rotate_left
   ·(intro w hSw;(try dsimp only at hSw);go_simp;(try with_reducible rfl))
   (try simp only[Act.put,List.setIfInBounds_toArray,List.set_cons_zero,List.set_cons_succ])
   refine takeC (i:=8) (d:=some 48) (v:=?_) rfl rfl (by kernel_rfl) (by kernel_rfl) (by kernel_rfl) (by kernel_rfl) (fun _ _ _ h=>h) (Or.inl ⟨by rfl,?_⟩) hC ?_
   rotate_left
   ·(intro w hSw;(try dsimp only at hSw);go_simp;(try with_reducible rfl))
   (try simp only[Act.put,List.setIfInBounds_toArray,List.set_cons_zero,List.set_cons_succ])
   refine takeC (i:=9) (d:=some 49) (v:=?_) rfl rfl (by kernel_rfl) (by kernel_rfl) (by kernel_rfl) (by kernel_rfl) (fun _ _ _ h=>h) (Or.inl ⟨by rfl,?_⟩) hC ?_
   rotate_left
   ·(intro w hSw;(try dsimp only at hSw);go_simp;(try with_reducible rfl))
   (try simp only[Act.put,List.setIfInBounds_toArray,List.set_cons_zero,List.set_cons_succ])
   refine takeC (i:=10) (d:=some 50) (v:=?_) rfl rfl (by kernel_rfl) (by kernel_rfl) (by kernel_rfl) (by kernel_rfl) (fun _ _ _ h=>h) (Or.inl ⟨by rfl,?_⟩) hC ?_
   rotate_left
   ·(intro w hSw;(try dsimp only at hSw);go_simp;(try with_reducible rfl))
   (try simp only[Act.put,List.setIfInBounds_toArray,List.set_cons_zero,List.set_cons_succ])
   refine takeC (i:=11) (d:=some 51) (v:=?_) rfl rfl (by kernel_rfl) (by kernel_rfl) (by kernel_rfl) (by kernel_rfl) (fun _ _ _ h=>h) (Or.inl ⟨by rfl,?_⟩) hC ?_
   rotate_left
   ·(intro w hSw;(try dsimp only at hSw);go_simp;(try with_reducible rfl))
   (try simp only[Act.put,List.setIfInBounds_toArray,List.set_cons_zero,List.set_cons_succ])
   refine takeC (i:=12) (d:=some 52) (v:=?_) rfl rfl (by kernel_rfl) (by kernel_rfl) (by kernel_rfl) (by kernel_rfl) (fun _ _ _ h=>h) (Or.inl ⟨by rfl,?_⟩) hC ?_
   rotate_left
   ·(intro w hSw;(try dsimp only at hSw);go_simp;(try with_reducible rfl))
   (try simp only[Act.put,List.setIfInBounds_toArray,List.set_cons_zero,List.set_cons_succ])
   refine takeC (i:=13) (d:=some 53) (v:=?_) rfl rfl (by kernel_rfl) (by kernel_rfl) (by kernel_rfl) (by kernel_rfl) (fun _ _ _ h=>h) (Or.inl ⟨by rfl,?_⟩) hC ?_
   rotate_left
   ·(intro w hSw;(try dsimp only at hSw);go_simp;(try with_reducible rfl))
   (try simp only[Act.put,List.setIfInBounds_toArray,List.set_cons_zero,List.set_cons_succ])
   refine takeC (i:=14) (d:=some 54) (v:=?_) rfl rfl (by kernel_rfl) (by kernel_rfl) (by kernel_rfl) (by kernel_rfl) (fun _ _ _ h=>h) (Or.inl ⟨by rfl,?_⟩) hC ?_
   rotate_left
   ·(intro w hSw;(try dsimp only at hSw);go_simp;(try with_reducible rfl))
   (try simp only[Act.put,List.setIfInBounds_toArray,List.set_cons_zero,List.set_cons_succ])
   refine takeC (i:=15) (d:=some 55) (v:=?_) rfl rfl (by kernel_rfl) (by kernel_rfl) (by kernel_rfl) (by kernel_rfl) (fun _ _ _ h=>h) (Or.inl ⟨by rfl,?_⟩) hC ?_
   rotate_left
   ·(intro w hSw;(try dsimp only at hSw);go_simp;(try with_reducible rfl))
   (try simp only[Act.put,List.setIfInBounds_toArray,List.set_cons_zero,List.set_cons_succ])
   refine takeC (i:=16) (d:=some 56) (v:=?_) rfl rfl (by kernel_rfl) (by kernel_rfl) (by kernel_rfl) (by kernel_rfl) (fun _ _ _ h=>h) (Or.inl ⟨by rfl,?_⟩) hC ?_
   rotate_left
   ·(intro w hSw;(try dsimp only at hSw);go_simp;(try with_reducible rfl))
   (try simp only[Act.put,List.setIfInBounds_toArray,List.set_cons_zero,List.set_cons_succ])
   refine takeC (i:=17) (d:=some 57) (v:=?_) rfl rfl (by kernel_rfl) (by kernel_rfl) (by kernel_rfl) (by kernel_rfl) (fun _ _ _ h=>h) (Or.inl ⟨by rfl,?_⟩) hC ?_
   rotate_left
   ·(intro w hSw;(try dsimp only at hSw);go_simp;(try with_reducible rfl))
   (try simp only[Act.put,List.setIfInBounds_toArray,List.set_cons_zero,List.set_cons_succ])
   refine takeC (i:=18) (d:=some 58) (v:=?_) rfl rfl (by kernel_rfl) (by kernel_rfl) (by kernel_rfl) (by kernel_rfl) (fun _ _ _ h=>h) (Or.inl ⟨by rfl,?_⟩) hC ?_
   rotate_left
   ·(intro w hSw;(try dsimp only at hSw);go_simp;(try with_reducible rfl))
   (try simp only[Act.put,List.setIfInBounds_toArray,List.set_cons_zero,List.set_cons_succ])
   refine takeC (i:=19) (d:=some 59) (v:=?_) rfl rfl (by kernel_rfl) (by kernel_rfl) (by kernel_rfl) (by kernel_rfl) (fun _ _ _ h=>h) (Or.inl ⟨by rfl,?_⟩) hC ?_
   rotate_left
   ·(intro w hSw;(try dsimp only at hSw);go_simp;(try with_reducible rfl))
   (try simp only[Act.put,List.setIfInBounds_toArray,List.set_cons_zero,List.set_cons_succ])
   refine takeC (i:=20) (d:=some 60) (v:=?_) rfl rfl (by kernel_rfl) (by kernel_rfl) (by kernel_rfl) (by kernel_rfl) (fun _ _ _ h=>h) (Or.inl ⟨by rfl,?_⟩) hC ?_
   rotate_left
   ·(intro w hSw;(try dsimp only at hSw);go_simp;(try with_reducible rfl))
   (try simp only[Act.put,List.setIfInBounds_toArray,List.set_cons_zero,List.set_cons_succ])
   refine takeC (i:=21) (d:=some 61) (v:=?_) rfl rfl (by kernel_rfl) (by kernel_rfl) (by kernel_rfl) (by kernel_rfl) (fun _ _ _ h=>h) (Or.inl ⟨by rfl,?_⟩) hC ?_
   rotate_left
   ·(intro w hSw;(try dsimp only at hSw);go_simp;(try with_reducible rfl))
   (try simp only[Act.put,List.setIfInBounds_toArray,List.set_cons_zero,List.set_cons_succ])
   refine takeC (i:=22) (d:=some 62) (v:=?_) rfl rfl (by kernel_rfl) (by kernel_rfl) (by kernel_rfl) (by kernel_rfl) (fun _ _ _ h=>h) (Or.inl ⟨by rfl,?_⟩) hC ?_
   rotate_left
   ·(intro w hSw;(try dsimp only at hSw);go_simp;(try with_reducible rfl))
   (try simp only[Act.put,List.setIfInBounds_toArray,List.set_cons_zero,List.set_cons_succ])
   refine oneR (i:=23) (by kernel_rfl) rfl (fun K hK=>?_);go_simp;go_at_call 69;refine(isPart_any xn w1.drew (by omega) true hn1).mono ?_;rintro e w2 ⟨rfl,rfl⟩;refine hK.out _ _ ⟨fun _ _ _=>trivial,fun _ _=>hC⟩ ?_;clear hK K
   (try simp only[Act.put,List.setIfInBounds_toArray,List.set_cons_zero,List.set_cons_succ])
   refine takeC (i:=24) (d:=some 64) (v:=?_) rfl rfl (by kernel_rfl) (by kernel_rfl) (by kernel_rfl) (by kernel_rfl) (fun _ _ _ h=>h) (Or.inl ⟨by rfl,?_⟩) hC ?_
   rotate_left
   ·(intro w hSw;(try dsimp only at hSw);go_simp;(try with_reducible rfl))
   (try simp only[Act.put,List.setIfInBounds_toArray,List.set_cons_zero,List.set_cons_succ])
   refine takeC (i:=25) (d:=some 65) (v:=?_) rfl rfl (by kernel_rfl) (by kernel_rfl) (by kernel_rfl) (by kernel_rfl) (fun _ _ _ h=>h) (Or.inl ⟨by rfl,?_⟩) hC ?_
   rotate_left
   ·(intro w hSw;(try dsimp only at hSw);go_simp;(try with_reducible rfl))
   (try simp only[Act.put,List.setIfInBounds_toArray,List.set_cons_zero,List.set_cons_succ])
   refine takeC (i:=26) (d:=some 66) (v:=?_) rfl rfl (by kernel_rfl) (by kernel_rfl) (by kernel_rfl) (by kernel_rfl) (fun _ _ _ h=>h) (Or.inl ⟨by rfl,?_⟩) hC ?_
   rotate_left
   ·(intro w hSw;(try dsimp only at hSw);go_simp;(try with_reducible rfl))
   (try simp only[Act.put,List.setIfInBounds_toArray,List.set_cons_zero,List.set_cons_succ])
   refine takeC (i:=27) (d:=some 67) (v:=?_) rfl rfl (by kernel_rfl) (by kernel_rfl) (by kernel_rfl) (by kernel_rfl) (fun _ _ _ h=>h) (Or.inl ⟨by rfl,?_⟩) hC ?_
   rotate_left
   ·(intro w hSw;(try dsimp only at hSw);go_simp;(try with_reducible rfl))
   (try simp only[Act.put,List.setIfInBounds_toArray,List.set_cons_zero,List.set_cons_succ])
   refine oneR (i:=28) (by kernel_rfl) rfl (fun K hK=>?_);go_simp;go_at_call 54;refine(dig_any xg w1.drew true hn3).mono ?_;rintro e w3 ⟨rfl,hb3⟩;have hb13:Below w1.heap.size w1 w3:=(Below.refl w1.heap.size w1).drew.trans hb3;have hC3:w3.cell? ⟨wb,0,none⟩=some (.string ⟨#[102,105,108,101]⟩)∧w3.cell? ⟨wb,1,none⟩=some (.string xn)∧w3.cell? ⟨wb,2,none⟩=some (.string xg)∧w3.cell? ⟨wb,3,none⟩=some (.string ⟨#[120]⟩):=⟨keepC hb13 c0,keepC hb13 c1,keepC hb13 c2,keepC hb13 c3⟩;have hz3:=blk_below hz1H.out (by simp) hb13;have hb03:=hb01H.out.trans (hb13.mono hb01H.out.size);clear hC c0 c1 c2 c3;have hC:=hC3;obtain⟨hb3H,hb13H,hz3H,hb03H⟩:=hq2 hb3 (hq2 hb13 (hq2 hz3 (Lib.hid hb03)));clear hb3 hb13 hz3 hb03;refine hK.out _ _ ⟨fun _ _ _=>trivial,fun _ _=>hC3⟩ ?_;clear hK K
   (try simp only[Act.put,List.setIfInBounds_toArray,List.set_cons_zero,List.set_cons_succ])
   refine takeC (i:=29) (d:=some 69) (v:=?_) rfl rfl (by kernel_rfl) (by kernel_rfl) (by kernel_rfl) (by kernel_rfl) (fun _ _ _ h=>h) (Or.inl ⟨by rfl,?_⟩) hC ?_
   rotate_left
   ·(intro w hSw;(try dsimp only at hSw);go_simp;(try with_reducible rfl))
   (try simp only[Act.put,List.setIfInBounds_toArray,List.set_cons_zero,List.set_cons_succ])
   obtain⟨z0,f0⟩:=hz3H.out 0 _ rfl;obtain⟨z1,f1⟩:=hz3H.out 1 _ rfl;obtain⟨z2,f2⟩:=hz3H.out 2 _ rfl;obtain⟨z3,f3⟩:=hz3H.out 3 _ rfl;refine oneR (i:=30) (by kernel_rfl) rfl (fun K hK=>?_);go_simp;obtain⟨w4,hw4⟩:∃ W,(((w3.setCell ⟨nb,0,none⟩ (.string xn)).setCell ⟨nb,1,none⟩ (.string xg)).setCell ⟨nb,2,none⟩ (.bool false)).setCell ⟨nb,3,none⟩ (.bool true)=W:=⟨_,rfl⟩;rw[hw4];have hz4:Blk w4 nb [.string xn,.string xg,.bool false,.bool true]:=by
    rw[← hw4];exact(((hz3H.out.set (k:=0) (by simp) (.string xn)).set (k:=1) (by simp) (.string xg)).set (k:=2) (by simp) (.bool false)).set (k:=3) (by simp) (.bool true)
   have hkeep:∀ (a:Addr) v,a.block≠nb→w3.cell? a=some v→w4.cell? a=some v:=by
    intro a v ha hv;rw[← hw4,World.cell?_setCell_other _ _ _ _ (fun e=>ha (by rw[← e])),World.cell?_setCell_other _ _ _ _ (fun e=>ha (by rw[← e])),World.cell?_setCell_other _ _ _ _ (fun e=>ha (by rw[← e])),World.cell?_setCell_other _ _ _ _ (fun e=>ha (by rw[← e]))];exact hv
   have hb04:Below w.heap.size w w4:=by
    rw[← hw4];exact(((hb03H.out.setCell (by rw[hnb];exact Nat.le_refl _) _).setCell (by rw[hnb];exact Nat.le_refl _) _).setCell (by rw[hnb];exact Nat.le_refl _) _).setCell (by rw[hnb];exact Nat.le_refl _) _
   have hne:wb≠nb:=by omega
   have R:=hZ'H.out _ w4 ⟨rfl,hb04⟩;obtain⟨t0,-⟩:=hz4 0 _ rfl;obtain⟨t1,-⟩:=hz4 1 _ rfl;obtain⟨t2,-⟩:=hz4 2 _ rfl;obtain⟨t3,-⟩:=hz4 3 _ rfl;have hC4:=(⟨hkeep _ _ hne hC3.1,hkeep _ _ hne hC3.2.1,hkeep _ _ hne hC3.2.2.1,hkeep _ _ hne hC3.2.2.2⟩:w4.cell? ⟨wb,0,none⟩=some (.string ⟨#[102,105,108,101]⟩)∧w4.cell? ⟨wb,1,none⟩=some (.string xn)∧w4.cell? ⟨wb,2,none⟩=some (.string xg)∧w4.cell? ⟨wb,3,none⟩=some (.string ⟨#[120]⟩));clear hC hC3 z0 z1 z2 z3 f0 f1 f2 f3 hkeep;have hC:=hC4;obtain⟨hb04H,hz4H,RH,hw4H⟩:=hq2 hb04 (hq2 hz4 (hq2 R (Lib.hid hw4)));clear hb04 hz4 R hw4;refine hK.out _ _ ⟨fun _ _ _=>trivial,fun _ _=>hC4⟩ ?_;clear hK K
   (try simp only[Act.put,List.setIfInBounds_toArray,List.set_cons_zero,List.set_cons_succ])
   refine oneR (i:=31) (by kernel_rfl) rfl (fun K hK=>?_);go_simp;refine hK.out _ _ ⟨fun _ _ _=>trivial,fun _ h=>h⟩ ?_;clear hK K
   (try simp only[Act.put,List.setIfInBounds_toArray,List.set_cons_zero,List.set_cons_succ])
   refine doneR (by kernel_rfl) ?_ _;clear hC hC4;go_wp2_with fail;exact bodyPost_ret (v:=.tuple #[.agg #[.string xn,.string xg,.bool false,.bool true],.bool true]) (by simp[results,Tryz.results58,go_sem,t0,t1,t2,t3]) rfl RH.out
def REn:Rd Ent :=
 ⟨4,fun x=>[.string x.name,.string x.digest,.bool x.dir,.bool x.run],fun _ _=>True,fun _=>0,fun _=>rfl,fun _ u h=>by simp only[List.mem_cons,List.not_mem_nil,or_false]at h;rcases h with rfl | rfl | rfl | rfl <;> rfl,fun _ _ _ _ _=>trivial⟩
theorem cells_Ent {w:World} {b off n k:Nat} {l:List Ent} {x:Ent} (h:SlAt REn w (some ⟨b,off,none⟩) n l) (hx:l[k]? = some x):w.cell? ⟨b,off+k*4,none⟩=some (.string x.name)∧w.cell? ⟨b,off+k*4+1,none⟩=some (.string x.digest)∧w.cell? ⟨b,off+k*4+2,none⟩=some (.bool x.dir)∧w.cell? ⟨b,off+k*4+3,none⟩=some (.bool x.run):=by
 have hk:=(List.getElem?_eq_some_iff.1 hx).1;obtain⟨b',off',hA,hc⟩:=h.2.1 (by have:=h.1;omega);obtain⟨rfl,rfl⟩:b=b'∧off=off':=by simpa using hA
 exact⟨hc k x hx 0 _ rfl,hc k x hx 1 _ rfl,hc k x hx 2 _ rfl,hc k x hx 3 _ rfl⟩
theorem elem_Ent:Elem Tryz.prog 73 REn.size 40:=elem_of (z:=.agg #[.string ⟨#[]⟩,.string ⟨#[]⟩,.bool false,.bool false]) (by kernel_rfl) (by decide)
def lenO:Value→Nat | .slice _ n _=>n | _=>0
def RdRel (E:List Ent) (w:World) (v s:Value) (wr:World):Prop :=
 ∃ (k:Nat) (A:Option Addr) (c:Nat),k≤E.length∧v = .slice A k c∧s = .string (bsOf ((E.drop k).flatMap lineE))∧Own REn 73 wr w.heap.size v (E.take k)∧Below w.heap.size w wr
def RdAns (E:List Ent) (w:World) (e:Ending) (w':World):Prop :=
 ∃ (A:Option Addr) (c:Nat),e = .returned (.tuple #[.slice A E.length c,.bool true])∧Own REn 73 w' w.heap.size (.slice A E.length c) E∧Below w.heap.size w w'
theorem readDir_any (E:List Ent) (hE:∀ e∈E,EntOk e) (ho:E.Pairwise fun a b=>cmpS a.name b.name = -1) (hn:E.length≤4000) (A:Option Addr) (m c:Nat) (w:World) (hmx:MaxLenAt w) (hl:(RSl RU8).ok w ⟨A,m,c,E.flatMap lineE⟩) (hm:m≤2000000) :
  Calls Tryz.prog 23 #[.slice A m c] w (RdAns E w):=by
 obtain⟨Z,hZ⟩:∃ Z,RdAns E w=Z:=⟨_,rfl⟩;have hZ':∀ e W,RdAns E w e W→Z e W:=fun e W h=>by rw[← hZ];exact h
 rw[hZ];clear hZ;have hcv:=conv_gen hl;have htl:(E.flatMap lineE).length≤2000000:=by have h1:(E.flatMap lineE).length=m:=hl.1.1;omega
 obtain⟨S0,hS0⟩:∃ S,bsOf (E.flatMap lineE)=S:=⟨_,rfl⟩;have hst:RdRel E w (.slice none 0 0) (.string S0) w:=⟨0,none,0,Nat.zero_le _,rfl,by rw[← hS0];rfl,Own.nil _ _,Below.refl _ _⟩;rw[hS0]at hcv;obtain⟨hZ'H,hmxH,hlH,hstH,hEH,hoH,htlH,hS0H⟩:=hq2 hZ' (hq2 hmx (hq2 hl (hqb hst hE ho htl (Lib.hid hS0))));clear hZ' hmx hl hst hE ho htl hS0;go_enter Tryz.func23,Tryz.ntmps23;go_wp2_with fail
 go_loopw [4,5] (fun v s wr=>RdRel E w v s wr) (fun v _ _=>E.length-lenO v)
 case atStart=>exact hstH.out
 case round =>
  clear hstH hcv;obtain⟨k,A2,c2,hk,rfl,rfl,hown,hb⟩:=hrel
  by_cases hlt:k<E.length
  ·obtain⟨x,hx⟩:∃ x,E[k]? = some x:=⟨E[k]'hlt,List.getElem?_eq_getElem _⟩;have hxm:=List.mem_of_getElem? hx;have hxo:=hEH.out x hxm;have hdk:E.drop k=x::E.drop (k+1):=drop_cons hx;obtain⟨S,hS⟩:∃ S,bsOf ((E.drop k).flatMap lineE)=S:=⟨_,rfl⟩;have hSd:S.data.toList=lineE x++(E.drop (k+1)).flatMap lineE:=by rw[← hS,data_bsOf,hdk,List.flatMap_cons]
   have hSz:S.size≤2000000:=by
    have h1:(E.take k).flatMap lineE++(E.drop k).flatMap lineE=E.flatMap lineE:=by rw[← List.flatMap_append,List.take_append_drop]
    have h2:=congrArg List.length h1;rw[List.length_append]at h2;have h3:S.size=((E.drop k).flatMap lineE).length:=by rw[Lib.size_eq,← hS,data_bsOf]
    have h4:=htlH.out;omega
   have hne:S.toList.isEmpty=false:=by
    rw[Lib.toList_data,hSd,List.isEmpty_eq_false_iff];exact lineE_ne x _
   rw[hS];obtain⟨mm,hmm⟩:=hmxH.out.below hb;have hcut:=Tryz.strings_Cut S ⟨#[10]⟩ mm wr (by omega) hmm;rw[show (⟨#[10]⟩:ByteArray).data.toList = [10] from rfl,hSd,cut_lines hxo]at hcut;simp only at hcut;rw[show (⟨(lnE x).data.toList.toArray⟩:ByteArray)=lnE x from rfl,show (⟨((E.drop (k+1)).flatMap lineE).toArray⟩:ByteArray)=bsOf ((E.drop (k+1)).flatMap lineE) from rfl]at hcut;obtain⟨S2,hS2⟩:∃ S,bsOf ((E.drop (k+1)).flatMap lineE)=S:=⟨_,rfl⟩;obtain⟨ln,hln⟩:∃ s,lnE x=s:=⟨_,rfl⟩;have hre:=fun W h=>readEntry_any x hxo W h;rw[hS2,hln]at hcut;rw[hln]at hre;have hmxr:=hmxH.out.below hb;obtain⟨xn,xg,xd,xr⟩:=x;obtain⟨hownH,hbH,hxH,hxmH,hxoH,hdkH,hSH,hSdH,hcutH,hreH,hS2H,hlnH,hmxrH⟩:=hqb hown hb hx hxm (hqc hxo hdk hS hSd hcut hre hS2 hln (Lib.hid hmxr));clear hown hb hx hxm hxo hdk hS hSd hcut hre hS2 hln hmxr;go_wp2_with fail;refine hcutH.out.mono ?_;rintro e w1 ⟨rfl,q,rfl⟩;have hbq:Below wr.heap.size wr (wr.drewN q):=bel_drewN (Below.refl _ _) q;have hbqH:=Lib.hid hbq;clear hbq;go_wp2_with fail;refine(hreH.out (wr.drewN q) (hmxrH.out.below hbqH.out)).mono ?_;rintro e w2 ⟨rfl,hb2⟩;unfold entV;simp only;have hbr2:Below wr.heap.size wr w2:=hbqH.out.trans hb2;have hown2:=hownH.out.below hbr2;have hbw2:=hbH.out.trans (hbr2.mono hbH.out.size);obtain⟨eb,heb⟩:∃ b,w2.heap.size=b:=⟨_,rfl⟩;obtain⟨W3,hW3⟩:∃ W,w2.alloc (.cells #[.string xn,.string xg,.bool xd,.bool xr] 73)=W:=⟨_,rfl⟩;have hb23:Below w2.heap.size w2 W3:=by rw[← hW3];exact(Below.refl _ _).alloc (Nat.le_refl _) _
   have hz3:Blk W3 w2.heap.size [.string xn,.string xg,.bool xd,.bool xr]:=by rw[← hW3];exact blk_new w2 _ _
   rw[heb]at hz3;have hown3:=hown2.below hb23;have hbw3:=hbw2.trans (hb23.mono hbw2.size);obtain⟨z0,-⟩:=hz3 0 _ rfl;obtain⟨z1,-⟩:=hz3 1 _ rfl;obtain⟨z2,-⟩:=hz3 2 _ rfl;obtain⟨z3,-⟩:=hz3 3 _ rfl;have hlen:=hownH.out.len;obtain⟨hb2H,hbr2H,hown2H,hbw2H,hb23H,hz3H,hown3H,hbw3H⟩:=hq2 hb2 (hq2 hbr2 (hq2 hown2 (hqb hbw2 hb23 hz3 hown3 (Lib.hid hbw3))));clear hb2 hbr2 hown2 hbw2 hb23 hz3 hown3 hbw3;have htk:E.take (k+1)=E.take k ++ [⟨xn,xg,xd,xr⟩]:=by rw[List.take_add_one,hxH.out];rfl
   have hnew:∀ q,SlAt REn ((W3.drewN q).alloc (.cells #[.string xn,.string xg,.bool xd,.bool xr] 73)) (some ⟨W3.heap.size,0,none⟩) 1 [⟨xn,xg,xd,xr⟩]:=fun q=>slAt_new (R:=REn) (W3.drewN q) 73 (⟨xn,xg,xd,xr⟩:Ent) trivial;have hbq:∀ q,Below W3.heap.size W3 ((W3.drewN q).alloc (.cells #[.string xn,.string xg,.bool xd,.bool xr] 73)):=fun q=>(bel_drewN (Below.refl _ _) q).alloc (Nat.le_refl _) _;have hownq:=fun q=>hown3H.out.below (hbq q);have hw3s:=hbw3H.out.size;have hk1:k+1≤E.length:=by omega
   obtain⟨htkH,hnewH,hbqH,hownqH⟩:=hq2 htk (hq2 hnew (hq2 hbq (Lib.hid hownq)));clear htk hnew hbq hownq
   by_cases hk0:0<k
   ·have e5:decide (0<k)=true:=decide_eq_true hk0;obtain⟨z,hz9⟩:∃ z,E[k-1]? = some z:=⟨E[k-1]'(by omega),List.getElem?_eq_getElem _⟩;have hz9t:(E.take k)[k-1]? = some z:=by rw[List.getElem?_take,if_pos (by omega)];exact hz9
    obtain⟨g,hA⟩:=own_form hown3H.out hk0;subst hA;obtain⟨f0,-⟩:=cells_Ent hown3H.out.slAt hz9t;have hcmp:cmpS z.name xn = -1:=by
     obtain⟨h1,e1⟩:=List.getElem?_eq_some_iff.1 hz9;obtain⟨h2,e2⟩:=List.getElem?_eq_some_iff.1 hxH.out;have:=List.pairwise_iff_getElem.1 hoH.out (k-1) k h1 h2 (by omega);rw[e1,e2]at this;exact this
    have hle:sle xn z.name=false:=by
     rw[sle_cmp,decide_eq_false_iff_not,cmpS_swap,hcmp];decide
    obtain⟨zd,hzd⟩:∃ zd,z.name=zd:=⟨_,rfl⟩;rw[hzd]at f0 hle;have hle':(Op.bytesLess xn.toList zd.toList||xn.toList==zd.toList)=false:=hle;have j0:(0:Int)≤(k:Int)-1:=by omega
    have j1:(k:Int)-1<(k:Int):=by omega
    have j2:((k:Int)-1).toNat=k-1:=by omega
    have f0':W3.cell? ⟨g,(k-1)*4,none⟩=some (.string zd):=by simpa using f0
    clear hle hcmp f0;obtain⟨hz9H,hzdH,hz9tH⟩:=hq2 hz9 (hq2 hzd (Lib.hid hz9t));clear hz9 hzd hz9t;go_wp2_with fail
    go_quiet (fail)
    go_wp2_with (at_builtin;go_loud (refine wpList_app rfl (.tmp 49) (.tmp 51) 69 rfl Tryz.underlying69 elem_Ent (by decide) rfl (hownqH.out _) (some ⟨W3.heap.size,0,none⟩) 1 1 [⟨xn,xg,xd,xr⟩] rfl (hnewH.out _) ?nn ?ok ?c1 ?c2 ?c3 (k+1) ?c4 ?_))
    case nn=>intro h;cases h
    case ok=>exact fun _ _ _ _ h=>h
    case c1=>rw[hlen];unfold maxLen;omega
    case c2=>rw[hlen];omega
    case c3=>simp;omega
    case c4=>rw[hlen]
    intro A8 c8 w8 hown8 hg8 hat8 hb8;have hb38:Below w.heap.size w w8:=(hbw3H.out.trans ((hbqH.out _).mono hw3s)).trans hb8;have R:RdRel E w (.slice A8 (k+1) c8) (.string S2) w8:=⟨k+1,A8,c8,hk1,rfl,by rw[hS2H.out],by rw[htkH.out];exact hown8,hb38⟩;clear hown8 hg8 hat8 hb8 hb38;have RH:=Lib.hid R;clear R;go_wp2;refine⟨?rel,?measure⟩
    case measure=>simp[lenO];omega
    case rel=>exact RH.out
   ·have e5:decide (0<k)=false:=decide_eq_false hk0;go_wp2_with fail
    go_quiet (fail)
    go_wp2_with (at_builtin;go_loud (refine wpList_app rfl (.tmp 49) (.tmp 51) 69 rfl Tryz.underlying69 elem_Ent (by decide) rfl (hownqH.out _) (some ⟨W3.heap.size,0,none⟩) 1 1 [⟨xn,xg,xd,xr⟩] rfl (hnewH.out _) ?nn ?ok ?c1 ?c2 ?c3 (k+1) ?c4 ?_))
    case nn=>intro h;cases h
    case ok=>exact fun _ _ _ _ h=>h
    case c1=>rw[hlen];unfold maxLen;omega
    case c2=>rw[hlen];omega
    case c3=>simp;omega
    case c4=>rw[hlen]
    intro A8 c8 w8 hown8 hg8 hat8 hb8;have hb38:Below w.heap.size w w8:=(hbw3H.out.trans ((hbqH.out _).mono hw3s)).trans hb8;have R:RdRel E w (.slice A8 (k+1) c8) (.string S2) w8:=⟨k+1,A8,c8,hk1,rfl,by rw[hS2H.out],by rw[htkH.out];exact hown8,hb38⟩;clear hown8 hg8 hat8 hb8 hb38;have RH:=Lib.hid R;clear R;go_wp2;refine⟨?rel,?measure⟩
    case measure=>simp[lenO];omega
    case rel=>exact RH.out
  ·obtain rfl:k=E.length:=by omega
   rw[List.take_of_length_le (by omega)]at hown;rw[List.drop_eq_nil_of_le (Nat.le_refl _),show bsOf (([]:List Ent).flatMap lineE)=(⟨#[]⟩:ByteArray) from rfl];have he0:(⟨#[]⟩:ByteArray).toList.isEmpty=true:=by rw[Lib.toList_data];rfl
   have R:=hZ'H.out (.returned (.tuple #[.slice A2 E.length c2,.bool true])) wr ⟨A2,c2,rfl,hown,hb⟩;obtain⟨hownH,hbH,RH⟩:=hq2 hown (hq2 hb (Lib.hid R));clear hown hb R;go_wp2_with fail;exact RH.out
end Go.Proofs.YtpdjjjiknijpkaaGreatDoor.C10