/-
 Several texts of mine as one, without what is not wanted here: XWrG, XWrH, XObW, XWrI.
-/
import Derived.Test.YtpdjjjiknijpkaaGreatDoorTvQC10
import Derived.Deep.RegionLaw
set_option linter.unusedVariables false
set_option linter.unusedSimpArgs false
set_option maxRecDepth 100000
set_option maxHeartbeats 8000000
namespace Go.Proofs.YtpdjjjiknijpkaaGreatDoor.C10
open Go.ChangeShapes Go.WideShapes Go.Deep Go.RowKit Go.Lib
theorem SnM.part {T sb n' cP cP':Nat} {rest:List Value} {AP AP':Option Addr} {vD:Value} {D:List ObT} {w w5:World} {P P':List PaT} {nP:Nat} (h:SnM T sb rest vD (.slice AP nP cP) (.slice none 0 0) D P [] w)
  (ho:Own RPv 125 w5 T (.slice AP' n' cP') P') (hg:w.grownBy w5 (Value.slice AP nP cP).ownBlock) (hat:(Value.slice AP' n' cP').ownBlock=(Value.slice AP nP cP).ownBlock∨(Value.slice AP' n' cP').ownBlock=some w.heap.size) :
  SnM T sb rest vD (.slice AP' n' cP') (.slice none 0 0) D P' [] (w5.setCell ⟨sb,1,none⟩ (.slice AP' n' cP')):=by
 have hlt:=h.lt;have hgs:=grown_setc w5 ⟨sb,1,none⟩ (.slice AP' n' cP');have hPD:=dj_step h.dDP.symm hat (own_lt h.oD);have hnP:∀ g,(Value.slice AP' n' cP').ownBlock=some g→g≠sb:=fun g hg9 e=>by
  rcases hat with h1 | h1
  ·exact h.nP g (h1 ▸ hg9) e
  ·rw[h1]at hg9;injection hg9 with hg9;omega
 have hb5:Blk w5 sb (vD :: .slice AP nP cP::rest):=h.blk.keep (hg.block sb hlt fun e=>h.nP sb e.symm rfl);refine⟨hb5.set (k:=1) (by simp) _,own_apart (h.oD.kept hg h.dDP.ne (fun _ _ h=>h)) _ h.nD (fun _ h=>h),own_apart ho _ hnP (fun _ h=>h),Own.nil _ _,hPD.symm,h.dDB,(fun g _ e=>by cases e),h.nD,hnP,h.nB,fun y hy=>?_,h.tb⟩;obtain⟨h2,h3⟩:=h.el y hy;refine⟨sl_grown (sl_grown h2 hg fun hn ad hA e=>(h3 hn ad hA).2.2.1 e.symm) hgs fun hn ad hA e=>(h3 hn ad hA).1 (by injection e),fun hn ad hA=>?_⟩;obtain⟨q1,q2,q3,q4⟩:=h3 hn ad hA;refine⟨q1,q2,fun e=>?_,q4⟩
 rcases hat with h4 | h4
 ·exact q3 (h4 ▸ e)
 ·rw[h4]at e;injection e with e;have:=sl_lt h2 hn hA;omega
def BnAns (S:Nat→Prop) (T sb:Nat) (rest:List Value) (vD vP:Value) (D:List ObT) (d:ByteArray) (s:Nat) (w:World) (e:Ending) (w':World):Prop :=
 ∃ vP',(∀ g,vP'.ownBlock=some g→vP.ownBlock=some g∨w.heap.size≤g)∧HvAns S T sb rest vD vP' (.slice none 0 0) D [⟨d,s,⟨none,0,0,[]⟩⟩] [] d 0 w e w'
theorem begin_empty (T sb:Nat) (rest:List Value) (vD:Value) (AP:Option Addr) (cP:Nat) (D:List ObT) (d:ByteArray) (s:Nat) (hs0:s=0) (w:World) (hM:SnM T sb rest vD (.slice AP 0 cP) (.slice none 0 0) D [] [] w) (hd:digF []=d) (hDl:D.length<4000) (hs:D.Pairwise fun a b=>cmpS a.dig b.dig = -1) (hno:∀ x∈D,x.dig≠d) :
  Calls Tryz.prog 99 #[.pointer (some ⟨sb,0,none⟩),msgV 1 d 0 s (.slice none 0 0)] w (WhAns T sb rest vD (.slice AP 0 cP) D d none 0 0 [] w):=by
 obtain⟨Z,hZ⟩:∃ Z,WhAns T sb rest vD (.slice AP 0 cP) D d none 0 0 [] w=Z:=⟨_,rfl⟩;have hZ':∀ e W,WhAns T sb rest vD (.slice AP 0 cP) D d none 0 0 [] w e W→Z e W:=fun e W h=>by rw[← hZ];exact h
 rw[hZ];clear hZ;obtain⟨hsH,hnoH,hdH,hs0H⟩:=hq2 hs (hq2 hno (hq2 hd (Lib.hid hs0)));clear hs hno hd hs0;unfold msgV;obtain⟨W2,hW2⟩:∃ W,(w.alloc (.cells #[.int .i64 1,.string d,.int .i64 0,.int .i64 s,.slice none 0 0] 131)).alloc (.cells #[.int .i64 0,.string ⟨#[]⟩,.int .i64 0,.int .i64 0,.slice none 0 0] 131)=W:=⟨_,rfl⟩;have hb2:Below w.heap.size w W2:=by rw[← hW2];exact((Below.refl _ _).alloc (Nat.le_refl _) _).alloc (by simp) _
 have hzi:Blk W2 w.heap.size (msgL 1 d 0 s (.slice none 0 0)):=by
  rw[← hW2];unfold msgL;exact blk_below (blk_new w [.int .i64 1,.string d,.int .i64 0,.int .i64 s,.slice none 0 0] 131) (by simp) ((Below.refl _ _).alloc (Nat.le_refl _) _)
 have hzm:Blk W2 (w.heap.size+1) zmV:=by
  rw[← hW2];have:=blk_new (w.alloc (.cells #[.int .i64 1,.string d,.int .i64 0,.int .i64 s,.slice none 0 0] 131)) [.int .i64 0,.string ⟨#[]⟩,.int .i64 0,.int .i64 0,.slice none 0 0] 131
  simpa[zmV]using this
 have hM2:=hM.below hb2;obtain⟨ib,hib⟩:∃ b,w.heap.size=b:=⟨_,rfl⟩;have hfi:=hM.fresh (m:=ib) (by omega);have hfm:=hM.fresh (m:=ib+1) (by omega);rw[hib]at hzi hzm;obtain⟨i1,-⟩:=hzi 1 _ rfl;obtain⟨i3,-⟩:=hzi 3 _ rfl;obtain⟨r0,-⟩:=hM2.blk 0 _ rfl;obtain⟨r1,-⟩:=hM2.blk 1 _ rfl;have hbd:Below W2.heap.size W2 W2.drew:=(Below.refl _ _).drew;have hpa:=partAt_any AP 0 cP vD [] d W2.drew (by decide) (hM2.oP.slAt.below hbd) .nil;obtain⟨hZ'H,hMH,hb2H,hziH,hzmH,hM2H,hfiH,hfmH,hbdH,hpaH⟩:=hq2 hZ' (hqc hM hb2 hzi hzm hM2 hfi hfm hbd (Lib.hid hpa));clear hZ' hM hb2 hzi hzm hM2 hfi hfm hbd hpa;go_enter Tryz.func99,Tryz.ntmps99;go_wp2_with fail;refine startR (R:=Rk (fun _=>True) (fun V=>V.cell? ⟨sb,0,none⟩=some vD∧V.cell? ⟨sb,1,none⟩=some (.slice AP 0 cP)∧V.cell? ⟨ib,1,none⟩=some (.string d)) 99 99) (by kernel_rfl) ?_;have hC:W2.drew.cell? ⟨sb,0,none⟩=some vD∧W2.drew.cell? ⟨sb,1,none⟩=some (.slice AP 0 cP)∧W2.drew.cell? ⟨ib,1,none⟩=some (.string d):=⟨r0,r1,i1⟩;refine takeC (i:=0) (d:=some 9) (v:=?_) rfl rfl (by kernel_rfl) (by kernel_rfl) (by kernel_rfl) (by kernel_rfl) (fun _ _ _ h=>h) (Or.inl ⟨by rfl,?_⟩) hC ?_
 rotate_left
 ·(intro w hSw;(try dsimp only at hSw);go_simp;(try with_reducible rfl))
 (try simp only[Act.put,List.setIfInBounds_toArray,List.set_cons_zero,List.set_cons_succ])
 refine takeC (i:=1) (d:=some 10) (v:=?_) rfl rfl (by kernel_rfl) (by kernel_rfl) (by kernel_rfl) (by kernel_rfl) (fun _ _ _ h=>h) (Or.inl ⟨by rfl,?_⟩) hC ?_
 rotate_left
 ·(intro w hSw;(try dsimp only at hSw);go_simp;(try with_reducible rfl))
 (try simp only[Act.put,List.setIfInBounds_toArray,List.set_cons_zero,List.set_cons_succ])
 refine takeC (i:=2) (d:=some 11) (v:=?_) rfl rfl (by kernel_rfl) (by kernel_rfl) (by kernel_rfl) (by kernel_rfl) (fun _ _ _ h=>h) (Or.inl ⟨by rfl,?_⟩) hC ?_
 rotate_left
 ·(intro w hSw;(try dsimp only at hSw);go_simp;(try with_reducible rfl))
 (try simp only[Act.put,List.setIfInBounds_toArray,List.set_cons_zero,List.set_cons_succ])
 refine takeC (i:=3) (d:=some 12) (v:=?_) rfl rfl (by kernel_rfl) (by kernel_rfl) (by kernel_rfl) (by kernel_rfl) (fun _ _ _ h=>h) (Or.inl ⟨by rfl,?_⟩) hC ?_
 rotate_left
 ·(intro w hSw;(try dsimp only at hSw);go_simp;(try with_reducible rfl))
 (try simp only[Act.put,List.setIfInBounds_toArray,List.set_cons_zero,List.set_cons_succ])
 refine takeC (i:=4) (d:=some 13) (v:=?_) rfl rfl (by kernel_rfl) (by kernel_rfl) (by kernel_rfl) (by kernel_rfl) (fun _ _ _ h=>h) (Or.inl ⟨by rfl,?_⟩) hC ?_
 rotate_left
 ·(intro w hSw;(try dsimp only at hSw);go_simp;(try with_reducible rfl))
 (try simp only[Act.put,List.setIfInBounds_toArray,List.set_cons_zero,List.set_cons_succ])
 refine oneR (i:=5) (by kernel_rfl) rfl (fun K hK=>?_);go_simp;go_at_call 98;refine hpaH.out.mono ?_;rintro e w3 ⟨k,f,rfl,hb3,hat⟩;have hb23:Below W2.heap.size W2 w3:=hbdH.out.trans hb3;obtain⟨rfl,rfl⟩:k=0∧f=false:=by
  have h0:=hat.le;refine⟨by simpa using h0,?_⟩
  cases f
  ·rfl
  ·obtain⟨x,hx,_⟩:=hat.yes rfl;simp at hx
 have hM3:=hM2H.out.below hb23;have hC3:w3.cell? ⟨sb,0,none⟩=some vD∧w3.cell? ⟨sb,1,none⟩=some (.slice AP 0 cP)∧w3.cell? ⟨ib,1,none⟩=some (.string d):=⟨keepC hb23 r0,keepC hb23 r1,keepC hb23 i1⟩;have u3:=keepC hb23 i3;have hzm3:=blk_below hzmH.out (by simp[zmV]) hb23;obtain⟨hb3H,hatH,hb23H,hM3H,hzm3H⟩:=hqb hb3 hat hb23 hM3 (Lib.hid hzm3);clear hb3 hat hb23 hM3 hzm3;refine hK.out _ _ ⟨fun _ _ _=>trivial,fun _ _=>hC3⟩ ?_;clear hK K
 (try simp only[Act.put,List.setIfInBounds_toArray,List.set_cons_zero,List.set_cons_succ])
 clear hC;have hC:=hC3;refine takeC (i:=6) (d:=some 8) (v:=?_) rfl rfl (by kernel_rfl) (by kernel_rfl) (by kernel_rfl) (by kernel_rfl) (fun _ _ _ h=>h) (Or.inl ⟨by rfl,?_⟩) hC ?_
 rotate_left
 ·(intro w hSw;(try dsimp only at hSw);go_simp;(try with_reducible rfl))
 (try simp only[Act.put,List.setIfInBounds_toArray,List.set_cons_zero,List.set_cons_succ])
 refine takeC (i:=7) (d:=some 15) (v:=?_) rfl rfl (by kernel_rfl) (by kernel_rfl) (by kernel_rfl) (by kernel_rfl) (fun _ _ _ h=>h) (Or.inl ⟨by rfl,?_⟩) hC ?_
 rotate_left
 ·(intro w hSw;(try dsimp only at hSw);go_simp;(try with_reducible rfl))
 (try simp only[Act.put,List.setIfInBounds_toArray,List.set_cons_zero,List.set_cons_succ])
 refine takeC (i:=8) (d:=some 16) (v:=?_) rfl rfl (by kernel_rfl) (by kernel_rfl) (by kernel_rfl) (by kernel_rfl) (fun _ _ _ h=>h) (Or.inl ⟨by rfl,?_⟩) hC ?_
 rotate_left
 ·(intro w hSw;(try dsimp only at hSw);go_simp;(try with_reducible rfl))
 (try simp only[Act.put,List.setIfInBounds_toArray,List.set_cons_zero,List.set_cons_succ])
 refine takeC (i:=9) (d:=some 6) (v:=?_) rfl rfl (by kernel_rfl) (by kernel_rfl) (by kernel_rfl) (by kernel_rfl) (fun _ _ _ h=>h) (Or.inl ⟨by rfl,?_⟩) hC ?_
 rotate_left
 ·(intro w hSw;(try dsimp only at hSw);go_simp;(try with_reducible rfl))
 (try simp only[Act.put,List.setIfInBounds_toArray,List.set_cons_zero,List.set_cons_succ])
 refine takeC (i:=10) (d:=some 7) (v:=?_) rfl rfl (by kernel_rfl) (by kernel_rfl) (by kernel_rfl) (by kernel_rfl) (fun _ _ _ h=>h) (Or.inl ⟨by rfl,?_⟩) hC ?_
 rotate_left
 ·(intro w hSw;(try dsimp only at hSw);go_simp;(try with_reducible rfl))
 (try simp only[Act.put,List.setIfInBounds_toArray,List.set_cons_zero,List.set_cons_succ])
 refine doneR (by kernel_rfl) ?_ _;clear hC r0 r1 i1 i3;obtain⟨q0,q1,q2⟩:=hC3;go_wp2_with fail;refine startR (R:=Rk (fun _=>True) (fun V=>True) 99 99) (by kernel_rfl) ?_;have hC:True:=trivial;refine takeC (i:=0) (d:=some 17) (v:=?_) rfl rfl (by kernel_rfl) (by kernel_rfl) (by kernel_rfl) (by kernel_rfl) (fun _ _ _ h=>h) (Or.inl ⟨by rfl,?_⟩) hC ?_
 rotate_left
 ·(intro w hSw;(try dsimp only at hSw);go_simp;(try with_reducible rfl))
 (try simp only[Act.put,List.setIfInBounds_toArray,List.set_cons_zero,List.set_cons_succ])
 refine takeC (i:=1) (d:=some 18) (v:=?_) rfl rfl (by kernel_rfl) (by kernel_rfl) (by kernel_rfl) (by kernel_rfl) (fun _ _ _ h=>h) (Or.inl ⟨by rfl,?_⟩) hC ?_
 rotate_left
 ·(intro w hSw;(try dsimp only at hSw);go_simp;(try with_reducible rfl))
 (try simp only[Act.put,List.setIfInBounds_toArray,List.set_cons_zero,List.set_cons_succ])
 refine takeC (i:=2) (d:=some 19) (v:=undef) rfl rfl (by kernel_rfl) (by kernel_rfl) (by kernel_rfl) (by kernel_rfl) (fun _ _ _ h=>h) (Or.inr ⟨by rfl,rfl⟩) hC ?_
 (try simp only[Act.put,List.setIfInBounds_toArray,List.set_cons_zero,List.set_cons_succ])
 refine takeC (i:=3) (d:=some 20) (v:=undef) rfl rfl (by kernel_rfl) (by kernel_rfl) (by kernel_rfl) (by kernel_rfl) (fun _ _ _ h=>h) (Or.inr ⟨by rfl,rfl⟩) hC ?_
 (try simp only[Act.put,List.setIfInBounds_toArray,List.set_cons_zero,List.set_cons_succ])
 refine takeC (i:=4) (d:=some 21) (v:=undef) rfl rfl (by kernel_rfl) (by kernel_rfl) (by kernel_rfl) (by kernel_rfl) (fun _ _ _ h=>h) (Or.inr ⟨by rfl,rfl⟩) hC ?_
 (try simp only[Act.put,List.setIfInBounds_toArray,List.set_cons_zero,List.set_cons_succ])
 refine takeC (i:=5) (d:=some 22) (v:=undef) rfl rfl (by kernel_rfl) (by kernel_rfl) (by kernel_rfl) (by kernel_rfl) (fun _ _ _ h=>h) (Or.inr ⟨by rfl,rfl⟩) hC ?_
 (try simp only[Act.put,List.setIfInBounds_toArray,List.set_cons_zero,List.set_cons_succ])
 refine takeC (i:=6) (d:=some 23) (v:=undef) rfl rfl (by kernel_rfl) (by kernel_rfl) (by kernel_rfl) (by kernel_rfl) (fun _ _ _ h=>h) (Or.inr ⟨by rfl,rfl⟩) hC ?_
 (try simp only[Act.put,List.setIfInBounds_toArray,List.set_cons_zero,List.set_cons_succ])
 refine takeC (i:=7) (d:=some 24) (v:=undef) rfl rfl (by kernel_rfl) (by kernel_rfl) (by kernel_rfl) (by kernel_rfl) (fun _ _ _ h=>h) (Or.inr ⟨by rfl,rfl⟩) hC ?_
 (try simp only[Act.put,List.setIfInBounds_toArray,List.set_cons_zero,List.set_cons_succ])
 refine takeC (i:=8) (d:=some 25) (v:=undef) rfl rfl (by kernel_rfl) (by kernel_rfl) (by kernel_rfl) (by kernel_rfl) (fun _ _ _ h=>h) (Or.inr ⟨by rfl,rfl⟩) hC ?_
 (try simp only[Act.put,List.setIfInBounds_toArray,List.set_cons_zero,List.set_cons_succ])
 refine takeC (i:=9) (d:=some 26) (v:=undef) rfl rfl (by kernel_rfl) (by kernel_rfl) (by kernel_rfl) (by kernel_rfl) (fun _ _ _ h=>h) (Or.inr ⟨by rfl,rfl⟩) hC ?_
 (try simp only[Act.put,List.setIfInBounds_toArray,List.set_cons_zero,List.set_cons_succ])
 refine takeC (i:=10) (d:=some 27) (v:=undef) rfl rfl (by kernel_rfl) (by kernel_rfl) (by kernel_rfl) (by kernel_rfl) (fun _ _ _ h=>h) (Or.inr ⟨by rfl,rfl⟩) hC ?_
 (try simp only[Act.put,List.setIfInBounds_toArray,List.set_cons_zero,List.set_cons_succ])
 refine takeC (i:=11) (d:=some 28) (v:=undef) rfl rfl (by kernel_rfl) (by kernel_rfl) (by kernel_rfl) (by kernel_rfl) (fun _ _ _ h=>h) (Or.inr ⟨by rfl,rfl⟩) hC ?_
 (try simp only[Act.put,List.setIfInBounds_toArray,List.set_cons_zero,List.set_cons_succ])
 refine takeC (i:=12) (d:=some 29) (v:=undef) rfl rfl (by kernel_rfl) (by kernel_rfl) (by kernel_rfl) (by kernel_rfl) (fun _ _ _ h=>h) (Or.inr ⟨by rfl,rfl⟩) hC ?_
 (try simp only[Act.put,List.setIfInBounds_toArray,List.set_cons_zero,List.set_cons_succ])
 refine takeC (i:=13) (d:=some 30) (v:=?_) rfl rfl (by kernel_rfl) (by kernel_rfl) (by kernel_rfl) (by kernel_rfl) (fun _ _ _ h=>h) (Or.inl ⟨by rfl,?_⟩) hC ?_
 rotate_left
 ·(intro w hSw;(try dsimp only at hSw);go_simp;(try with_reducible rfl))
 (try simp only[Act.put,List.setIfInBounds_toArray,List.set_cons_zero,List.set_cons_succ])
 refine doneR (by kernel_rfl) ?_ _;clear hC;obtain⟨w4,hw4⟩:∃ W,w3.drew=W:=⟨_,rfl⟩;have hb34:Below w3.heap.size w3 w4:=by rw[← hw4];exact(Below.refl _ _).drew
 rw[hw4];have hb24:=hb23H.out.trans (hb34.mono hb23H.out.size);replace q0:=keepC hb34 q0;replace q1:=keepC hb34 q1;replace q2:=keepC hb34 q2;replace u3:=keepC hb34 u3;have hM4:=hM3H.out.below hb34;have hzm4:=blk_below hzm3H.out (by simp[zmV]) hb34;have hbT4:Below T w w4:=by
  have ht:T≤w.heap.size:=by have:=hMH.out.lt;have:=hMH.out.tb;omega
  have h1:=hb2H.out.size;exact(hb2H.out.mono ht).trans (hb24.mono (by omega))
 clear hw4;obtain⟨hb34H,hb24H,hM4H,hzm4H,hbT4H⟩:=hqb hb34 hb24 hM4 hzm4 (Lib.hid hbT4);clear hb34 hb24 hM4 hzm4 hbT4;have i5:(s:Int)=0:=by have:=hs0H.out;omega
 have i6:((s:Int)==0)=true:=by rw[i5];rfl
 go_wp2_with fail;refine(whole_any T sb rest vD (.slice AP 0 cP) D d none 0 0 [] w4 hM4H.out hdH.out (by decide) hDl hsH.out hnoH.out).mono ?_;rintro e w5 ⟨rfl,hb5,hk5,vD',D',hM5,hvD5,hput,hsrt⟩;have hnS:¬ SnS sb vD (.slice AP 0 cP) (.slice none 0 0) (ib+1):=fun h=>by
  rcases h with h | h | h | h
  ·exact hfmH.out.1 h
  ·exact hfmH.out.2.1 h
  ·exact hfmH.out.2.2.1 h
  ·cases h
 have hzm5:Blk w5 (ib+1) zmV:=hk5.blk hzm4H.out (by simp[zmV]) hnS;obtain⟨y0,z0⟩:=hzm5 0 _ rfl;obtain⟨y1,z1⟩:=hzm5 1 _ rfl;obtain⟨y2,z2⟩:=hzm5 2 _ rfl;obtain⟨y3,z3⟩:=hzm5 3 _ rfl;obtain⟨y4,z4⟩:=hzm5 4 _ rfl;have hgm:=msg_grown w5 (ib+1) (.int .i64 4) (.string d) (.int .i64 0) (.int .i64 0) (.slice none 0 0);have hzm7:=msg_set hzm5 (.int .i64 4) (.string d) (.int .i64 0) (.int .i64 0) (.slice none 0 0);obtain⟨W7,hW7⟩:∃ W,(((((w5.setCell ⟨ib+1,0,none⟩ (.int .i64 4)).setCell ⟨ib+1,1,none⟩ (.string d)).setCell ⟨ib+1,2,none⟩ (.int .i64 0)).setCell ⟨ib+1,3,none⟩ (.int .i64 0)).setCell ⟨ib+1,4,none⟩ (.slice none 0 0))=W:=⟨_,rfl⟩;rw[hW7]at hgm hzm7;have hlt4:ib+1<w4.heap.size:=hzm4H.out.lt (by simp[zmV]);have hkw:Kp (SnS sb vD (.slice AP 0 cP) (.slice none 0 0)) w W7:=((Kp.of_below (hb2H.out.trans (hb24H.out.mono hb2H.out.size))).trans hk5).old (Kp.of_grown (S:=fun k=>k=ib+1) hgm fun k hk=>by injection hk with hk;exact hk.symm) (fun i hi h9=>by omega);have hM7:=hM5.grown hgm hfmH.out.1 (fun e=>by
  rcases hvD5 _ e with h | h
  ·exact hfmH.out.2.1 h
  ·omega) hfmH.out.2.2.1 (fun e=>by cases e) (fun x hx hn ad hA=>by
  obtain⟨k,hk⟩:=hput;rw[hk]at hx
  rcases List.mem_append.1 hx with h | h
  ·exact hfmH.out.2.2.2.2 x (List.mem_of_mem_take h) hn ad hA
  ·rcases List.mem_cons.1 h with h | h
   ·subst h;exact absurd hn (Nat.lt_irrefl 0)
   ·exact hfmH.out.2.2.2.2 x (List.mem_of_mem_drop h) hn ad hA)
 have hbT7:Below T w W7:=(hbT4H.out.trans hb5).grown hgm (by have:=hM5.lt;have:=hM5.tb;omega) fun g hg=>by injection hg with hg;have:=hMH.out.lt;have:=hMH.out.tb;omega
 have R:=hZ'H.out (.returned (.tuple #[msgV 4 d 0 0 (.slice none 0 0),.int .i64 0])) W7 ⟨rfl,hbT7,hkw,vD',D',hM7,(fun g hg=>(hvD5 g hg).imp id fun h=>by omega),hput,hsrt⟩;clear hM5 hM7 hkw hbT7 hput hsrt hvD5 hgm hnS hk5 hb5;obtain⟨hzm5H,hzm7H,RH⟩:=hq2 hzm5 (hq2 hzm7 (Lib.hid R));clear hzm5 hzm7 R;unfold msgV;go_wp2_with fail
 try rw[hW7]
 obtain⟨t0,-⟩:=hzm7H.out 0 _ rfl;obtain⟨t1,-⟩:=hzm7H.out 1 _ rfl;obtain⟨t2,-⟩:=hzm7H.out 2 _ rfl;obtain⟨t3,-⟩:=hzm7H.out 3 _ rfl;obtain⟨t4,-⟩:=hzm7H.out 4 _ rfl;exact bodyPost_ret (v:=.tuple #[msgV 4 d 0 0 (.slice none 0 0),.int .i64 0]) (by simp[results,Tryz.results99,go_sem,t0,t1,t2,t3,t4,msgV]) rfl RH.out
theorem begin_new (T sb:Nat) (rest:List Value) (vD:Value) (AP:Option Addr) (cP:Nat) (D:List ObT) (d:ByteArray) (s:Nat) (hs0:0<s) (hs1:s≤100000) (w:World) (hM:SnM T sb rest vD (.slice AP 0 cP) (.slice none 0 0) D [] [] w) :
  Calls Tryz.prog 99 #[.pointer (some ⟨sb,0,none⟩),msgV 1 d 0 s (.slice none 0 0)] w (BnAns (SnS sb vD (.slice AP 0 cP) (.slice none 0 0)) T sb rest vD (.slice AP 0 cP) D d s w):=by
 obtain⟨Z,hZ⟩:∃ Z,BnAns (SnS sb vD (.slice AP 0 cP) (.slice none 0 0)) T sb rest vD (.slice AP 0 cP) D d s w=Z:=⟨_,rfl⟩;have hZ':∀ e W,BnAns (SnS sb vD (.slice AP 0 cP) (.slice none 0 0)) T sb rest vD (.slice AP 0 cP) D d s w e W→Z e W:=fun e W h=>by rw[← hZ];exact h
 rw[hZ];clear hZ;unfold msgV;obtain⟨W2,hW2⟩:∃ W,(w.alloc (.cells #[.int .i64 1,.string d,.int .i64 0,.int .i64 s,.slice none 0 0] 131)).alloc (.cells #[.int .i64 0,.string ⟨#[]⟩,.int .i64 0,.int .i64 0,.slice none 0 0] 131)=W:=⟨_,rfl⟩;have hb2:Below w.heap.size w W2:=by rw[← hW2];exact((Below.refl _ _).alloc (Nat.le_refl _) _).alloc (by simp) _
 have hzi:Blk W2 w.heap.size (msgL 1 d 0 s (.slice none 0 0)):=by
  rw[← hW2];unfold msgL;exact blk_below (blk_new w [.int .i64 1,.string d,.int .i64 0,.int .i64 s,.slice none 0 0] 131) (by simp) ((Below.refl _ _).alloc (Nat.le_refl _) _)
 have hzm:Blk W2 (w.heap.size+1) zmV:=by
  rw[← hW2];have:=blk_new (w.alloc (.cells #[.int .i64 1,.string d,.int .i64 0,.int .i64 s,.slice none 0 0] 131)) [.int .i64 0,.string ⟨#[]⟩,.int .i64 0,.int .i64 0,.slice none 0 0] 131
  simpa[zmV]using this
 have hM2:=hM.below hb2;obtain⟨ib,hib⟩:∃ b,w.heap.size=b:=⟨_,rfl⟩;have hfi:=hM.fresh (m:=ib) (by omega);have hfm:=hM.fresh (m:=ib+1) (by omega);rw[hib]at hzi hzm;obtain⟨i1,-⟩:=hzi 1 _ rfl;obtain⟨i3,-⟩:=hzi 3 _ rfl;obtain⟨r0,-⟩:=hM2.blk 0 _ rfl;obtain⟨r1,-⟩:=hM2.blk 1 _ rfl;have hbd:Below W2.heap.size W2 W2.drew:=(Below.refl _ _).drew;have hpa:=partAt_any AP 0 cP vD [] d W2.drew (by decide) (hM2.oP.slAt.below hbd) .nil;obtain⟨hZ'H,hMH,hb2H,hziH,hzmH,hM2H,hfiH,hfmH,hbdH,hpaH⟩:=hq2 hZ' (hqc hM hb2 hzi hzm hM2 hfi hfm hbd (Lib.hid hpa));clear hZ' hM hb2 hzi hzm hM2 hfi hfm hbd hpa;go_enter Tryz.func99,Tryz.ntmps99;go_wp2_with fail;refine startR (R:=Rk (fun _=>True) (fun V=>V.cell? ⟨sb,0,none⟩=some vD∧V.cell? ⟨sb,1,none⟩=some (.slice AP 0 cP)∧V.cell? ⟨ib,1,none⟩=some (.string d)) 99 99) (by kernel_rfl) ?_;have hC:W2.drew.cell? ⟨sb,0,none⟩=some vD∧W2.drew.cell? ⟨sb,1,none⟩=some (.slice AP 0 cP)∧W2.drew.cell? ⟨ib,1,none⟩=some (.string d):=⟨r0,r1,i1⟩;refine takeC (i:=0) (d:=some 9) (v:=?_) rfl rfl (by kernel_rfl) (by kernel_rfl) (by kernel_rfl) (by kernel_rfl) (fun _ _ _ h=>h) (Or.inl ⟨by rfl,?_⟩) hC ?_
 rotate_left
 ·(intro w hSw;(try dsimp only at hSw);go_simp;(try with_reducible rfl))
 (try simp only[Act.put,List.setIfInBounds_toArray,List.set_cons_zero,List.set_cons_succ])
 refine takeC (i:=1) (d:=some 10) (v:=?_) rfl rfl (by kernel_rfl) (by kernel_rfl) (by kernel_rfl) (by kernel_rfl) (fun _ _ _ h=>h) (Or.inl ⟨by rfl,?_⟩) hC ?_
 rotate_left
 ·(intro w hSw;(try dsimp only at hSw);go_simp;(try with_reducible rfl))
 (try simp only[Act.put,List.setIfInBounds_toArray,List.set_cons_zero,List.set_cons_succ])
 refine takeC (i:=2) (d:=some 11) (v:=?_) rfl rfl (by kernel_rfl) (by kernel_rfl) (by kernel_rfl) (by kernel_rfl) (fun _ _ _ h=>h) (Or.inl ⟨by rfl,?_⟩) hC ?_
 rotate_left
 ·(intro w hSw;(try dsimp only at hSw);go_simp;(try with_reducible rfl))
 (try simp only[Act.put,List.setIfInBounds_toArray,List.set_cons_zero,List.set_cons_succ])
 refine takeC (i:=3) (d:=some 12) (v:=?_) rfl rfl (by kernel_rfl) (by kernel_rfl) (by kernel_rfl) (by kernel_rfl) (fun _ _ _ h=>h) (Or.inl ⟨by rfl,?_⟩) hC ?_
 rotate_left
 ·(intro w hSw;(try dsimp only at hSw);go_simp;(try with_reducible rfl))
 (try simp only[Act.put,List.setIfInBounds_toArray,List.set_cons_zero,List.set_cons_succ])
 refine takeC (i:=4) (d:=some 13) (v:=?_) rfl rfl (by kernel_rfl) (by kernel_rfl) (by kernel_rfl) (by kernel_rfl) (fun _ _ _ h=>h) (Or.inl ⟨by rfl,?_⟩) hC ?_
 rotate_left
 ·(intro w hSw;(try dsimp only at hSw);go_simp;(try with_reducible rfl))
 (try simp only[Act.put,List.setIfInBounds_toArray,List.set_cons_zero,List.set_cons_succ])
 refine oneR (i:=5) (by kernel_rfl) rfl (fun K hK=>?_);go_simp;go_at_call 98;refine hpaH.out.mono ?_;rintro e w3 ⟨k,f,rfl,hb3,hat⟩;have hb23:Below W2.heap.size W2 w3:=hbdH.out.trans hb3;obtain⟨rfl,rfl⟩:k=0∧f=false:=by
  have h0:=hat.le;refine⟨by simpa using h0,?_⟩
  cases f
  ·rfl
  ·obtain⟨x,hx,_⟩:=hat.yes rfl;simp at hx
 have hM3:=hM2H.out.below hb23;have hC3:w3.cell? ⟨sb,0,none⟩=some vD∧w3.cell? ⟨sb,1,none⟩=some (.slice AP 0 cP)∧w3.cell? ⟨ib,1,none⟩=some (.string d):=⟨keepC hb23 r0,keepC hb23 r1,keepC hb23 i1⟩;have u3:=keepC hb23 i3;have hzm3:=blk_below hzmH.out (by simp[zmV]) hb23;obtain⟨hb3H,hatH,hb23H,hM3H,hzm3H⟩:=hqb hb3 hat hb23 hM3 (Lib.hid hzm3);clear hb3 hat hb23 hM3 hzm3;refine hK.out _ _ ⟨fun _ _ _=>trivial,fun _ _=>hC3⟩ ?_;clear hK K
 (try simp only[Act.put,List.setIfInBounds_toArray,List.set_cons_zero,List.set_cons_succ])
 clear hC;have hC:=hC3;refine takeC (i:=6) (d:=some 8) (v:=?_) rfl rfl (by kernel_rfl) (by kernel_rfl) (by kernel_rfl) (by kernel_rfl) (fun _ _ _ h=>h) (Or.inl ⟨by rfl,?_⟩) hC ?_
 rotate_left
 ·(intro w hSw;(try dsimp only at hSw);go_simp;(try with_reducible rfl))
 (try simp only[Act.put,List.setIfInBounds_toArray,List.set_cons_zero,List.set_cons_succ])
 refine takeC (i:=7) (d:=some 15) (v:=?_) rfl rfl (by kernel_rfl) (by kernel_rfl) (by kernel_rfl) (by kernel_rfl) (fun _ _ _ h=>h) (Or.inl ⟨by rfl,?_⟩) hC ?_
 rotate_left
 ·(intro w hSw;(try dsimp only at hSw);go_simp;(try with_reducible rfl))
 (try simp only[Act.put,List.setIfInBounds_toArray,List.set_cons_zero,List.set_cons_succ])
 refine takeC (i:=8) (d:=some 16) (v:=?_) rfl rfl (by kernel_rfl) (by kernel_rfl) (by kernel_rfl) (by kernel_rfl) (fun _ _ _ h=>h) (Or.inl ⟨by rfl,?_⟩) hC ?_
 rotate_left
 ·(intro w hSw;(try dsimp only at hSw);go_simp;(try with_reducible rfl))
 (try simp only[Act.put,List.setIfInBounds_toArray,List.set_cons_zero,List.set_cons_succ])
 refine takeC (i:=9) (d:=some 6) (v:=?_) rfl rfl (by kernel_rfl) (by kernel_rfl) (by kernel_rfl) (by kernel_rfl) (fun _ _ _ h=>h) (Or.inl ⟨by rfl,?_⟩) hC ?_
 rotate_left
 ·(intro w hSw;(try dsimp only at hSw);go_simp;(try with_reducible rfl))
 (try simp only[Act.put,List.setIfInBounds_toArray,List.set_cons_zero,List.set_cons_succ])
 refine takeC (i:=10) (d:=some 7) (v:=?_) rfl rfl (by kernel_rfl) (by kernel_rfl) (by kernel_rfl) (by kernel_rfl) (fun _ _ _ h=>h) (Or.inl ⟨by rfl,?_⟩) hC ?_
 rotate_left
 ·(intro w hSw;(try dsimp only at hSw);go_simp;(try with_reducible rfl))
 (try simp only[Act.put,List.setIfInBounds_toArray,List.set_cons_zero,List.set_cons_succ])
 refine doneR (by kernel_rfl) ?_ _;clear hC r0 r1 i1 i3;obtain⟨q0,q1,q2⟩:=hC3;go_wp2_with fail;refine startR (R:=Rk (fun _=>True) (fun V=>True) 99 99) (by kernel_rfl) ?_;have hC:True:=trivial;refine takeC (i:=0) (d:=some 17) (v:=?_) rfl rfl (by kernel_rfl) (by kernel_rfl) (by kernel_rfl) (by kernel_rfl) (fun _ _ _ h=>h) (Or.inl ⟨by rfl,?_⟩) hC ?_
 rotate_left
 ·(intro w hSw;(try dsimp only at hSw);go_simp;(try with_reducible rfl))
 (try simp only[Act.put,List.setIfInBounds_toArray,List.set_cons_zero,List.set_cons_succ])
 refine takeC (i:=1) (d:=some 18) (v:=?_) rfl rfl (by kernel_rfl) (by kernel_rfl) (by kernel_rfl) (by kernel_rfl) (fun _ _ _ h=>h) (Or.inl ⟨by rfl,?_⟩) hC ?_
 rotate_left
 ·(intro w hSw;(try dsimp only at hSw);go_simp;(try with_reducible rfl))
 (try simp only[Act.put,List.setIfInBounds_toArray,List.set_cons_zero,List.set_cons_succ])
 refine takeC (i:=2) (d:=some 19) (v:=undef) rfl rfl (by kernel_rfl) (by kernel_rfl) (by kernel_rfl) (by kernel_rfl) (fun _ _ _ h=>h) (Or.inr ⟨by rfl,rfl⟩) hC ?_
 (try simp only[Act.put,List.setIfInBounds_toArray,List.set_cons_zero,List.set_cons_succ])
 refine takeC (i:=3) (d:=some 20) (v:=undef) rfl rfl (by kernel_rfl) (by kernel_rfl) (by kernel_rfl) (by kernel_rfl) (fun _ _ _ h=>h) (Or.inr ⟨by rfl,rfl⟩) hC ?_
 (try simp only[Act.put,List.setIfInBounds_toArray,List.set_cons_zero,List.set_cons_succ])
 refine takeC (i:=4) (d:=some 21) (v:=undef) rfl rfl (by kernel_rfl) (by kernel_rfl) (by kernel_rfl) (by kernel_rfl) (fun _ _ _ h=>h) (Or.inr ⟨by rfl,rfl⟩) hC ?_
 (try simp only[Act.put,List.setIfInBounds_toArray,List.set_cons_zero,List.set_cons_succ])
 refine takeC (i:=5) (d:=some 22) (v:=undef) rfl rfl (by kernel_rfl) (by kernel_rfl) (by kernel_rfl) (by kernel_rfl) (fun _ _ _ h=>h) (Or.inr ⟨by rfl,rfl⟩) hC ?_
 (try simp only[Act.put,List.setIfInBounds_toArray,List.set_cons_zero,List.set_cons_succ])
 refine takeC (i:=6) (d:=some 23) (v:=undef) rfl rfl (by kernel_rfl) (by kernel_rfl) (by kernel_rfl) (by kernel_rfl) (fun _ _ _ h=>h) (Or.inr ⟨by rfl,rfl⟩) hC ?_
 (try simp only[Act.put,List.setIfInBounds_toArray,List.set_cons_zero,List.set_cons_succ])
 refine takeC (i:=7) (d:=some 24) (v:=undef) rfl rfl (by kernel_rfl) (by kernel_rfl) (by kernel_rfl) (by kernel_rfl) (fun _ _ _ h=>h) (Or.inr ⟨by rfl,rfl⟩) hC ?_
 (try simp only[Act.put,List.setIfInBounds_toArray,List.set_cons_zero,List.set_cons_succ])
 refine takeC (i:=8) (d:=some 25) (v:=undef) rfl rfl (by kernel_rfl) (by kernel_rfl) (by kernel_rfl) (by kernel_rfl) (fun _ _ _ h=>h) (Or.inr ⟨by rfl,rfl⟩) hC ?_
 (try simp only[Act.put,List.setIfInBounds_toArray,List.set_cons_zero,List.set_cons_succ])
 refine takeC (i:=9) (d:=some 26) (v:=undef) rfl rfl (by kernel_rfl) (by kernel_rfl) (by kernel_rfl) (by kernel_rfl) (fun _ _ _ h=>h) (Or.inr ⟨by rfl,rfl⟩) hC ?_
 (try simp only[Act.put,List.setIfInBounds_toArray,List.set_cons_zero,List.set_cons_succ])
 refine takeC (i:=10) (d:=some 27) (v:=undef) rfl rfl (by kernel_rfl) (by kernel_rfl) (by kernel_rfl) (by kernel_rfl) (fun _ _ _ h=>h) (Or.inr ⟨by rfl,rfl⟩) hC ?_
 (try simp only[Act.put,List.setIfInBounds_toArray,List.set_cons_zero,List.set_cons_succ])
 refine takeC (i:=11) (d:=some 28) (v:=undef) rfl rfl (by kernel_rfl) (by kernel_rfl) (by kernel_rfl) (by kernel_rfl) (fun _ _ _ h=>h) (Or.inr ⟨by rfl,rfl⟩) hC ?_
 (try simp only[Act.put,List.setIfInBounds_toArray,List.set_cons_zero,List.set_cons_succ])
 refine takeC (i:=12) (d:=some 29) (v:=undef) rfl rfl (by kernel_rfl) (by kernel_rfl) (by kernel_rfl) (by kernel_rfl) (fun _ _ _ h=>h) (Or.inr ⟨by rfl,rfl⟩) hC ?_
 (try simp only[Act.put,List.setIfInBounds_toArray,List.set_cons_zero,List.set_cons_succ])
 refine takeC (i:=13) (d:=some 30) (v:=?_) rfl rfl (by kernel_rfl) (by kernel_rfl) (by kernel_rfl) (by kernel_rfl) (fun _ _ _ h=>h) (Or.inl ⟨by rfl,?_⟩) hC ?_
 rotate_left
 ·(intro w hSw;(try dsimp only at hSw);go_simp;(try with_reducible rfl))
 (try simp only[Act.put,List.setIfInBounds_toArray,List.set_cons_zero,List.set_cons_succ])
 refine doneR (by kernel_rfl) ?_ _;clear hC;obtain⟨w4,hw4⟩:∃ W,w3.drew=W:=⟨_,rfl⟩;have hb34:Below w3.heap.size w3 w4:=by rw[← hw4];exact(Below.refl _ _).drew
 rw[hw4];have hb24:=hb23H.out.trans (hb34.mono hb23H.out.size);replace q0:=keepC hb34 q0;replace q1:=keepC hb34 q1;replace q2:=keepC hb34 q2;replace u3:=keepC hb34 u3;have hM4:=hM3H.out.below hb34;have hzm4:=blk_below hzm3H.out (by simp[zmV]) hb34;have hbT4:Below T w w4:=by
  have ht:T≤w.heap.size:=by have:=hMH.out.lt;have:=hMH.out.tb;omega
  have h1:=hb2H.out.size;exact(hb2H.out.mono ht).trans (hb24.mono (by omega))
 clear hw4;obtain⟨hb34H,hb24H,hM4H,hzm4H,hbT4H⟩:=hqb hb34 hb24 hM4 hzm4 (Lib.hid hbT4);clear hb34 hb24 hM4 hzm4 hbT4;have i5:¬ ((s:Int)=0):=by omega
 have i6:((s:Int)==0)=false:=by simp;omega
 have i7:¬ (100000:Int)<(s:Int):=by omega
 go_wp2_with fail;have hlt4:ib+1<w4.heap.size:=hzm4H.out.lt (by simp[zmV]);obtain⟨W5,hW5⟩:∃ W,w4.drew.alloc (.cells #[.string d,.int .i64 s,.slice none 0 0] 125)=W:=⟨_,rfl⟩;have hb45:Below w4.heap.size w4 W5:=by rw[← hW5];exact(Below.refl _ _).drew.alloc (Nat.le_refl _) _
 have hs45:w4.heap.size<W5.heap.size:=by rw[← hW5];simp
 have hM5:=hM4H.out.below hb45;have hv5:W5.heap[w4.heap.size]? = some (.cells (RPv.vals ⟨d,s,⟨none,0,0,[]⟩⟩).toArray 125 (0,0)):=by rw[← hW5];exact heap_alloc_new w4.drew _
 obtain⟨vb,hvb⟩:∃ b,w4.heap.size=b:=⟨_,rfl⟩;have hins:=ins_anyPa T 0 cP 0 vb AP [] [] ⟨d,s,⟨none,0,0,[]⟩⟩ W5 rfl hM5.oP (by rw[← hvb];exact hv5) trivial (fun g hg e=>by have:=(hM4H.out.oP.1.lt g hg).2;omega) (by have:=hM5.lt;have:=hM5.tb;omega) (by decide);have hF5:=keepC hb45 q1;have hC5:W5.cell? ⟨ib,1,none⟩=some (.string d)∧W5.cell? ⟨ib,3,none⟩=some (.int .i64 s):=⟨keepC hb45 q2,keepC hb45 u3⟩;obtain⟨hb45H,hM5H,hv5H,hinsH⟩:=hq2 hb45 (hq2 hM5 (hq2 hv5 (Lib.hid hins)));clear hb45 hM5 hv5 hins;refine startR (R:=Rk (fun V=>V.cell? ⟨sb,1,none⟩=some (.slice AP 0 cP)) (fun V=>V.cell? ⟨ib,1,none⟩=some (.string d)∧V.cell? ⟨ib,3,none⟩=some (.int .i64 s)) 15 99) (by kernel_rfl) ?_;have hF:w4.drew.cell? ⟨sb,1,none⟩=some (.slice AP 0 cP):=q1;have hC:w4.drew.cell? ⟨ib,1,none⟩=some (.string d)∧w4.drew.cell? ⟨ib,3,none⟩=some (.int .i64 s):=⟨q2,u3⟩;refine takeC (i:=0) (d:=some 78) (v:=?_) rfl rfl (by kernel_rfl) (by kernel_rfl) (by kernel_rfl) (by kernel_rfl) (fun _ _ _ h=>h) (Or.inl ⟨by rfl,?_⟩) hC ?_
 rotate_left
 ·(intro w hSw;(try dsimp only at hSw);go_simp;(try with_reducible rfl))
 (try simp only[Act.put,List.setIfInBounds_toArray,List.set_cons_zero,List.set_cons_succ])
 refine takeC (i:=1) (d:=some 79) (v:=?_) rfl rfl (by kernel_rfl) (by kernel_rfl) (by kernel_rfl) (by kernel_rfl) (fun _ _ _ h=>h) (Or.inl ⟨by rfl,?_⟩) hC ?_
 rotate_left
 ·(intro w hSw;(try dsimp only at hSw);go_simp;(try with_reducible rfl))
 (try simp only[Act.put,List.setIfInBounds_toArray,List.set_cons_zero,List.set_cons_succ])
 refine takeC (i:=2) (d:=some 80) (v:=?_) rfl rfl (by kernel_rfl) (by kernel_rfl) (by kernel_rfl) (by kernel_rfl) (fun _ _ _ h=>h) (Or.inl ⟨by rfl,?_⟩) hC ?_
 rotate_left
 ·(intro w hSw;(try dsimp only at hSw);go_simp;(try with_reducible rfl))
 (try simp only[Act.put,List.setIfInBounds_toArray,List.set_cons_zero,List.set_cons_succ])
 refine takeC (i:=3) (d:=some 81) (v:=?_) rfl rfl (by kernel_rfl) (by kernel_rfl) (by kernel_rfl) (by kernel_rfl) (fun _ _ _ h=>h) (Or.inl ⟨by rfl,?_⟩) hC ?_
 rotate_left
 ·(intro w hSw;(try dsimp only at hSw);go_simp;(try with_reducible rfl))
 (try simp only[Act.put,List.setIfInBounds_toArray,List.set_cons_zero,List.set_cons_succ])
 refine tfS [(4,82)] ?_;(iterate 1 (refine tfL (v:=?_) (hy:=Or.inl ⟨by rfl,?_⟩) (hS:=hF) (h:=?_);rotate_left;(· (intro w hSw;(try dsimp only at hSw);go_simp;(try with_reducible rfl)));(try simp only[Act.put,List.setIfInBounds_toArray,List.set_cons_zero,List.set_cons_succ])));refine tfE ?_;refine takeC (i:=5) (d:=some 83) (v:=?_) rfl rfl (by kernel_rfl) (by kernel_rfl) (by kernel_rfl) (by kernel_rfl) (fun _ _ _ h=>h) (Or.inl ⟨by rfl,?_⟩) hC ?_
 rotate_left
 ·(intro w hSw;(try dsimp only at hSw);go_simp;(try with_reducible rfl))
 (try simp only[Act.put,List.setIfInBounds_toArray,List.set_cons_zero,List.set_cons_succ])
 refine takeC (i:=6) (d:=some 84) (v:=?_) rfl rfl (by kernel_rfl) (by kernel_rfl) (by kernel_rfl) (by kernel_rfl) (fun _ _ _ h=>h) (Or.inl ⟨by rfl,?_⟩) hC ?_
 rotate_left
 ·(intro w hSw;(try dsimp only at hSw);go_simp;(try with_reducible rfl))
 (try simp only[Act.put,List.setIfInBounds_toArray,List.set_cons_zero,List.set_cons_succ])
 refine takeC (i:=7) (d:=some 85) (v:=?_) rfl rfl (by kernel_rfl) (by kernel_rfl) (by kernel_rfl) (by kernel_rfl) (fun _ _ _ h=>h) (Or.inl ⟨by rfl,?_⟩) hC ?_
 rotate_left
 ·(intro w hSw;(try dsimp only at hSw);go_simp;(try with_reducible rfl))
 (try simp only[Act.put,List.setIfInBounds_toArray,List.set_cons_zero,List.set_cons_succ])
 refine takeC (i:=8) (d:=some 86) (v:=?_) rfl rfl (by kernel_rfl) (by kernel_rfl) (by kernel_rfl) (by kernel_rfl) (fun _ _ _ h=>h) (Or.inl ⟨by rfl,?_⟩) hC ?_
 rotate_left
 ·(intro w hSw;(try dsimp only at hSw);go_simp;(try with_reducible rfl))
 (try simp only[Act.put,List.setIfInBounds_toArray,List.set_cons_zero,List.set_cons_succ])
 refine takeC (i:=9) (d:=some 87) (v:=?_) rfl rfl (by kernel_rfl) (by kernel_rfl) (by kernel_rfl) (by kernel_rfl) (fun _ _ _ h=>h) (Or.inl ⟨by rfl,?_⟩) hC ?_
 rotate_left
 ·(intro w hSw;(try dsimp only at hSw);go_simp;(try with_reducible rfl))
 (try simp only[Act.put,List.setIfInBounds_toArray,List.set_cons_zero,List.set_cons_succ])
 refine takeC (i:=10) (d:=some 88) (v:=?_) rfl rfl (by kernel_rfl) (by kernel_rfl) (by kernel_rfl) (by kernel_rfl) (fun _ _ _ h=>h) (Or.inl ⟨by rfl,?_⟩) hC ?_
 rotate_left
 ·(intro w hSw;(try dsimp only at hSw);go_simp;(try with_reducible rfl))
 (try simp only[Act.put,List.setIfInBounds_toArray,List.set_cons_zero,List.set_cons_succ])
 refine oneR (i:=11) (by kernel_rfl) rfl (fun K hK=>?_);go_simp;refine hK.out _ _ ⟨fun _ _ _=>hF5,fun _ _=>hC5⟩ ?_;clear hK K
 (try simp only[Act.put,List.setIfInBounds_toArray,List.set_cons_zero,List.set_cons_succ])
 clear hC hF;refine oneR (i:=12) (by kernel_rfl) rfl (fun K hK=>?_);go_simp;go_at_call 138;refine hinsH.out.mono ?_;rintro e w6 ⟨A6,c6,rfl,ho6,hg6,hat6⟩;have hsb5:=hM5H.out.lt;have hnsb:(Value.slice AP 0 cP).ownBlock≠some sb:=fun e=>hM5H.out.nP sb e rfl;have hnib:(Value.slice AP 0 cP).ownBlock≠some ib:=hfiH.out.2.2.1;have hnim:(Value.slice AP 0 cP).ownBlock≠some (ib+1):=hfmH.out.2.2.1;have hF6:w6.cell? ⟨sb,1,none⟩=some (.slice AP 0 cP):=hg6.cell hF5 fun e=>hnsb e.symm;have hC6:w6.cell? ⟨ib,1,none⟩=some (.string d)∧w6.cell? ⟨ib,3,none⟩=some (.int .i64 s):=⟨hg6.cell hC5.1 fun e=>hnib e.symm,hg6.cell hC5.2 fun e=>hnib e.symm⟩;have hfz6:w6.frozen? ⟨sb,1,none⟩=false:=((hM5H.out.blk.keep (hg6.block sb hsb5 fun e=>hnsb e.symm)) 1 _ rfl).2;have hM7:=hM5H.out.part ho6 hg6 hat6;have hzm6:Blk w6 (ib+1) zmV:=(blk_below hzm4H.out (by simp[zmV]) hb45H.out).keep (hg6.block (ib+1) (by omega) fun e=>hnim e.symm);have hgs:=grown_setc w6 ⟨sb,1,none⟩ (.slice A6 (0+1) c6);obtain⟨W7,hW7⟩:∃ W,w6.setCell ⟨sb,1,none⟩ (.slice A6 (0+1) c6)=W:=⟨_,rfl⟩;rw[hW7]at hM7 hgs;have hC7:W7.cell? ⟨ib,1,none⟩=some (.string d)∧W7.cell? ⟨ib,3,none⟩=some (.int .i64 s):=⟨hgs.cell hC6.1 fun e=>hfiH.out.1 (by injection e),hgs.cell hC6.2 fun e=>hfiH.out.1 (by injection e)⟩;have hzm7:Blk W7 (ib+1) zmV:=hzm6.keep (hgs.block (ib+1) (by have:=hg6.size;omega) fun e=>hfmH.out.1 (by injection e));have hkp7:Kp (SnS sb vD (.slice AP 0 cP) (.slice none 0 0)) w W7:=by
  have k1:Kp (SnS sb vD (.slice AP 0 cP) (.slice none 0 0)) w W5:=Kp.of_below (hb2H.out.trans ((hb24H.out.mono hb2H.out.size).trans (hb45H.out.mono (Nat.le_trans hb2H.out.size hb24H.out.size))));exact(k1.trans (Kp.of_grown (S:=SnS sb vD (.slice AP 0 cP) (.slice none 0 0)) hg6 fun k hk=>.inr (.inr (.inl hk)))).trans (Kp.of_grown (S:=SnS sb vD (.slice AP 0 cP) (.slice none 0 0)) hgs fun k hk=>by injection hk with hk;exact .inl hk.symm)
 have hbT7:Below T w W7:=((hbT4H.out.trans (hb45H.out.mono (by have:=hM4H.out.lt;have:=hM4H.out.tb;omega))).grown hg6 (by have:=hM5H.out.tb;omega) fun g hg=>(hM5H.out.oP.1.lt g hg).1).grown hgs (by have:=hg6.size;have:=hM5H.out.tb;omega) fun g hg=>by injection hg with hg;have:=hM5H.out.tb;have e2:sb=g:=hg;omega
 have hnew7:(Value.slice A6 (0+1) c6).ownBlock≠some (ib+1):=fun e=>by
  rcases hat6 with h | h
  ·exact hnim (h ▸ e)
  ·rw[h]at e;injection e with e;omega
 have hvP7:∀ g,(Value.slice A6 (0+1) c6).ownBlock=some g→(Value.slice AP 0 cP).ownBlock=some g∨ib≤g:=fun g hg=>by
  rcases hat6 with h | h
  ·exact .inl (h ▸ hg)
  ·rw[h]at hg;injection hg with hg;exact .inr (by omega)
 clear ho6 hat6 hgs;obtain⟨hM7H,hzm6H,hzm7H,hkp7H,hbT7H,hg6H,hvP7H⟩:=hq2 hM7 (hq2 hzm6 (hqb hzm7 hkp7 hbT7 hg6 (Lib.hid hvP7)));clear hM7 hzm6 hzm7 hkp7 hbT7 hg6 hvP7;refine hK.out _ _ ⟨fun _ _ _=>hF6,fun _ _=>hC6⟩ ?_;clear hK K
 (try simp only[Act.put,List.setIfInBounds_toArray,List.set_cons_zero,List.set_cons_succ])
 have hC:=hC6;refine takeC (i:=13) (d:=some 91) (v:=?_) rfl rfl (by kernel_rfl) (by kernel_rfl) (by kernel_rfl) (by kernel_rfl) (fun _ _ _ h=>h) (Or.inl ⟨by rfl,?_⟩) hC ?_
 rotate_left
 ·(intro w hSw;(try dsimp only at hSw);go_simp;(try with_reducible rfl))
 (try simp only[Act.put,List.setIfInBounds_toArray,List.set_cons_zero,List.set_cons_succ])
 refine takeC (i:=14) (d:=some 92) (v:=?_) rfl rfl (by kernel_rfl) (by kernel_rfl) (by kernel_rfl) (by kernel_rfl) (fun _ _ _ h=>h) (Or.inl ⟨by rfl,?_⟩) hC ?_
 rotate_left
 ·(intro w hSw;(try dsimp only at hSw);go_simp;(try with_reducible rfl))
 (try simp only[Act.put,List.setIfInBounds_toArray,List.set_cons_zero,List.set_cons_succ])
 refine oneR (i:=15) (by kernel_rfl) rfl (fun K hK=>?_);go_simp
 try rw[hW7]
 refine hK.out _ _ ⟨fun _ h=>absurd rfl h,fun _ _=>hC7⟩ ?_;clear hK K
 (try simp only[Act.put,List.setIfInBounds_toArray,List.set_cons_zero,List.set_cons_succ])
 refine doneR (by kernel_rfl) ?_ _;clear hC hC5 hC6 hF5 hF6 hfz6 q0 q1 q2 u3 hW7;obtain⟨v1,v3⟩:=hC7;obtain⟨y0,z0⟩:=hzm7H.out 0 _ rfl;obtain⟨y1,z1⟩:=hzm7H.out 1 _ rfl;obtain⟨y2,z2⟩:=hzm7H.out 2 _ rfl;obtain⟨y3,z3⟩:=hzm7H.out 3 _ rfl;obtain⟨y4,z4⟩:=hzm7H.out 4 _ rfl;have hgm:=msg_grown W7 (ib+1) (.int .i64 3) (.string d) (.int .i64 0) (.int .i64 0) (.slice none 0 0);have hzm9:=msg_set hzm7H.out (.int .i64 3) (.string d) (.int .i64 0) (.int .i64 0) (.slice none 0 0);obtain⟨W9,hW9⟩:∃ W,(((((W7.setCell ⟨ib+1,0,none⟩ (.int .i64 3)).setCell ⟨ib+1,1,none⟩ (.string d)).setCell ⟨ib+1,2,none⟩ (.int .i64 0)).setCell ⟨ib+1,3,none⟩ (.int .i64 0)).setCell ⟨ib+1,4,none⟩ (.slice none 0 0))=W:=⟨_,rfl⟩;rw[hW9]at hgm hzm9;have hM9:=hM7H.out.grown hgm hfmH.out.1 hfmH.out.2.1 hnew7 (fun e=>by cases e) hfmH.out.2.2.2.2;have hkp9:=hkp7H.out.old (Kp.of_grown (S:=fun k=>k=ib+1) hgm fun k hk=>by injection hk with hk;exact hk.symm) (fun i hi h9=>by omega);have hbT9:Below T w W9:=hbT7H.out.grown hgm (by have:=hM7H.out.lt;have:=hM7H.out.tb;omega) fun g hg=>by injection hg with hg;have:=hMH.out.lt;have:=hMH.out.tb;omega
 have R:=hZ'H.out (.returned (.tuple #[msgV 3 d 0 0 (.slice none 0 0),.int .i64 0])) W9 ⟨_,(fun g hg=>(hvP7H.out g hg).imp id fun h=>by omega),rfl,hbT9,hkp9,hM9⟩;clear hgm hM9 hkp9 hbT9;obtain⟨hzm9H,RH⟩:=hq2 hzm9 (Lib.hid R);clear hzm9 R
 try unfold msgV
 go_wp2_with fail
 try rw[hW9]
 obtain⟨t0,-⟩:=hzm9H.out 0 _ rfl;obtain⟨t1,-⟩:=hzm9H.out 1 _ rfl;obtain⟨t2,-⟩:=hzm9H.out 2 _ rfl;obtain⟨t3,-⟩:=hzm9H.out 3 _ rfl;obtain⟨t4,-⟩:=hzm9H.out 4 _ rfl;exact bodyPost_ret (v:=.tuple #[msgV 3 d 0 0 (.slice none 0 0),.int .i64 0]) (by simp[results,Tryz.results99,go_sem,t0,t1,t2,t3,t4,msgV]) rfl RH.out
def zPa:List Value:=[.string ByteArray.empty,.int .i64 0,.slice none 0 0]
theorem run_clear_pa (w:World) (g c:Nat) (ty:TypeId) (hc:∀ j,j<3→(w.cell? ⟨g,0+j,none⟩).isSome=true) (hf:∀ j,j<3→w.frozen? ⟨g,0+j,none⟩=false) :
  (Builtin.clear_ #[30] ty #[.slice (some ⟨g,0,none⟩) 1 c]).run Tryz.prog w = .ok (.tuple #[]) (w.setCells g 0 zPa):=by
 obtain⟨i0,hi0,hz0,hzs,hzb⟩:=info_parts info_TCPa;have hv:∀ w,(zeroValue 125).run Tryz.prog w = .ok (.agg #[.string ByteArray.empty,.int .i64 0,.slice none 0 0]) w:=fun w=>by kernel_rfl
 have hzc:(Builtin.zeroCells (Value.agg #[.string ByteArray.empty,.int .i64 0,.slice none 0 0]).cells 1).toList=zPa:=by simp[Builtin.zeroCells,Value.cells,zPa,List.range,List.range.loop,Array.ofFn,Array.toList_ofFn,List.ofFn]
 have hst:=run_storeCells_cells (P:=Tryz.prog) g 0 zPa 0 w (by simpa[zPa]using hc) (by simpa[zPa]using hf) (by intro v hv;simp[zPa]at hv;rcases hv with rfl | rfl | rfl <;> rfl);simp only[Nat.add_zero]at hst;simp[Builtin.clear_,run_underlying Tryz.underlying30,hv,hzc,hst]
def DeAns (T gP cP:Nat) (w:World) (e:Ending) (w':World):Prop :=
 e = .returned (.slice (some ⟨gP,0,none⟩) 0 cP)∧Own RPv 125 w' T (.slice (some ⟨gP,0,none⟩) 0 cP) []∧w.grownBy w' (some gP)
theorem del_one (T gP cP:Nat) (x:PaT) (w:World) (ho:Own RPv 125 w T (.slice (some ⟨gP,0,none⟩) 1 cP) [x]) :
  Calls Tryz.prog 136 #[.slice (some ⟨gP,0,none⟩) 1 cP,.int .i64 0,.int .i64 1] w (DeAns T gP cP w):=by
 obtain⟨Z,hZ⟩:∃ Z,DeAns T gP cP w=Z:=⟨_,rfl⟩;have hZ':∀ e W,DeAns T gP cP w e W→Z e W:=fun e W h=>by rw[← hZ];exact h
 rw[hZ];clear hZ;have mixed:Tryz.prog.follows .mixedOrders=true:=by kernel_rfl
 obtain⟨g',cur,hg',hTg,hcur,hnc,hcm,hcs,htk⟩:=own_block ho (by decide);obtain rfl:gP=g':=by injection hg' with h;injection h
 have hcs:cur.size=cP*3:=hcs;have hcm2:cP≤9223372036854775807:=hcm;obtain⟨i0,hi0,hz0,hzs,hzb⟩:=info_parts info_TCPa;have hsz:∀ W,(sizeOf (Tryz.prog.elem 30)).run Tryz.prog W = .ok 3 W:=fun W=>by kernel_rfl
 have hsl1:∀ W,(Instr.slice 30 (.slice (some ⟨gP,0,none⟩) 1 cP) (some (.int .i64 0)) (some (.int .i64 1)) (some (.int .i64 1))).run Tryz.prog W = .ok (.slice (some ⟨gP,0,none⟩) 1 1) W:=fun W=>by
  rw[run_slice_lhm (P:=Tryz.prog) W 30 (some ⟨gP,0,none⟩) 1 cP (by kernel_rfl) .i64 .i64 .i64 0 1 1 (by omega) (by omega) (by omega) (by omega),hsz W];simp[Result.andThen,sliced,Addr.add_lit]
 have hsl2:∀ W,(Instr.slice 30 (.slice (some ⟨gP,0,none⟩) 1 cP) none (some (.int .i64 0)) none).run Tryz.prog W = .ok (.slice (some ⟨gP,0,none⟩) 0 cP) W:=fun W=>run_slTo 30 (by kernel_rfl) 3 hsz _ _ _ 0 (by omega) W;obtain⟨ad,had⟩:∃ ad,(if cP=1 then some (⟨gP,0,none⟩:Addr) else (some (⟨gP,0,none⟩:Addr)).map (·.add (1*3)))=some ad:=by
  by_cases h:cP=1
  ·exact⟨_,if_pos h⟩
  ·exact⟨_,if_neg h⟩
 have hsl3:∀ W,(Instr.slice 30 (.slice (some ⟨gP,0,none⟩) 1 cP) (some (.int .i64 1)) none none).run Tryz.prog W = .ok (.slice (some ad) 0 (cP-1)) W:=fun W=>by
  have:=run_slFrom 30 (by kernel_rfl) 3 hsz (some ⟨gP,0,none⟩) 1 cP 1 (by omega) W;rw[had]at this;exact this
 have hsl4:∀ W,(Instr.slice 30 (.slice (some ⟨gP,0,none⟩) 0 cP) (some (.int .i64 0)) (some (.int .i64 1)) none).run Tryz.prog W = .ok (.slice (some ⟨gP,0,none⟩) 1 cP) W:=fun W=>by
  rw[run_slice_lh (P:=Tryz.prog) W 30 (some ⟨gP,0,none⟩) 0 cP (by kernel_rfl) .i64 .i64 0 1 (by omega) (by omega) (by omega),hsz W];simp[Result.andThen,sliced,Addr.add_lit]
 have hcl:∀ (W:World) ty,W.heap=w.heap→(Builtin.clear_ #[30] ty #[.slice (some ⟨gP,0,none⟩) 1 cP]).run Tryz.prog W = .ok (.tuple #[]) (W.setCells gP 0 zPa):=fun W ty hW =>
  run_clear_pa W gP cP ty (fun j hj=>by rw[Nat.zero_add];exact cells_rowPa (by rw[hW];exact hcur) (by omega)) (fun j hj=>frozen_of_row W gP _ cur _ (by rw[hW];exact hcur))
 have hcl1:∀ ty,(Builtin.clear_ #[30] ty #[.slice (some ⟨gP,0,none⟩) 1 cP]).run Tryz.prog (w.drew.setCells gP 0 []) = .ok (.tuple #[]) (w.drew.setCells gP 0 zPa):=fun ty=>hcl w.drew ty rfl;obtain⟨c1,hc1,hc1l⟩:=heap_setCells gP 125 zPa 0 w.drew cur hcur (by rw[hcs];show 0+3≤_;omega);have hc1s:c1.size=cur.size:=by rw[← Array.length_toList,hc1l];simp[zPa];omega
 have hgr:w.grownBy (w.drew.setCells gP 0 zPa) (some gP):=grown_trans (grown_drew w _) (grown_setCells gP _ _ _);have hown:Own RPv 125 (w.drew.setCells gP 0 zPa) T (.slice (some ⟨gP,0,none⟩) 0 cP) []:=own_of hTg hc1 rfl (Nat.zero_le _) hcm (by rw[hc1s,hcs];rfl) (by simp) (fun x hx=>by cases hx);have R:=hZ' (.returned (.slice (some ⟨gP,0,none⟩) 0 cP)) _ ⟨rfl,hown,hgr⟩;clear hcl;obtain⟨hZ'H,hoH,hcurH,htkH,hc1H,hc1lH,hgrH,hownH,hi0H,hz0H,hzsH,hzbH,RH,hadH⟩:=hq2 hZ' (hqb ho hcur htk hc1 (hqc hc1l hgr hown hi0 hz0 hzs hzb R (Lib.hid had)));clear hZ' ho hcur htk hc1 hc1l hgr hown hi0 hz0 hzs hzb R had;go_enter Tryz.func136,Tryz.ntmps136;go_wp2_with fail
 go_region_law_o (refine step_append_room rfl (.tmp 22) (.tmp 25) 30 rfl 125 i0 3 Tryz.underlying30 hi0H.out hzsH.out gP 0 0 cP (by simp[Act.eval,Act.put]) ad 0 (cP-1) [] (by simp[Act.eval,Act.put]) rfl (fun _ _ h=>by simp at h) (fun _ h=>by cases h) (by omega) (fun _ h=>absurd h (Nat.not_lt_zero _)) ?_)
 go_wp2;exact RH.out
def OoRel (O:List ObT) (d:ByteArray) (w0:World) (i:Value) (wr:World):Prop:=∃ k:Nat,k≤O.length∧i = .int .i64 k∧Below w0.heap.size w0 wr∧∀ (j:Nat) x,j<k→O[j]? = some x→x.dig≠d
def OoAns (O:List ObT) (d:ByteArray) (w:World) (e:Ending) (w':World):Prop:=Below w.heap.size w w'∧∃ (k:Nat) (x:ObT),e = .returned (.int .i64 k)∧O[k]? = some x∧x.dig=d
theorem objectOf_any (A:Option Addr) (n c:Nat) (O:List ObT) (d:ByteArray) (w:World) (hl:SlAt ROb w A n O) (hn:n≤100000) (hd:∃ x∈O,x.dig=d) :
  Calls Tryz.prog 8 #[.slice A n c,.string d] w (OoAns O d w):=by
 obtain⟨Z,hZ⟩:∃ Z,OoAns O d w=Z:=⟨_,rfl⟩;have hZ':∀ e W,OoAns O d w e W→Z e W:=fun e W h=>by rw[← hZ];exact h
 rw[hZ];clear hZ;have hOn:O.length=n:=hl.1;obtain⟨hZ'H,hlH,hdH⟩:=hq2 hZ' (hq2 hl (Lib.hid hd));clear hZ' hl hd;go_enter Tryz.func8,Tryz.ntmps8;go_wp2_with fail
 go_loopw [9] (fun i wr=>OoRel O d w i wr) (fun i _=>n-(intOf i).toNat)
 case atStart=>exact⟨0,Nat.zero_le _,rfl,Below.refl _ _,fun j x h=>absurd h (by omega)⟩
 case round =>
  obtain⟨k,hk,rfl,hb,hno⟩:=hrel
  by_cases hlt:k<n
  ·obtain⟨x,hx⟩:∃ x,O[k]? = some x:=⟨O[k]'(by omega),List.getElem?_eq_getElem _⟩;have hslr:=hlH.out.below hb;obtain⟨bb,oo,hA,_⟩:=hslr.2.1 (by omega);subst hA;obtain⟨c0,c1⟩:=cells_ObT (ob_v hslr) hx;obtain⟨xd,⟨xA,xn,xc,xl⟩⟩:=x;simp only at c0 c1;obtain⟨W3,hW3⟩:∃ W,wr.alloc (.cells #[.string xd,.slice xA xn xc] 41)=W:=⟨_,rfl⟩;have hb13:Below wr.heap.size wr W3:=by rw[← hW3];exact(Below.refl _ _).alloc (Nat.le_refl _) _
   have hz3:Blk W3 wr.heap.size [.string xd,.slice xA xn xc]:=by rw[← hW3];exact blk_new wr _ _
   obtain⟨xb,hxb⟩:∃ b,wr.heap.size=b:=⟨_,rfl⟩;rw[hxb]at hz3;obtain⟨z0,-⟩:=hz3 0 _ rfl;have hb3:=hb.trans (hb13.mono hb.size)
   by_cases he:xd=d
   ·have e5:(xd.toList==d.toList)=true:=by rw[beq_data,decide_eq_true he]
    have R:=hZ'H.out (.returned (.int .i64 k)) W3 ⟨hb3,k,_,rfl,hx,he⟩;clear hno he;obtain⟨hbH,hxH,hslrH,hb13H,hz3H,hb3H,RH⟩:=hq2 hb (hq2 hx (hqb hslr hb13 hz3 hb3 (Lib.hid R)));clear hb hx hslr hb13 hz3 hb3 R;go_wp2_with fail;exact RH.out
   ·have e5:(xd.toList==d.toList)=false:=by rw[beq_data,decide_eq_false he]
    have R:OoRel O d w (.int .i64 ((k:Int)+1)) W3:=⟨k+1,by omega,by go_num,hb3,fun j y hj hy=>by
     rcases Nat.lt_or_ge j k with h | h
     ·exact hno j y h hy
     ·obtain rfl:j=k:=by omega
      rw[hx]at hy;injection hy with hy;subst hy;exact he⟩
    clear hno he;obtain⟨hbH,hxH,hslrH,hb13H,hz3H,hb3H,RH⟩:=hq2 hb (hq2 hx (hqb hslr hb13 hz3 hb3 (Lib.hid R)));clear hb hx hslr hb13 hz3 hb3 R;go_wp2_with fail;exact⟨RH.out,by simp[intOf];omega⟩
  ·exfalso;obtain⟨x,hx,hxd⟩:=hdH.out;obtain⟨j,hj,rfl⟩:=List.getElem_of_mem hx;exact hno j _ (by omega) (List.getElem?_eq_getElem hj) hxd
def EuRel (n:Nat) (w0:World) (i:Value) (wr:World):Prop:=∃ k:Nat,k≤n∧i = .int .i64 k∧Below w0.heap.size w0 wr
def TrAns (w:World) (e:Ending) (w':World):Prop:=e = .returned (.bool true)∧Below w.heap.size w w'
theorem equalU_any (A1 A2:Option Addr) (n c1 c2:Nat) (l:List UInt8) (w:World) (h1:SlAt RU8 w A1 n l) (h2:SlAt RU8 w A2 n l) (hn:n≤1000000000000) :
  Calls Tryz.prog 37 #[.slice A1 n c1,.slice A2 n c2] w (TrAns w):=by
 obtain⟨Z,hZ⟩:∃ Z,TrAns w=Z:=⟨_,rfl⟩;have hZ':∀ e W,TrAns w e W→Z e W:=fun e W h=>by rw[← hZ];exact h
 rw[hZ];clear hZ;have hln:l.length=n:=h1.1;obtain⟨hZ'H,h1H,h2H⟩:=hq2 hZ' (hq2 h1 (Lib.hid h2));clear hZ' h1 h2;go_enter Tryz.func37,Tryz.ntmps37;go_wp2_with fail
 go_loopw [13] (fun i wr=>EuRel n w i wr) (fun i _=>n-(intOf i).toNat)
 case atStart=>exact⟨0,Nat.zero_le _,rfl,Below.refl _ _⟩
 case round =>
  obtain⟨k,hk,rfl,hb⟩:=hrel
  by_cases hlt:k<n
  ·obtain⟨x,hx⟩:∃ x,l[k]? = some x:=⟨l[k]'(by omega),List.getElem?_eq_getElem _⟩;have g1:=h1H.out.below hb;have g2:=h2H.out.below hb;obtain⟨b1,o1,hA1,_⟩:=g1.2.1 (by omega);obtain⟨b2,o2,hA2,_⟩:=g2.2.1 (by omega);subst hA1;subst hA2;have d1:=cell_U8 g1 hx;have d2:=cell_U8 g2 hx;obtain⟨xv,hxv⟩:∃ v:Nat,x.toNat=v:=⟨_,rfl⟩;rw[hxv]at d1 d2;have R:EuRel n w (.int .i64 ((k:Int)+1)) wr.drew:=⟨k+1,by omega,by go_num,hb.drew⟩;obtain⟨hbH,hxH,hxvH,g1H,g2H,RH⟩:=hq2 hb (hqb hx hxv g1 g2 (Lib.hid R));clear hb hx hxv g1 g2 R;go_wp2_with fail;refine startR (R:=Rk (fun _=>True) (fun V=>V.cell? ⟨b1,o1+k,none⟩=some (.int .u8 (xv:Nat))∧V.cell? ⟨b2,o2+k,none⟩=some (.int .u8 (xv:Nat))) 99 99) (by kernel_rfl) ?_;have hC:wr.drew.cell? ⟨b1,o1+k,none⟩=some (.int .u8 (xv:Nat))∧wr.drew.cell? ⟨b2,o2+k,none⟩=some (.int .u8 (xv:Nat)):=⟨d1,d2⟩;refine takeC (i:=0) (d:=some 16) (v:=?_) rfl rfl (by kernel_rfl) (by kernel_rfl) (by kernel_rfl) (by kernel_rfl) (fun _ _ _ h=>h) (Or.inl ⟨by rfl,?_⟩) hC ?_
   rotate_left
   ·(intro w hSw;(try dsimp only at hSw);go_simp;(try with_reducible rfl))
   (try simp only[Act.put,List.setIfInBounds_toArray,List.set_cons_zero,List.set_cons_succ])
   refine takeC (i:=1) (d:=some 17) (v:=?_) rfl rfl (by kernel_rfl) (by kernel_rfl) (by kernel_rfl) (by kernel_rfl) (fun _ _ _ h=>h) (Or.inl ⟨by rfl,?_⟩) hC ?_
   rotate_left
   ·(intro w hSw;(try dsimp only at hSw);go_simp;(try with_reducible rfl))
   (try simp only[Act.put,List.setIfInBounds_toArray,List.set_cons_zero,List.set_cons_succ])
   refine takeC (i:=2) (d:=some 18) (v:=?_) rfl rfl (by kernel_rfl) (by kernel_rfl) (by kernel_rfl) (by kernel_rfl) (fun _ _ _ h=>h) (Or.inl ⟨by rfl,?_⟩) hC ?_
   rotate_left
   ·(intro w hSw;(try dsimp only at hSw);go_simp;(try with_reducible rfl))
   (try simp only[Act.put,List.setIfInBounds_toArray,List.set_cons_zero,List.set_cons_succ])
   refine takeC (i:=3) (d:=some 19) (v:=?_) rfl rfl (by kernel_rfl) (by kernel_rfl) (by kernel_rfl) (by kernel_rfl) (fun _ _ _ h=>h) (Or.inl ⟨by rfl,?_⟩) hC ?_
   rotate_left
   ·(intro w hSw;(try dsimp only at hSw);go_simp;(try with_reducible rfl))
   (try simp only[Act.put,List.setIfInBounds_toArray,List.set_cons_zero,List.set_cons_succ])
   refine takeC (i:=4) (d:=some 20) (v:=?_) rfl rfl (by kernel_rfl) (by kernel_rfl) (by kernel_rfl) (by kernel_rfl) (fun _ _ _ h=>h) (Or.inl ⟨by rfl,?_⟩) hC ?_
   rotate_left
   ·(intro w hSw;(try dsimp only at hSw);go_simp;(try with_reducible rfl))
   (try simp only[Act.put,List.setIfInBounds_toArray,List.set_cons_zero,List.set_cons_succ])
   refine takeC (i:=5) (d:=some 21) (v:=?_) rfl rfl (by kernel_rfl) (by kernel_rfl) (by kernel_rfl) (by kernel_rfl) (fun _ _ _ h=>h) (Or.inl ⟨by rfl,?_⟩) hC ?_
   rotate_left
   ·(intro w hSw;(try dsimp only at hSw);go_simp;(try with_reducible rfl))
   (try simp only[Act.put,List.setIfInBounds_toArray,List.set_cons_zero,List.set_cons_succ])
   refine takeC (i:=6) (d:=some 22) (v:=?_) rfl rfl (by kernel_rfl) (by kernel_rfl) (by kernel_rfl) (by kernel_rfl) (fun _ _ _ h=>h) (Or.inl ⟨by rfl,?_⟩) hC ?_
   rotate_left
   ·(intro w hSw;(try dsimp only at hSw);go_simp;(try with_reducible rfl))
   (try simp only[Act.put,List.setIfInBounds_toArray,List.set_cons_zero,List.set_cons_succ])
   refine takeC (i:=7) (d:=some 23) (v:=?_) rfl rfl (by kernel_rfl) (by kernel_rfl) (by kernel_rfl) (by kernel_rfl) (fun _ _ _ h=>h) (Or.inl ⟨by rfl,?_⟩) hC ?_
   rotate_left
   ·(intro w hSw;(try dsimp only at hSw);go_simp;(try with_reducible rfl))
   (try simp only[Act.put,List.setIfInBounds_toArray,List.set_cons_zero,List.set_cons_succ])
   refine takeC (i:=8) (d:=some 24) (v:=?_) rfl rfl (by kernel_rfl) (by kernel_rfl) (by kernel_rfl) (by kernel_rfl) (fun _ _ _ h=>h) (Or.inl ⟨by rfl,?_⟩) hC ?_
   rotate_left
   ·(intro w hSw;(try dsimp only at hSw);go_simp;(try with_reducible rfl))
   (try simp only[Act.put,List.setIfInBounds_toArray,List.set_cons_zero,List.set_cons_succ])
   refine doneR (by kernel_rfl) ?_ _;clear hC d1 d2;go_wp2_with fail;exact⟨RH.out,by simp[intOf];omega⟩
  ·obtain rfl:k=n:=by omega
   have R:=hZ'H.out (.returned (.bool true)) wr ⟨rfl,hb⟩;obtain⟨hbH,RH⟩:=hq2 hb (Lib.hid R);clear hb R;go_wp2_with fail;exact RH.out
theorem sameFiles12_any (A1 A2:Option Addr) (n c1 c2:Nat) (l1 l2:List File) (w:World) (h1:SlAt RFile w A1 n l1) (h2:SlAt RFile w A2 n l2) (hn:n≤1000) (he:l2.map tfOf=l1.map tfOf) (hz:∀ x∈l1,x.bytes.l.length≤1000000) :
  Calls Tryz.prog 11 #[.slice A1 n c1,.slice A2 n c2] w (TrAns w):=by
 obtain⟨Z,hZ⟩:∃ Z,TrAns w=Z:=⟨_,rfl⟩;have hZ':∀ e W,TrAns w e W→Z e W:=fun e W h=>by rw[← hZ];exact h
 rw[hZ];clear hZ;have hln:l1.length=n:=h1.1;obtain⟨hZ'H,h1H,h2H,heH,hzH⟩:=hqb hZ' h1 h2 he (Lib.hid hz);clear hZ' h1 h2 he hz;go_enter Tryz.func11,Tryz.ntmps11;go_wp2_with fail
 go_loopw [13] (fun i wr=>EuRel n w i wr) (fun i _=>n-(intOf i).toNat)
 case atStart=>exact⟨0,Nat.zero_le _,rfl,Below.refl _ _⟩
 case round =>
  obtain⟨k,hk,rfl,hb⟩:=hrel
  by_cases hlt:k<n
  ·have g1:=h1H.out.below hb;have g2:=h2H.out.below hb;obtain⟨y,hy⟩:∃ y,l2[k]? = some y:=⟨l2[k]'(by have:=h2H.out.1;omega),List.getElem?_eq_getElem _⟩;obtain⟨x,hx,e1,e2,e3⟩:=tfOf_get heH.out hy;obtain⟨b1,o1,hA1,_⟩:=g1.2.1 (by omega);obtain⟨b2,o2,hA2,_⟩:=g2.2.1 (by omega);subst hA1;subst hA2;obtain⟨a0,a1,a2⟩:=cells_File g1 hx;obtain⟨d0,d1,d2⟩:=cells_File g2 hy;have ox:=(g1.2.2 x (List.mem_of_getElem? hx)).2.2;have oy:=(g2.2.2 y (List.mem_of_getElem? hy)).2.2;have hxz:=hzH.out x (List.mem_of_getElem? hx);obtain⟨xp,xr,⟨xA,xn,xc,xl⟩⟩:=x;obtain⟨yp,yr,⟨yA,yn,yc,yl⟩⟩:=y;simp only at a0 a1 a2 d0 d1 d2 ox oy e1 e2 e3 hxz;subst e1 e2 e3;have hxn:xl.length=xn:=ox.1.1;have hyn:xl.length=yn:=oy.1.1;obtain rfl:yn=xn:=by omega
   have hbd:Below wr.heap.size wr wr.drew:=(Below.refl _ _).drew;have heq:=equalU_any xA yA yn xc yc xl wr.drew (ox.1.below hbd) (oy.1.below hbd) (by omega);have e5:(xp.toList==xp.toList)=true:=by rw[beq_data];simp
   have R:∀ W,Below wr.heap.size wr W→EuRel n w (.int .i64 ((k:Int)+1)) W:=fun W hW=>⟨k+1,by omega,by go_num,hb.trans (hW.mono hb.size)⟩;obtain⟨hbH,hxH,hyH,g1H,g2H,oxH,oyH,hbdH,heqH,hxnH,hynH,RH⟩:=hq2 hb (hq2 hx (hq2 hy (hqc g1 g2 ox oy hbd heq hxn hyn (Lib.hid R))));clear hb hx hy g1 g2 ox oy hbd heq hxn hyn R;go_wp2_with fail;refine startR (R:=Rk (fun _=>True) (fun V=>(V.cell? ⟨b1,o1+k*3,none⟩=some (.string xp)∧V.cell? ⟨b1,o1+k*3+1,none⟩=some (.bool xr)∧V.cell? ⟨b1,o1+k*3+2,none⟩=some (.slice xA yn xc))∧(V.cell? ⟨b2,o2+k*3,none⟩=some (.string xp)∧V.cell? ⟨b2,o2+k*3+1,none⟩=some (.bool xr)∧V.cell? ⟨b2,o2+k*3+2,none⟩=some (.slice yA yn yc))) 99 99) (by kernel_rfl) ?_;have hC:(wr.drew.cell? ⟨b1,o1+k*3,none⟩=some (.string xp)∧wr.drew.cell? ⟨b1,o1+k*3+1,none⟩=some (.bool xr)∧wr.drew.cell? ⟨b1,o1+k*3+2,none⟩=some (.slice xA yn xc))∧(wr.drew.cell? ⟨b2,o2+k*3,none⟩=some (.string xp)∧wr.drew.cell? ⟨b2,o2+k*3+1,none⟩=some (.bool xr)∧wr.drew.cell? ⟨b2,o2+k*3+2,none⟩=some (.slice yA yn yc)):=⟨⟨a0,a1,a2⟩,⟨d0,d1,d2⟩⟩;refine takeC (i:=0) (d:=some 16) (v:=?_) rfl rfl (by kernel_rfl) (by kernel_rfl) (by kernel_rfl) (by kernel_rfl) (fun _ _ _ h=>h) (Or.inl ⟨by rfl,?_⟩) hC ?_
   rotate_left
   ·(intro w hSw;(try dsimp only at hSw);go_simp;(try with_reducible rfl))
   (try simp only[Act.put,List.setIfInBounds_toArray,List.set_cons_zero,List.set_cons_succ])
   refine takeC (i:=1) (d:=some 17) (v:=?_) rfl rfl (by kernel_rfl) (by kernel_rfl) (by kernel_rfl) (by kernel_rfl) (fun _ _ _ h=>h) (Or.inl ⟨by rfl,?_⟩) hC ?_
   rotate_left
   ·(intro w hSw;(try dsimp only at hSw);go_simp;(try with_reducible rfl))
   (try simp only[Act.put,List.setIfInBounds_toArray,List.set_cons_zero,List.set_cons_succ])
   refine takeC (i:=2) (d:=some 18) (v:=?_) rfl rfl (by kernel_rfl) (by kernel_rfl) (by kernel_rfl) (by kernel_rfl) (fun _ _ _ h=>h) (Or.inl ⟨by rfl,?_⟩) hC ?_
   rotate_left
   ·(intro w hSw;(try dsimp only at hSw);go_simp;(try with_reducible rfl))
   (try simp only[Act.put,List.setIfInBounds_toArray,List.set_cons_zero,List.set_cons_succ])
   refine takeC (i:=3) (d:=some 19) (v:=?_) rfl rfl (by kernel_rfl) (by kernel_rfl) (by kernel_rfl) (by kernel_rfl) (fun _ _ _ h=>h) (Or.inl ⟨by rfl,?_⟩) hC ?_
   rotate_left
   ·(intro w hSw;(try dsimp only at hSw);go_simp;(try with_reducible rfl))
   (try simp only[Act.put,List.setIfInBounds_toArray,List.set_cons_zero,List.set_cons_succ])
   refine takeC (i:=4) (d:=some 20) (v:=?_) rfl rfl (by kernel_rfl) (by kernel_rfl) (by kernel_rfl) (by kernel_rfl) (fun _ _ _ h=>h) (Or.inl ⟨by rfl,?_⟩) hC ?_
   rotate_left
   ·(intro w hSw;(try dsimp only at hSw);go_simp;(try with_reducible rfl))
   (try simp only[Act.put,List.setIfInBounds_toArray,List.set_cons_zero,List.set_cons_succ])
   refine takeC (i:=5) (d:=some 21) (v:=?_) rfl rfl (by kernel_rfl) (by kernel_rfl) (by kernel_rfl) (by kernel_rfl) (fun _ _ _ h=>h) (Or.inl ⟨by rfl,?_⟩) hC ?_
   rotate_left
   ·(intro w hSw;(try dsimp only at hSw);go_simp;(try with_reducible rfl))
   (try simp only[Act.put,List.setIfInBounds_toArray,List.set_cons_zero,List.set_cons_succ])
   refine takeC (i:=6) (d:=some 22) (v:=?_) rfl rfl (by kernel_rfl) (by kernel_rfl) (by kernel_rfl) (by kernel_rfl) (fun _ _ _ h=>h) (Or.inl ⟨by rfl,?_⟩) hC ?_
   rotate_left
   ·(intro w hSw;(try dsimp only at hSw);go_simp;(try with_reducible rfl))
   (try simp only[Act.put,List.setIfInBounds_toArray,List.set_cons_zero,List.set_cons_succ])
   refine takeC (i:=7) (d:=some 23) (v:=?_) rfl rfl (by kernel_rfl) (by kernel_rfl) (by kernel_rfl) (by kernel_rfl) (fun _ _ _ h=>h) (Or.inl ⟨by rfl,?_⟩) hC ?_
   rotate_left
   ·(intro w hSw;(try dsimp only at hSw);go_simp;(try with_reducible rfl))
   (try simp only[Act.put,List.setIfInBounds_toArray,List.set_cons_zero,List.set_cons_succ])
   refine takeC (i:=8) (d:=some 24) (v:=?_) rfl rfl (by kernel_rfl) (by kernel_rfl) (by kernel_rfl) (by kernel_rfl) (fun _ _ _ h=>h) (Or.inl ⟨by rfl,?_⟩) hC ?_
   rotate_left
   ·(intro w hSw;(try dsimp only at hSw);go_simp;(try with_reducible rfl))
   (try simp only[Act.put,List.setIfInBounds_toArray,List.set_cons_zero,List.set_cons_succ])
   refine takeC (i:=9) (d:=some 25) (v:=?_) rfl rfl (by kernel_rfl) (by kernel_rfl) (by kernel_rfl) (by kernel_rfl) (fun _ _ _ h=>h) (Or.inl ⟨by rfl,?_⟩) hC ?_
   rotate_left
   ·(intro w hSw;(try dsimp only at hSw);go_simp;(try with_reducible rfl))
   (try simp only[Act.put,List.setIfInBounds_toArray,List.set_cons_zero,List.set_cons_succ])
   refine takeC (i:=10) (d:=some 26) (v:=?_) rfl rfl (by kernel_rfl) (by kernel_rfl) (by kernel_rfl) (by kernel_rfl) (fun _ _ _ h=>h) (Or.inl ⟨by rfl,?_⟩) hC ?_
   rotate_left
   ·(intro w hSw;(try dsimp only at hSw);go_simp;(try with_reducible rfl))
   (try simp only[Act.put,List.setIfInBounds_toArray,List.set_cons_zero,List.set_cons_succ])
   refine takeC (i:=11) (d:=some 27) (v:=?_) rfl rfl (by kernel_rfl) (by kernel_rfl) (by kernel_rfl) (by kernel_rfl) (fun _ _ _ h=>h) (Or.inl ⟨by rfl,?_⟩) hC ?_
   rotate_left
   ·(intro w hSw;(try dsimp only at hSw);go_simp;(try with_reducible rfl))
   (try simp only[Act.put,List.setIfInBounds_toArray,List.set_cons_zero,List.set_cons_succ])
   refine takeC (i:=12) (d:=some 28) (v:=?_) rfl rfl (by kernel_rfl) (by kernel_rfl) (by kernel_rfl) (by kernel_rfl) (fun _ _ _ h=>h) (Or.inl ⟨by rfl,?_⟩) hC ?_
   rotate_left
   ·(intro w hSw;(try dsimp only at hSw);go_simp;(try with_reducible rfl))
   (try simp only[Act.put,List.setIfInBounds_toArray,List.set_cons_zero,List.set_cons_succ])
   refine takeC (i:=13) (d:=some 29) (v:=?_) rfl rfl (by kernel_rfl) (by kernel_rfl) (by kernel_rfl) (by kernel_rfl) (fun _ _ _ h=>h) (Or.inl ⟨by rfl,?_⟩) hC ?_
   rotate_left
   ·(intro w hSw;(try dsimp only at hSw);go_simp;(try with_reducible rfl))
   (try simp only[Act.put,List.setIfInBounds_toArray,List.set_cons_zero,List.set_cons_succ])
   refine takeC (i:=14) (d:=some 30) (v:=?_) rfl rfl (by kernel_rfl) (by kernel_rfl) (by kernel_rfl) (by kernel_rfl) (fun _ _ _ h=>h) (Or.inl ⟨by rfl,?_⟩) hC ?_
   rotate_left
   ·(intro w hSw;(try dsimp only at hSw);go_simp;(try with_reducible rfl))
   (try simp only[Act.put,List.setIfInBounds_toArray,List.set_cons_zero,List.set_cons_succ])
   refine takeC (i:=15) (d:=some 31) (v:=?_) rfl rfl (by kernel_rfl) (by kernel_rfl) (by kernel_rfl) (by kernel_rfl) (fun _ _ _ h=>h) (Or.inl ⟨by rfl,?_⟩) hC ?_
   rotate_left
   ·(intro w hSw;(try dsimp only at hSw);go_simp;(try with_reducible rfl))
   (try simp only[Act.put,List.setIfInBounds_toArray,List.set_cons_zero,List.set_cons_succ])
   refine takeC (i:=16) (d:=some 32) (v:=?_) rfl rfl (by kernel_rfl) (by kernel_rfl) (by kernel_rfl) (by kernel_rfl) (fun _ _ _ h=>h) (Or.inl ⟨by rfl,?_⟩) hC ?_
   rotate_left
   ·(intro w hSw;(try dsimp only at hSw);go_simp;(try with_reducible rfl))
   (try simp only[Act.put,List.setIfInBounds_toArray,List.set_cons_zero,List.set_cons_succ])
   refine takeC (i:=17) (d:=some 33) (v:=?_) rfl rfl (by kernel_rfl) (by kernel_rfl) (by kernel_rfl) (by kernel_rfl) (fun _ _ _ h=>h) (Or.inl ⟨by rfl,?_⟩) hC ?_
   rotate_left
   ·(intro w hSw;(try dsimp only at hSw);go_simp;(try with_reducible rfl))
   (try simp only[Act.put,List.setIfInBounds_toArray,List.set_cons_zero,List.set_cons_succ])
   refine takeC (i:=18) (d:=some 34) (v:=?_) rfl rfl (by kernel_rfl) (by kernel_rfl) (by kernel_rfl) (by kernel_rfl) (fun _ _ _ h=>h) (Or.inl ⟨by rfl,?_⟩) hC ?_
   rotate_left
   ·(intro w hSw;(try dsimp only at hSw);go_simp;(try with_reducible rfl))
   (try simp only[Act.put,List.setIfInBounds_toArray,List.set_cons_zero,List.set_cons_succ])
   refine takeC (i:=19) (d:=some 35) (v:=?_) rfl rfl (by kernel_rfl) (by kernel_rfl) (by kernel_rfl) (by kernel_rfl) (fun _ _ _ h=>h) (Or.inl ⟨by rfl,?_⟩) hC ?_
   rotate_left
   ·(intro w hSw;(try dsimp only at hSw);go_simp;(try with_reducible rfl))
   (try simp only[Act.put,List.setIfInBounds_toArray,List.set_cons_zero,List.set_cons_succ])
   refine takeC (i:=20) (d:=some 36) (v:=?_) rfl rfl (by kernel_rfl) (by kernel_rfl) (by kernel_rfl) (by kernel_rfl) (fun _ _ _ h=>h) (Or.inl ⟨by rfl,?_⟩) hC ?_
   rotate_left
   ·(intro w hSw;(try dsimp only at hSw);go_simp;(try with_reducible rfl))
   (try simp only[Act.put,List.setIfInBounds_toArray,List.set_cons_zero,List.set_cons_succ])
   refine takeC (i:=21) (d:=some 37) (v:=?_) rfl rfl (by kernel_rfl) (by kernel_rfl) (by kernel_rfl) (by kernel_rfl) (fun _ _ _ h=>h) (Or.inl ⟨by rfl,?_⟩) hC ?_
   rotate_left
   ·(intro w hSw;(try dsimp only at hSw);go_simp;(try with_reducible rfl))
   (try simp only[Act.put,List.setIfInBounds_toArray,List.set_cons_zero,List.set_cons_succ])
   refine takeC (i:=22) (d:=some 38) (v:=?_) rfl rfl (by kernel_rfl) (by kernel_rfl) (by kernel_rfl) (by kernel_rfl) (fun _ _ _ h=>h) (Or.inl ⟨by rfl,?_⟩) hC ?_
   rotate_left
   ·(intro w hSw;(try dsimp only at hSw);go_simp;(try with_reducible rfl))
   (try simp only[Act.put,List.setIfInBounds_toArray,List.set_cons_zero,List.set_cons_succ])
   refine takeC (i:=23) (d:=some 39) (v:=?_) rfl rfl (by kernel_rfl) (by kernel_rfl) (by kernel_rfl) (by kernel_rfl) (fun _ _ _ h=>h) (Or.inl ⟨by rfl,?_⟩) hC ?_
   rotate_left
   ·(intro w hSw;(try dsimp only at hSw);go_simp;(try with_reducible rfl))
   (try simp only[Act.put,List.setIfInBounds_toArray,List.set_cons_zero,List.set_cons_succ])
   refine takeC (i:=24) (d:=some 40) (v:=?_) rfl rfl (by kernel_rfl) (by kernel_rfl) (by kernel_rfl) (by kernel_rfl) (fun _ _ _ h=>h) (Or.inl ⟨by rfl,?_⟩) hC ?_
   rotate_left
   ·(intro w hSw;(try dsimp only at hSw);go_simp;(try with_reducible rfl))
   (try simp only[Act.put,List.setIfInBounds_toArray,List.set_cons_zero,List.set_cons_succ])
   refine takeC (i:=25) (d:=some 41) (v:=?_) rfl rfl (by kernel_rfl) (by kernel_rfl) (by kernel_rfl) (by kernel_rfl) (fun _ _ _ h=>h) (Or.inl ⟨by rfl,?_⟩) hC ?_
   rotate_left
   ·(intro w hSw;(try dsimp only at hSw);go_simp;(try with_reducible rfl))
   (try simp only[Act.put,List.setIfInBounds_toArray,List.set_cons_zero,List.set_cons_succ])
   refine takeC (i:=26) (d:=some 42) (v:=?_) rfl rfl (by kernel_rfl) (by kernel_rfl) (by kernel_rfl) (by kernel_rfl) (fun _ _ _ h=>h) (Or.inl ⟨by rfl,?_⟩) hC ?_
   rotate_left
   ·(intro w hSw;(try dsimp only at hSw);go_simp;(try with_reducible rfl))
   (try simp only[Act.put,List.setIfInBounds_toArray,List.set_cons_zero,List.set_cons_succ])
   refine takeC (i:=27) (d:=some 43) (v:=?_) rfl rfl (by kernel_rfl) (by kernel_rfl) (by kernel_rfl) (by kernel_rfl) (fun _ _ _ h=>h) (Or.inl ⟨by rfl,?_⟩) hC ?_
   rotate_left
   ·(intro w hSw;(try dsimp only at hSw);go_simp;(try with_reducible rfl))
   (try simp only[Act.put,List.setIfInBounds_toArray,List.set_cons_zero,List.set_cons_succ])
   refine takeC (i:=28) (d:=some 44) (v:=?_) rfl rfl (by kernel_rfl) (by kernel_rfl) (by kernel_rfl) (by kernel_rfl) (fun _ _ _ h=>h) (Or.inl ⟨by rfl,?_⟩) hC ?_
   rotate_left
   ·(intro w hSw;(try dsimp only at hSw);go_simp;(try with_reducible rfl))
   (try simp only[Act.put,List.setIfInBounds_toArray,List.set_cons_zero,List.set_cons_succ])
   refine takeC (i:=29) (d:=some 45) (v:=?_) rfl rfl (by kernel_rfl) (by kernel_rfl) (by kernel_rfl) (by kernel_rfl) (fun _ _ _ h=>h) (Or.inl ⟨by rfl,?_⟩) hC ?_
   rotate_left
   ·(intro w hSw;(try dsimp only at hSw);go_simp;(try with_reducible rfl))
   (try simp only[Act.put,List.setIfInBounds_toArray,List.set_cons_zero,List.set_cons_succ])
   refine takeC (i:=30) (d:=some 46) (v:=?_) rfl rfl (by kernel_rfl) (by kernel_rfl) (by kernel_rfl) (by kernel_rfl) (fun _ _ _ h=>h) (Or.inl ⟨by rfl,?_⟩) hC ?_
   rotate_left
   ·(intro w hSw;(try dsimp only at hSw);go_simp;(try with_reducible rfl))
   (try simp only[Act.put,List.setIfInBounds_toArray,List.set_cons_zero,List.set_cons_succ])
   refine takeC (i:=31) (d:=some 47) (v:=?_) rfl rfl (by kernel_rfl) (by kernel_rfl) (by kernel_rfl) (by kernel_rfl) (fun _ _ _ h=>h) (Or.inl ⟨by rfl,?_⟩) hC ?_
   rotate_left
   ·(intro w hSw;(try dsimp only at hSw);go_simp;(try with_reducible rfl))
   (try simp only[Act.put,List.setIfInBounds_toArray,List.set_cons_zero,List.set_cons_succ])
   refine takeC (i:=32) (d:=some 48) (v:=?_) rfl rfl (by kernel_rfl) (by kernel_rfl) (by kernel_rfl) (by kernel_rfl) (fun _ _ _ h=>h) (Or.inl ⟨by rfl,?_⟩) hC ?_
   rotate_left
   ·(intro w hSw;(try dsimp only at hSw);go_simp;(try with_reducible rfl))
   (try simp only[Act.put,List.setIfInBounds_toArray,List.set_cons_zero,List.set_cons_succ])
   refine takeC (i:=33) (d:=some 49) (v:=?_) rfl rfl (by kernel_rfl) (by kernel_rfl) (by kernel_rfl) (by kernel_rfl) (fun _ _ _ h=>h) (Or.inl ⟨by rfl,?_⟩) hC ?_
   rotate_left
   ·(intro w hSw;(try dsimp only at hSw);go_simp;(try with_reducible rfl))
   (try simp only[Act.put,List.setIfInBounds_toArray,List.set_cons_zero,List.set_cons_succ])
   refine takeC (i:=34) (d:=some 50) (v:=?_) rfl rfl (by kernel_rfl) (by kernel_rfl) (by kernel_rfl) (by kernel_rfl) (fun _ _ _ h=>h) (Or.inl ⟨by rfl,?_⟩) hC ?_
   rotate_left
   ·(intro w hSw;(try dsimp only at hSw);go_simp;(try with_reducible rfl))
   (try simp only[Act.put,List.setIfInBounds_toArray,List.set_cons_zero,List.set_cons_succ])
   refine oneR (i:=35) (by kernel_rfl) rfl (fun K hK=>?_);go_simp;go_at_call 37;refine heqH.out.mono ?_;rintro e w9 ⟨rfl,hb9⟩;have hC9:(w9.cell? ⟨b1,o1+k*3,none⟩=some (.string xp)∧w9.cell? ⟨b1,o1+k*3+1,none⟩=some (.bool xr)∧w9.cell? ⟨b1,o1+k*3+2,none⟩=some (.slice xA yn xc))∧(w9.cell? ⟨b2,o2+k*3,none⟩=some (.string xp)∧w9.cell? ⟨b2,o2+k*3+1,none⟩=some (.bool xr)∧w9.cell? ⟨b2,o2+k*3+2,none⟩=some (.slice yA yn yc)):=⟨⟨keepC hb9 hC.1.1,keepC hb9 hC.1.2.1,keepC hb9 hC.1.2.2⟩,⟨keepC hb9 hC.2.1,keepC hb9 hC.2.2.1,keepC hb9 hC.2.2.2⟩⟩;have R9:=RH.out w9 (hbdH.out.trans hb9);obtain⟨hb9H,R9H⟩:=hq2 hb9 (Lib.hid R9);clear hb9 R9;refine hK.out _ _ ⟨fun _ _ _=>trivial,fun _ _=>hC9⟩ ?_;clear hK K
   (try simp only[Act.put,List.setIfInBounds_toArray,List.set_cons_zero,List.set_cons_succ])
   clear hC;have hC:=hC9;refine takeC (i:=36) (d:=some 52) (v:=?_) rfl rfl (by kernel_rfl) (by kernel_rfl) (by kernel_rfl) (by kernel_rfl) (fun _ _ _ h=>h) (Or.inl ⟨by rfl,?_⟩) hC ?_
   rotate_left
   ·(intro w hSw;(try dsimp only at hSw);go_simp;(try with_reducible rfl))
   (try simp only[Act.put,List.setIfInBounds_toArray,List.set_cons_zero,List.set_cons_succ])
   refine takeC (i:=37) (d:=some 53) (v:=?_) rfl rfl (by kernel_rfl) (by kernel_rfl) (by kernel_rfl) (by kernel_rfl) (fun _ _ _ h=>h) (Or.inl ⟨by rfl,?_⟩) hC ?_
   rotate_left
   ·(intro w hSw;(try dsimp only at hSw);go_simp;(try with_reducible rfl))
   (try simp only[Act.put,List.setIfInBounds_toArray,List.set_cons_zero,List.set_cons_succ])
   refine doneR (by kernel_rfl) ?_ _;clear hC hC9 a0 a1 a2 d0 d1 d2;go_wp2_with fail;exact⟨R9H.out,by simp[intOf];omega⟩
  ·obtain rfl:k=n:=by omega
   have R:=hZ'H.out (.returned (.bool true)) wr ⟨rfl,hb⟩;obtain⟨hbH,RH⟩:=hq2 hb (Lib.hid R);clear hb R;go_wp2_with fail;exact RH.out
theorem SnM.bytes {T sb gP cP s nB cB n' c':Nat} {rest:List Value} {vD:Value} {AB A':Option Addr} {D:List ObT} {d:ByteArray} {bs bs':List UInt8} {w w5:World} (h:SnM T sb rest vD (.slice (some ⟨gP,0,none⟩) 1 cP) (.slice AB nB cB) D [⟨d,s,⟨AB,nB,cB,bs⟩⟩] bs w)
  (ho:Own RU8 5 w5 T (.slice A' n' c') bs') (hg:w.grownBy w5 (Value.slice AB nB cB).ownBlock) (hat:(Value.slice A' n' c').ownBlock=(Value.slice AB nB cB).ownBlock∨(Value.slice A' n' c').ownBlock=some w.heap.size) :
  SnM T sb rest vD (.slice (some ⟨gP,0,none⟩) 1 cP) (.slice A' n' c') D [⟨d,s,⟨A',n',c',bs'⟩⟩] bs' (w5.setCell ⟨gP,2,none⟩ (.slice A' n' c')):=by
 have hlt:=h.lt;have hgP:=h.oP.1.lt gP rfl;have hgs:=grown_setc w5 ⟨gP,2,none⟩ (.slice A' n' c');have hne:gP≠sb:=h.nP gP rfl;have hBD:=dj_step h.dDB.symm hat (own_lt h.oD);have hBP:=dj_step h.dPB.symm hat (own_lt h.oP);have hnB:∀ g,(Value.slice A' n' c').ownBlock=some g→g≠sb:=fun g hg9 e=>by
  rcases hat with h1 | h1
  ·exact h.nB g (h1 ▸ hg9) e
  ·rw[h1]at hg9;injection hg9 with hg9;omega
 have hb5:Blk w5 sb (vD :: .slice (some ⟨gP,0,none⟩) 1 cP::rest):=h.blk.keep (hg.block sb hlt fun e=>h.nB sb e.symm rfl);have hsz:=hg.size;have hoP5:=h.oP.kept hg h.dPB.ne (fun _ _ h=>h);refine⟨hb5.keep (hgs.block sb (by omega) fun e=>hne (by injection e with e;exact e.symm)),own_apart (h.oD.kept hg h.dDB.ne (fun _ _ h=>h)) _ (fun g hg9 e=>h.dDP g hg9 (by rw[e];rfl)) (fun _ h=>h),?_,own_apart ho _ (fun g hg9 e=>hBP g hg9 (by rw[e];rfl)) (fun _ h=>h),h.dDP,hBD.symm,hBP.symm,h.nD,h.nP,hnB,fun y hy=>?_,h.tb⟩
 ·have:=own_setc hoP5 (k:=0) (j:=2) (x:=⟨d,s,⟨AB,nB,cB,bs⟩⟩) (x':=⟨d,s,⟨A',n',c',bs'⟩⟩) (v:=.slice A' n' c') rfl (by decide) rfl (fun _ _=>trivial);exact this
 ·obtain⟨h2,h3⟩:=h.el y hy;refine⟨sl_grown (sl_grown h2 hg fun hn ad hA e=>(h3 hn ad hA).2.2.2 e.symm) hgs fun hn ad hA e=>(h3 hn ad hA).2.2.1 (by injection e with e;rw[e];rfl),fun hn ad hA=>?_⟩;obtain⟨q1,q2,q3,q4⟩:=h3 hn ad hA;refine⟨q1,q2,q3,fun e=>?_⟩
  rcases hat with h4 | h4
  ·exact q4 (h4 ▸ e)
  ·rw[h4]at e;injection e with e;have:=sl_lt h2 hn hA;omega
theorem SnM.gone {T sb gP cP:Nat} {rest:List Value} {vD vB:Value} {D:List ObT} {P:List PaT} {bs:List UInt8} {w w5:World} (h:SnM T sb rest vD (.slice (some ⟨gP,0,none⟩) 1 cP) vB D P bs w)
  (ho:Own RPv 125 w5 T (.slice (some ⟨gP,0,none⟩) 0 cP) []) (hg:w.grownBy w5 (some gP)) :
  SnM T sb rest vD (.slice (some ⟨gP,0,none⟩) 0 cP) vB D [] bs (w5.setCell ⟨sb,1,none⟩ (.slice (some ⟨gP,0,none⟩) 0 cP)):=by
 have hlt:=h.lt;have hgs:=grown_setc w5 ⟨sb,1,none⟩ (.slice (some ⟨gP,0,none⟩) 0 cP);have hne:gP≠sb:=h.nP gP rfl;have hb5:Blk w5 sb (vD :: .slice (some ⟨gP,0,none⟩) 1 cP::rest):=h.blk.keep (hg.block sb hlt fun e=>hne (by injection e with e;exact e.symm));refine⟨hb5.set (k:=1) (by simp) _,own_apart (h.oD.kept hg h.dDP.ne (fun _ _ h=>h)) _ h.nD (fun _ h=>h),own_apart ho _ (fun g hg9=>h.nP g hg9) (fun _ h=>h),own_apart (h.oB.kept hg h.dPB.symm.ne (fun _ _ h=>h)) _ h.nB (fun _ h=>h),h.dDP,h.dDB,h.dPB,h.nD,h.nP,h.nB,fun y hy=>?_,h.tb⟩;obtain⟨h2,h3⟩:=h.el y hy;exact⟨sl_grown (sl_grown h2 hg fun hn ad hA e=>(h3 hn ad hA).2.2.1 e.symm) hgs fun hn ad hA e=>(h3 hn ad hA).1 (by injection e),h3⟩
def DmAns (T sb:Nat) (rest:List Value) (vD vP vB:Value) (D:List ObT) (d:ByteArray) (s:Nat) (bs':List UInt8) (n':Nat) (w:World) (e:Ending) (w':World):Prop :=
 ∃ (A':Option Addr) (c':Nat),(∀ g,(Value.slice A' n' c').ownBlock=some g→vB.ownBlock=some g∨w.heap.size≤g)∧HvAns (SnS sb vD vP vB) T sb rest vD vP (.slice A' n' c') D [⟨d,s,⟨A',n',c',bs'⟩⟩] bs' d n' w e w'
def DlAns (T sb:Nat) (rest:List Value) (vD vP vB:Value) (D:List ObT) (d:ByteArray) (bs':List UInt8) (w:World) (e:Ending) (w':World):Prop :=
 e = .returned (.tuple #[msgV 4 d 0 0 (.slice none 0 0),.int .i64 0])∧Below T w w'∧Kp (SnS sb vD vP vB) w w'∧∃ (vD' vP':Value) (D':List ObT) (x:ObT),SnM T sb rest vD' vP' (.slice none 0 0) D' [] [] w'∧(∀ g,vD'.ownBlock=some g→vD.ownBlock=some g∨w.heap.size≤g)∧(∀ g,vP'.ownBlock=some g→vP.ownBlock=some g∨w.heap.size≤g)∧(∀ ad,x.bytes.A=some ad→vB.ownBlock=some ad.block∨w.heap.size≤ad.block)∧x.dig=d∧x.bytes.l=bs'∧PutO D x D'∧D'.Pairwise fun a b=>cmpS a.dig b.dig = -1
end Go.Proofs.YtpdjjjiknijpkaaGreatDoor.C10