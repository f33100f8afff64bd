/-
 Several texts of mine as one, without what is not wanted here: XWrQ, XWrP, XWdB.
-/
import Derived.Test.YtpdjjjiknijpkaaGreatDoorTvTC10
set_option linter.unusedVariables false
set_option linter.unusedSimpArgs false
set_option maxRecDepth 100000
set_option maxHeartbeats 8000000
namespace Go.Proofs.YtpdjjjiknijpkaaGreatDoor.C10
open Go.ChangeShapes Go.WideShapes Go.Deep Go.RowKit Go.Lib
theorem MsgAt.take {T sb mb:Nat} {d:ByteArray} (hdB:digB d=true) {b:List UInt8} {n:Nat} (hn:b.length=n) (hn1:n≤100000) {vD vP vB:Value} {D:List ObT} {P:List PaT} {bs:List UInt8} (hd:digF b=d) (hDl:D.length<4000) (hs:D.Pairwise fun a b=>cmpS a.dig b.dig = -1) (hno:∀ x∈D,x.dig≠d) {W:World} (h:MsgAt sb mb d b n vB P bs W) :
  ∃ (kk:Int) (f sz nx cx lo:Nat) (Ax:Option Addr),Blk W mb (msgL kk d f sz (.slice Ax nx cx))∧nx≤65536∧onM n mb W≤n+1∧(∀ f',lo≤f'→f'<n→n-f'<onM n mb W)∧Part d b n vB P bs ∧
   ∀ (W':World) (rest:List Value),W.grownBy W' (some sb)→SnM T sb rest vD vP vB D P bs W'→Calls Tryz.prog 64 #[.pointer (some ⟨sb,0,none⟩),msgV kk d f sz (.slice Ax nx cx)] W' (TkAns T sb rest vD vP vB D d b n lo W'):=by
 rcases h with ⟨h1,h2⟩ | ⟨f,cB,nx,cx,AB,Ax,l,h1,rfl,rfl,h4,h5,h6,h7,h8,h9,h10,h11⟩
 ·refine⟨1,0,n,0,0,0,none,h1,by decide,by rw[onM_begin h1];exact Nat.le_refl _,fun f' _ hf=>by rw[onM_begin h1];omega,h2,fun W' rest hg hM=>take_begin T sb rest vD vP vB D P bs d hdB b n hn hn1 h2 hd hDl hs hno W' hM⟩
 ·refine⟨2,f,0,nx,cx,f+1,Ax,h1,h10,by rw[onM_data h1];omega,fun f' hlo hf=>by rw[onM_data h1];omega,.inr ⟨AB,f,cB,rfl,rfl,h4,h5⟩,fun W' rest hg hM=>?_⟩;have hne:(Value.slice Ax nx cx).ownBlock=none∨(Value.slice Ax nx cx).ownBlock≠some sb:=by
   cases hv:(Value.slice Ax nx cx).ownBlock with
   | none=>exact .inl rfl
   | some g=>exact .inr fun e=>by injection e with e;have:=(h6.1.lt g hv).1;omega
  exact take_data T sb rest vD vP AB Ax f cB nx cx D d hdB b bs l n hn hn1 h4 h8 h5 h9 h10 h11 hd hDl hs hno W' hM (own_u8_ok (h6.kept hg hne fun _ _ h=>h))
theorem below_grown {w w':World} (h:Below w.heap.size w w') (row:Option Nat):w.grownBy w' row:=⟨h.os,h.tape,h.output,h.size,fun k hk _=>h.block k hk⟩
structure AfT (T sb mb ab:Nat) (rest:List Value) (d:ByteArray) (b:List UInt8) (n lo:Nat) (kr:Int) (fr:Nat) (vD0 vP0 vB0 vD1 vP1 vB1 vD2 vP2 vB2:Value) (D0 D1 D2:List ObT) (P2:List PaT) (bs2:List UInt8) (msg:List Value) (w W:World):Prop where
 M:SnM T sb rest vD2 vP2 vB2 D2 P2 bs2 W
 kp:KpF sb vD0 vP0 vB0 D0 vD2 vP2 vB2 D2 w W
 bel:Below T w W
 za:Blk W ab zmV
 fa:Fr ab sb vD2 vP2 vB2 D2
 fm:Fr mb sb vD2 vP2 vB2 D2
 zm:Blk W mb msg
 wa:w.heap.size≤ab
 ma:mb<ab
 o:TkO vD1 vD2 vB2 D1 D2 P2 bs2 d b n lo kr fr
theorem AfT.behind {T sb mb:Nat} {rest:List Value} {d:ByteArray} {b:List UInt8} {n lo:Nat} {kr:Int} {fr:Nat} {vD0 vP0 vB0 vD1 vP1 vB1:Value} {D0 D1:List ObT} {msg:List Value} {w w4 w6:World} (hkp:KpF sb vD0 vP0 vB0 D0 vD1 vP1 vB1 D1 w w4) (hb:Below T w w4) (hT:T≤w.heap.size) (hz:Blk w4 mb msg) (hm:msg≠[]) (hf:Fr mb sb vD1 vP1 vB1 D1) (hR:TkR T sb rest vD1 vP1 vB1 D1 d b n lo kr fr w4 w6) {ab:Nat} (hab:w6.heap.size=ab) :
  ∃ (vD2 vP2 vB2:Value) (D2:List ObT) (P2:List PaT) (bs2:List UInt8),AfT T sb mb ab rest d b n lo kr fr vD0 vP0 vB0 vD1 vP1 vB1 vD2 vP2 vB2 D0 D1 D2 P2 bs2 msg w (w6.alloc (.cells #[.int .i64 0,.string ⟨#[]⟩,.int .i64 0,.int .i64 0,.slice none 0 0] 131)):=by
 subst hab;obtain⟨hbT6,hkp6,vD2,vP2,vB2,D2,P2,bs2,hM6,ho1,ho2,ho3,ho4,hO⟩:=hR;have hkeep:KpF sb vD1 vP1 vB1 D1 vD2 vP2 vB2 D2 w4 w6:=TkR.keeps hkp6 ho1 ho2 ho3 ho4;obtain⟨hh6,hfr6⟩:=hkeep.2 mb (hz.lt hm) hf;have hbA:Below w6.heap.size w6 (w6.alloc (.cells #[.int .i64 0,.string ⟨#[]⟩,.int .i64 0,.int .i64 0,.slice none 0 0] 131)):=(Below.refl _ _).alloc (Nat.le_refl _) _;have hz6:=hz.keep hh6;have hk06:=hkp.trans hkeep;exact⟨vD2,vP2,vB2,D2,P2,bs2,hM6.below hbA,hk06.below hbA,(hb.trans hbT6).trans (hbA.mono (by have:=hk06.1;omega)),blk_new w6 _ _,hM6.fresh (Nat.le_refl _),hfr6,blk_below hz6 hm hbA,hk06.1,hz6.lt hm,hO⟩
theorem AfT.ahead {T sb mb:Nat} {rest:List Value} {d:ByteArray} {b:List UInt8} {n lo:Nat} {kr:Int} {fr:Nat} {vD0 vP0 vB0 vD1 vP1 vB1:Value} {D0 D1:List ObT} {P1:List PaT} {bs1:List UInt8} {msg:List Value} {w w4 w6:World} (hkp:KpF sb vD0 vP0 vB0 D0 vD1 vP1 vB1 D1 w w4) (hb:Below T w w4) (hT:T≤w.heap.size) (hz:Blk w4 mb msg) (hm:msg≠[]) (hf:Fr mb sb vD1 vP1 vB1 D1) (hM:SnM T sb rest vD1 vP1 vB1 D1 P1 bs1 w4)
  (hR:TkR T sb rest vD1 vP1 vB1 D1 d b n lo kr fr (w4.alloc (.cells #[.int .i64 0,.string ⟨#[]⟩,.int .i64 0,.int .i64 0,.slice none 0 0] 131)) w6) {ab:Nat} (hab:w4.heap.size=ab) :
  ∃ (vD2 vP2 vB2:Value) (D2:List ObT) (P2:List PaT) (bs2:List UInt8),AfT T sb mb ab rest d b n lo kr fr vD0 vP0 vB0 vD1 vP1 vB1 vD2 vP2 vB2 D0 D1 D2 P2 bs2 msg w w6:=by
 subst hab;obtain⟨W4,hW4⟩:∃ W,w4.alloc (.cells #[.int .i64 0,.string ⟨#[]⟩,.int .i64 0,.int .i64 0,.slice none 0 0] 131)=W:=⟨_,rfl⟩;have hbA:Below w4.heap.size w4 W4:=by rw[← hW4];exact(Below.refl _ _).alloc (Nat.le_refl _) _
 have hza:Blk W4 w4.heap.size zmV:=by rw[← hW4];exact blk_new w4 _ _
 rw[hW4]at hR;obtain⟨hbT6,hkp6,vD2,vP2,vB2,D2,P2,bs2,hM6,ho1,ho2,ho3,ho4,hO⟩:=hR;have hkeep:KpF sb vD1 vP1 vB1 D1 vD2 vP2 vB2 D2 W4 w6:=TkR.keeps hkp6 ho1 ho2 ho3 ho4;have hz4:=blk_below hz hm hbA;obtain⟨hh6,hfr6⟩:=hkeep.2 mb (hz4.lt hm) hf;obtain⟨hha,hfra⟩:=hkeep.2 w4.heap.size (hza.lt (by simp[zmV])) (hM.fresh (Nat.le_refl _));exact⟨vD2,vP2,vB2,D2,P2,bs2,hM6,(hkp.below hbA).trans hkeep,(hb.trans (hbA.mono (by have:=hkp.1;omega))).trans hbT6,hza.keep hha,hfra,hfr6,hz4.keep hh6,hkp.1,hz.lt hm,hO⟩
theorem once_any (T sb n c most:Nat) (A:Option Addr) (d:ByteArray) (hdB:digB d=true) (b:List UInt8) (hn:b.length=n) (hn1:n≤100000) (hm:0<most) (hm2:most≤65536) (hd:digF b=d) (vD vP vB:Value) (D:List ObT) (P:List PaT) (bs:List UInt8) (s5 left:Int) (hL1:-1≤left) (hL2:left≤20000) (hDl:D.length<4000) (hs:D.Pairwise fun a b=>cmpS a.dig b.dig = -1) (hno:∀ x∈D,x.dig≠d) (hpt:Part d b n vB P bs) (w:World) (hM:SnM T sb [.string d,.slice A n c,.int .i64 most,.int .i64 s5] vD vP vB D P bs w) (hx:(RSl RU8).ok w ⟨A,n,c,b⟩) (hxT:0<n→∀ ad,A=some ad→ad.block<T) :
  Calls Tryz.prog 32 #[.pointer (some ⟨sb,0,none⟩),.int .i64 left] w (OnAns T sb (.string d) (.slice A n c) (.int .i64 most) d b n vD vP vB D left w):=by
 obtain⟨Z,hZ⟩:∃ Z,OnAns T sb (.string d) (.slice A n c) (.int .i64 most) d b n vD vP vB D left w=Z:=⟨_,rfl⟩;have hZ':∀ e W,OnAns T sb (.string d) (.slice A n c) (.int .i64 most) d b n vD vP vB D left w e W→Z e W:=fun e W h=>by rw[← hZ];exact h
 rw[hZ];clear hZ;have hTw:T≤w.heap.size:=by have:=hM.lt;have:=hM.tb;omega
 have hbd:Below w.heap.size w w.drew:=(Below.refl _ _).drew;obtain⟨W2,hW2⟩:∃ W,w.drew.alloc (.cells #[.int .i64 0,.string ⟨#[]⟩,.int .i64 0,.int .i64 0,.slice none 0 0] 131)=W:=⟨_,rfl⟩;have hb2:Below w.heap.size w W2:=by rw[← hW2];exact hbd.alloc (Nat.le_refl _) _
 have hs2:W2.heap.size=w.heap.size+1:=by rw[← hW2];simp
 have hzm:Blk W2 w.heap.size zmV:=by rw[← hW2];exact blk_new w.drew _ _
 obtain⟨mb,hmb⟩:∃ b,w.heap.size=b:=⟨_,rfl⟩;rw[hmb]at hzm hs2;have hfr:Fr mb sb vD vP vB D:=hM.fresh (by omega);obtain⟨r2,-⟩:=hM.blk 2 _ rfl;obtain⟨r3,-⟩:=hM.blk 3 _ rfl;have q2:=keepC hb2 r2;have q3:=keepC hb2 r3;have hgm:=msg_grown W2 mb (.int .i64 1) (.string d) (.int .i64 0) (.int .i64 n) (.slice none 0 0);have hzm3:=msg_set hzm (.int .i64 1) (.string d) (.int .i64 0) (.int .i64 n) (.slice none 0 0);obtain⟨W3,hW3⟩:∃ W,(((((W2.setCell ⟨mb,0,none⟩ (.int .i64 1)).setCell ⟨mb,1,none⟩ (.string d)).setCell ⟨mb,2,none⟩ (.int .i64 0)).setCell ⟨mb,3,none⟩ (.int .i64 n)).setCell ⟨mb,4,none⟩ (.slice none 0 0))=W:=⟨_,rfl⟩;rw[hW3]at hgm hzm3;have hC2:W2.cell? ⟨sb,2,none⟩=some (.string d)∧W2.cell? ⟨sb,3,none⟩=some (.slice A n c):=⟨q2,q3⟩;have hC3:W3.cell? ⟨sb,2,none⟩=some (.string d)∧W3.cell? ⟨sb,3,none⟩=some (.slice A n c):=⟨grown_keep hgm q2 fun e=>hfr.1 e.symm,grown_keep hgm q3 fun e=>hfr.1 e.symm⟩;have hM3:SnM T sb [.string d,.slice A n c,.int .i64 most,.int .i64 s5] vD vP vB D P bs W3:=(hM.below hb2).grown hgm hfr.1 hfr.2.1 hfr.2.2.1 hfr.2.2.2.1 hfr.2.2.2.2;have hb3:Below T w W3:=(hb2.mono hTw).grown hgm (by omega) fun g hg=>by injection hg with hg;omega
 have hb3w:Below w.heap.size w W3:=hb2.grown hgm (by omega) fun g hg=>by injection hg with hg;omega
 have hst0:OnRel T sb mb (.string d) (.slice A n c) (.int .i64 most) d b n vD vP vB D left w (.int .i64 left) W3:=⟨0,s5,vD,vP,vB,P,bs,by simp,by rw[onM_begin hzm3];omega,hb3,hM3,(KpF.refl).below hb3w,hfr,.inl ⟨hzm3,hpt⟩⟩;clear hgm hM3 hb3 hb3w q2 q3;obtain⟨hZ'H,hMH,hbdH,hb2H,hzmH,hfrH,hzm3H,hst0H,hsH,hnoH,hdH,hptH,hxH,hxTH⟩:=hq2 hZ' (hqb hM hbd hb2 hzm (hqc hfr hzm3 hst0 hs hno hd hpt hx (Lib.hid hxT)));clear hZ' hM hbd hb2 hzm hfr hzm3 hst0 hs hno hd hpt hx hxT;go_enter Tryz.func32,Tryz.ntmps32;go_wp2_with fail;refine startR (R:=Rk (fun _=>True) (fun V=>V.cell? ⟨sb,2,none⟩=some (.string d)∧V.cell? ⟨sb,3,none⟩=some (.slice A n c)) 99 99) (by kernel_rfl) ?_;have hC:w.drew.cell? ⟨sb,2,none⟩=some (.string d)∧w.drew.cell? ⟨sb,3,none⟩=some (.slice A n c):=⟨r2,r3⟩;refine takeC (i:=0) (d:=some 9) (v:=?_) rfl rfl (by kernel_rfl) (by kernel_rfl) (by kernel_rfl) (by kernel_rfl) (fun _ _ _ h=>h) (Or.inl ⟨by rfl,?_⟩) hC ?_
 rotate_left
 ·(intro w hSw;(try dsimp only at hSw);go_simp;(try with_reducible rfl))
 (try simp only[Act.put,List.setIfInBounds_toArray,List.set_cons_zero,List.set_cons_succ])
 refine takeC (i:=1) (d:=some 10) (v:=?_) rfl rfl (by kernel_rfl) (by kernel_rfl) (by kernel_rfl) (by kernel_rfl) (fun _ _ _ h=>h) (Or.inl ⟨by rfl,?_⟩) hC ?_
 rotate_left
 ·(intro w hSw;(try dsimp only at hSw);go_simp;(try with_reducible rfl))
 (try simp only[Act.put,List.setIfInBounds_toArray,List.set_cons_zero,List.set_cons_succ])
 refine takeC (i:=2) (d:=some 11) (v:=?_) rfl rfl (by kernel_rfl) (by kernel_rfl) (by kernel_rfl) (by kernel_rfl) (fun _ _ _ h=>h) (Or.inl ⟨by rfl,?_⟩) hC ?_
 rotate_left
 ·(intro w hSw;(try dsimp only at hSw);go_simp;(try with_reducible rfl))
 (try simp only[Act.put,List.setIfInBounds_toArray,List.set_cons_zero,List.set_cons_succ])
 refine takeC (i:=3) (d:=some 12) (v:=?_) rfl rfl (by kernel_rfl) (by kernel_rfl) (by kernel_rfl) (by kernel_rfl) (fun _ _ _ h=>h) (Or.inl ⟨by rfl,?_⟩) hC ?_
 rotate_left
 ·(intro w hSw;(try dsimp only at hSw);go_simp;(try with_reducible rfl))
 (try simp only[Act.put,List.setIfInBounds_toArray,List.set_cons_zero,List.set_cons_succ])
 refine takeC (i:=4) (d:=some 13) (v:=?_) rfl rfl (by kernel_rfl) (by kernel_rfl) (by kernel_rfl) (by kernel_rfl) (fun _ _ _ h=>h) (Or.inl ⟨by rfl,?_⟩) hC ?_
 rotate_left
 ·(intro w hSw;(try dsimp only at hSw);go_simp;(try with_reducible rfl))
 (try simp only[Act.put,List.setIfInBounds_toArray,List.set_cons_zero,List.set_cons_succ])
 refine takeC (i:=5) (d:=some 14) (v:=?_) rfl rfl (by kernel_rfl) (by kernel_rfl) (by kernel_rfl) (by kernel_rfl) (fun _ _ _ h=>h) (Or.inl ⟨by rfl,?_⟩) hC ?_
 rotate_left
 ·(intro w hSw;(try dsimp only at hSw);go_simp;(try with_reducible rfl))
 (try simp only[Act.put,List.setIfInBounds_toArray,List.set_cons_zero,List.set_cons_succ])
 refine takeC (i:=6) (d:=some 15) (v:=?_) rfl rfl (by kernel_rfl) (by kernel_rfl) (by kernel_rfl) (by kernel_rfl) (fun _ _ _ h=>h) (Or.inl ⟨by rfl,?_⟩) hC ?_
 rotate_left
 ·(intro w hSw;(try dsimp only at hSw);go_simp;(try with_reducible rfl))
 (try simp only[Act.put,List.setIfInBounds_toArray,List.set_cons_zero,List.set_cons_succ])
 refine takeC (i:=7) (d:=some 16) (v:=?_) rfl rfl (by kernel_rfl) (by kernel_rfl) (by kernel_rfl) (by kernel_rfl) (fun _ _ _ h=>h) (Or.inl ⟨by rfl,?_⟩) hC ?_
 rotate_left
 ·(intro w hSw;(try dsimp only at hSw);go_simp;(try with_reducible rfl))
 (try simp only[Act.put,List.setIfInBounds_toArray,List.set_cons_zero,List.set_cons_succ])
 refine takeC (i:=8) (d:=some 17) (v:=?_) rfl rfl (by kernel_rfl) (by kernel_rfl) (by kernel_rfl) (by kernel_rfl) (fun _ _ _ h=>h) (Or.inl ⟨by rfl,?_⟩) hC ?_
 rotate_left
 ·(intro w hSw;(try dsimp only at hSw);go_simp;(try with_reducible rfl))
 (try simp only[Act.put,List.setIfInBounds_toArray,List.set_cons_zero,List.set_cons_succ])
 refine takeC (i:=9) (d:=some 18) (v:=?_) rfl rfl (by kernel_rfl) (by kernel_rfl) (by kernel_rfl) (by kernel_rfl) (fun _ _ _ h=>h) (Or.inl ⟨by rfl,?_⟩) hC ?_
 rotate_left
 ·(intro w hSw;(try dsimp only at hSw);go_simp;(try with_reducible rfl))
 (try simp only[Act.put,List.setIfInBounds_toArray,List.set_cons_zero,List.set_cons_succ])
 refine oneR (i:=10) (by kernel_rfl) rfl (fun K hK=>?_);go_simp
 try rw[hW2]
 refine hK.out _ _ ⟨fun _ _ _=>trivial,fun _ _=>hC2⟩ ?_;clear hK K
 (try simp only[Act.put,List.setIfInBounds_toArray,List.set_cons_zero,List.set_cons_succ])
 refine oneR (i:=11) (by kernel_rfl) rfl (fun K hK=>?_);refine step_msg hzmH.out rfl (.tmp 6) (.tmp 18) rfl rfl (.int .i64 1) (.string d) (.int .i64 0) (.int .i64 n) (.slice none 0 0) rfl rfl rfl rfl rfl rfl ?_;rw[hW3];refine hK.out _ _ ⟨fun _ _ _=>trivial,fun _ _=>hC3⟩ ?_;clear hK K
 (try simp only[Act.put,List.setIfInBounds_toArray,List.set_cons_zero,List.set_cons_succ])
 refine doneR (by kernel_rfl) ?_ _;clear hC hC2 hC3 r2 r3 hW2 hW3;go_wp2_with fail
 go_loopw [1] (fun i wr=>OnRel T sb mb (.string d) (.slice A n c) (.int .i64 most) d b n vD vP vB D left w i wr) (fun _ wr=>onM n mb wr)
 case atStart=>exact hst0H.out
 case round =>
  clear hst0H hzmH hzm3H hbdH hb2H hptH;obtain⟨k,s5',vD',vP',vB',P',bs',hi,hk,hb,hM1,hkp,hfr1,hmsg⟩:=hrel;obtain⟨lf,hlf⟩:∃ z,left-(k:Int)=z:=⟨_,rfl⟩;rw[hlf]at hi;subst hi;obtain⟨kk,f0,sz,nx,cx,lo,Ax,hzk,hnx,hmu,hmu2,hpt1,htake⟩:=hmsg.take (T:=T) (vD:=vD') (vP:=vP') (D:=D) hdB hn hn1 hdH.out hDl hsH.out hnoH.out;obtain⟨s6,hs6⟩:∃ z,IntKind.i64.wrap (s5'+(nx:Int))=z:=⟨_,rfl⟩;obtain⟨z4,y4⟩:=hzk 4 _ rfl;obtain⟨r5,f5⟩:=hM1.blk 5 _ rfl;have hgs:=grown_setc wr.drew ⟨sb,5,none⟩ (.int .i64 s6);have hg4:wr.grownBy (wr.drew.setCell ⟨sb,5,none⟩ (.int .i64 s6)) (some sb):=grown_trans (grown_drew _ _) hgs;have hbrd:Below wr.heap.size wr wr.drew:=(Below.refl _ _).drew;have hM4:=(hM1.below hbrd).sent (.int .i64 s6);have hzk4:Blk (wr.drew.setCell ⟨sb,5,none⟩ (.int .i64 s6)) mb (msgL kk d f0 sz (.slice Ax nx cx)):=hzk.keep (hg4.block mb (hzk.lt (by simp[msgL])) fun e=>hfr1.1 (by injection e));have hTr:T≤wr.heap.size:=by have:=hM1.lt;have:=hM1.tb;omega
  have hb4:Below T w (wr.drew.setCell ⟨sb,5,none⟩ (.int .i64 s6)):=hb.grown hg4 (by omega) fun g hg=>by injection hg with hg;have:=hM1.tb;omega
  have hkp4:=hkp.grown hg4 (.inl rfl);have hsbm:sb<wr.heap.size:=hM1.lt;have hltm:mb<wr.heap.size:=hzk.lt (by simp[msgL]);obtain⟨w4,hw4⟩:∃ W,wr.drew.setCell ⟨sb,5,none⟩ (.int .i64 s6)=W:=⟨_,rfl⟩;rw[hw4]at hg4 hM4 hzk4 hb4 hkp4;clear hgs;obtain⟨hkH,hbH,hM1H,hkpH,hfr1H,hmsgH,hzkH,hmuH,hmu2H,hpt1H,htakeH,hg4H,hbrdH,hM4H,hzk4H,hb4H,hkp4H,hlfH⟩:=hq2 hk (hqc hb hM1 hkp hfr1 hmsg hzk hmu hmu2 (hqc hpt1 htake hg4 hbrd hM4 hzk4 hb4 hkp4 (Lib.hid hlf)));clear hk hb hM1 hkp hfr1 hmsg hzk hmu hmu2 hpt1 htake hg4 hbrd hM4 hzk4 hb4 hkp4 hlf;go_wp2_with fail;refine startR (R:=Rk (fun V=>V.cell? ⟨sb,5,none⟩=some (.int .i64 s5')∧V.cell? ⟨mb,4,none⟩=some (.slice Ax nx cx)) (fun _=>True) 10 99) (by kernel_rfl) ?_;have hF:wr.drew.cell? ⟨sb,5,none⟩=some (.int .i64 s5')∧wr.drew.cell? ⟨mb,4,none⟩=some (.slice Ax nx cx):=⟨r5,z4⟩;have hC:True:=trivial;refine takeC (i:=0) (d:=some 21) (v:=?_) rfl rfl (by kernel_rfl) (by kernel_rfl) (by kernel_rfl) (by kernel_rfl) (fun _ _ _ h=>h) (Or.inl ⟨by rfl,?_⟩) hC ?_
  rotate_left
  ·(intro w hSw;(try dsimp only at hSw);go_simp;(try with_reducible rfl))
  (try simp only[Act.put,List.setIfInBounds_toArray,List.set_cons_zero,List.set_cons_succ])
  refine takeC (i:=1) (d:=some 22) (v:=?_) rfl rfl (by kernel_rfl) (by kernel_rfl) (by kernel_rfl) (by kernel_rfl) (fun _ _ _ h=>h) (Or.inl ⟨by rfl,?_⟩) hC ?_
  rotate_left
  ·(intro w hSw;(try dsimp only at hSw);go_simp;(try with_reducible rfl))
  (try simp only[Act.put,List.setIfInBounds_toArray,List.set_cons_zero,List.set_cons_succ])
  refine takeC (i:=2) (d:=some 23) (v:=?_) rfl rfl (by kernel_rfl) (by kernel_rfl) (by kernel_rfl) (by kernel_rfl) (fun _ _ _ h=>h) (Or.inl ⟨by rfl,?_⟩) hC ?_
  rotate_left
  ·(intro w hSw;(try dsimp only at hSw);go_simp;(try with_reducible rfl))
  (try simp only[Act.put,List.setIfInBounds_toArray,List.set_cons_zero,List.set_cons_succ])
  refine tfS [(3,24)] ?_;(iterate 1 (refine tfL (v:=?_) (hy:=Or.inl ⟨by rfl,?_⟩) (hS:=hF) (h:=?_);rotate_left;(· (intro w hSw;(try dsimp only at hSw);go_simp;(try with_reducible rfl)));(try simp only[Act.put,List.setIfInBounds_toArray,List.set_cons_zero,List.set_cons_succ])));refine tfE ?_;refine takeC (i:=4) (d:=some 25) (v:=?_) rfl rfl (by kernel_rfl) (by kernel_rfl) (by kernel_rfl) (by kernel_rfl) (fun _ _ _ h=>h) (Or.inl ⟨by rfl,?_⟩) hC ?_
  rotate_left
  ·(intro w hSw;(try dsimp only at hSw);go_simp;(try with_reducible rfl))
  (try simp only[Act.put,List.setIfInBounds_toArray,List.set_cons_zero,List.set_cons_succ])
  refine tfS [(5,26)] ?_;(iterate 1 (refine tfL (v:=?_) (hy:=Or.inl ⟨by rfl,?_⟩) (hS:=hF) (h:=?_);rotate_left;(· (intro w hSw;(try dsimp only at hSw);go_simp;(try with_reducible rfl)));(try simp only[Act.put,List.setIfInBounds_toArray,List.set_cons_zero,List.set_cons_succ])));refine tfE ?_;refine takeC (i:=6) (d:=some 27) (v:=?_) rfl rfl (by kernel_rfl) (by kernel_rfl) (by kernel_rfl) (by kernel_rfl) (fun _ _ _ h=>h) (Or.inl ⟨by rfl,?_⟩) hC ?_
  rotate_left
  ·(intro w hSw;(try dsimp only at hSw);go_simp;(try with_reducible rfl))
  (try simp only[Act.put,List.setIfInBounds_toArray,List.set_cons_zero,List.set_cons_succ])
  refine takeC (i:=7) (d:=some 28) (v:=?_) rfl rfl (by kernel_rfl) (by kernel_rfl) (by kernel_rfl) (by kernel_rfl) (fun _ _ _ h=>h) (Or.inl ⟨by rfl,?_⟩) hC ?_
  rotate_left
  ·(intro w hSw;(try dsimp only at hSw);go_simp;(try with_reducible rfl))
  (try simp only[Act.put,List.setIfInBounds_toArray,List.set_cons_zero,List.set_cons_succ])
  refine takeC (i:=8) (d:=some 29) (v:=?_) rfl rfl (by kernel_rfl) (by kernel_rfl) (by kernel_rfl) (by kernel_rfl) (fun _ _ _ h=>h) (Or.inl ⟨by rfl,?_⟩) hC ?_
  rotate_left
  ·(intro w hSw;(try dsimp only at hSw);go_simp;(try with_reducible rfl))
  (try simp only[Act.put,List.setIfInBounds_toArray,List.set_cons_zero,List.set_cons_succ])
  refine takeC (i:=9) (d:=some 30) (v:=?_) rfl rfl (by kernel_rfl) (by kernel_rfl) (by kernel_rfl) (by kernel_rfl) (fun _ _ _ h=>h) (Or.inl ⟨by rfl,?_⟩) hC ?_
  rotate_left
  ·(intro w hSw;(try dsimp only at hSw);go_simp;(try with_reducible rfl))
  (try simp only[Act.put,List.setIfInBounds_toArray,List.set_cons_zero,List.set_cons_succ])
  refine oneR (i:=10) (by kernel_rfl) rfl (fun K hK=>?_);go_simp
  try rw[hw4]
  refine hK.out _ _ ⟨fun _ h=>absurd rfl h,fun _ _=>trivial⟩ ?_;clear hK K
  (try simp only[Act.put,List.setIfInBounds_toArray,List.set_cons_zero,List.set_cons_succ])
  refine doneR (by kernel_rfl) ?_ _;clear hC hF z4 y4 r5 f5 hw4 hs6
  by_cases hl0:lf=0
  ·subst hl0;have R:=hZ'H.out (.returned (.tuple #[.bool false,.int .i64 0])) w4 ⟨false,rfl,⟨hb4H.out,s6,vD',vP',vB',D,P',bs',hM4H.out,hkp4H.out,.inl ⟨rfl,rfl,hpt1H.out⟩⟩,fun h=>by have:=hlfH.out;omega⟩;have RH:=Lib.hid R;clear R;go_wp2_with fail;exact RH.out
  ·have e1:(lf==0)=false:=by simp[hl0]
   have hTk:=htakeH.out w4.drew [.string d,.slice A n c,.int .i64 most,.int .i64 s6] (grown_trans hg4H.out (grown_drew _ _)) (hM4H.out.below ((Below.refl _ _).drew));obtain⟨m0,-⟩:=hzk4H.out 0 _ rfl;obtain⟨m1,-⟩:=hzk4H.out 1 _ rfl;obtain⟨m2,-⟩:=hzk4H.out 2 _ rfl;obtain⟨m3,-⟩:=hzk4H.out 3 _ rfl;obtain⟨m4,-⟩:=hzk4H.out 4 _ rfl;unfold msgV at hTk;have hTkH:=Lib.hid hTk;clear hTk;go_wp2_with fail;refine startR (R:=Rk (fun V=>V.cell? ⟨mb,0,none⟩=some (.int .i64 kk)∧V.cell? ⟨mb,1,none⟩=some (.string d)∧V.cell? ⟨mb,2,none⟩=some (.int .i64 f0)∧V.cell? ⟨mb,3,none⟩=some (.int .i64 sz)∧V.cell? ⟨mb,4,none⟩=some (.slice Ax nx cx)) (fun _=>True) 4 99) (by kernel_rfl) ?_;have hF:w4.drew.cell? ⟨mb,0,none⟩=some (.int .i64 kk)∧w4.drew.cell? ⟨mb,1,none⟩=some (.string d)∧w4.drew.cell? ⟨mb,2,none⟩=some (.int .i64 f0)∧w4.drew.cell? ⟨mb,3,none⟩=some (.int .i64 sz)∧w4.drew.cell? ⟨mb,4,none⟩=some (.slice Ax nx cx):=⟨m0,m1,m2,m3,m4⟩;have hC:True:=trivial;refine takeC (i:=0) (d:=some 34) (v:=?_) rfl rfl (by kernel_rfl) (by kernel_rfl) (by kernel_rfl) (by kernel_rfl) (fun _ _ _ h=>h) (Or.inl ⟨by rfl,?_⟩) hC ?_
   rotate_left
   ·(intro w hSw;(try dsimp only at hSw);go_simp;(try with_reducible rfl))
   (try simp only[Act.put,List.setIfInBounds_toArray,List.set_cons_zero,List.set_cons_succ])
   refine takeC (i:=1) (d:=some 35) (v:=?_) rfl rfl (by kernel_rfl) (by kernel_rfl) (by kernel_rfl) (by kernel_rfl) (fun _ _ _ h=>h) (Or.inl ⟨by rfl,?_⟩) hC ?_
   rotate_left
   ·(intro w hSw;(try dsimp only at hSw);go_simp;(try with_reducible rfl))
   (try simp only[Act.put,List.setIfInBounds_toArray,List.set_cons_zero,List.set_cons_succ])
   refine takeC (i:=2) (d:=some 36) (v:=?_) rfl rfl (by kernel_rfl) (by kernel_rfl) (by kernel_rfl) (by kernel_rfl) (fun _ _ _ h=>h) (Or.inl ⟨by rfl,?_⟩) hC ?_
   rotate_left
   ·(intro w hSw;(try dsimp only at hSw);go_simp;(try with_reducible rfl))
   (try simp only[Act.put,List.setIfInBounds_toArray,List.set_cons_zero,List.set_cons_succ])
   refine tfS [(3,37)] ?_;(iterate 1 (refine tfL (v:=?_) (hy:=Or.inl ⟨by rfl,?_⟩) (hS:=hF) (h:=?_);rotate_left;(· (intro w hSw;(try dsimp only at hSw);go_simp;(try with_reducible rfl)));(try simp only[Act.put,List.setIfInBounds_toArray,List.set_cons_zero,List.set_cons_succ])));refine tfE ?_;have hbd4:Below w4.heap.size w4 w4.drew:=(Below.refl _ _).drew;obtain⟨W5,hW5⟩:∃ W,w4.drew.alloc (.cells #[.int .i64 0,.string ⟨#[]⟩,.int .i64 0,.int .i64 0,.slice none 0 0] 131)=W:=⟨_,rfl⟩;have hb45:Below w4.drew.heap.size w4.drew W5:=by rw[← hW5];exact(Below.refl _ _).alloc (Nat.le_refl _) _
   have hzk5:=blk_below (show Blk w4.drew mb (msgL kk d f0 sz (.slice Ax nx cx)) from hzk4H.out) (by simp[msgL]) hb45;have hF5:W5.cell? ⟨mb,0,none⟩=some (.int .i64 kk)∧W5.cell? ⟨mb,1,none⟩=some (.string d)∧W5.cell? ⟨mb,2,none⟩=some (.int .i64 f0)∧W5.cell? ⟨mb,3,none⟩=some (.int .i64 sz)∧W5.cell? ⟨mb,4,none⟩=some (.slice Ax nx cx):=⟨(hzk5 0 _ rfl).1,(hzk5 1 _ rfl).1,(hzk5 2 _ rfl).1,(hzk5 3 _ rfl).1,(hzk5 4 _ rfl).1⟩;have hTk5:=htakeH.out W5 [.string d,.slice A n c,.int .i64 most,.int .i64 s6] (grown_trans (grown_trans hg4H.out (grown_drew _ _)) (below_grown hb45 _)) ((hM4H.out.below hbd4).below hb45);unfold msgV at hTk5;obtain⟨hbd4H,hb45H,hzk5H,hTk5H⟩:=hq2 hbd4 (hq2 hb45 (hq2 hzk5 (Lib.hid hTk5)));clear hbd4 hb45 hzk5 hTk5;refine twoR (i:=4) (j:=8) (by kernel_rfl) rfl rfl (fun K hK=>?_) (fun K hK=>?_)
   ·go_simp;go_at_call 64;refine hTkH.out.mono ?_;rintro e w6 ⟨kr,fr,rfl,hR⟩;obtain⟨ab,hab⟩:∃ x,w6.heap.size=x:=⟨_,rfl⟩;obtain⟨vD2,vP2,vB2,D2,P2,bs2,hA⟩:=AfT.behind (hkp4H.out.below hbd4H.out) (hb4H.out.trans (hbd4H.out.mono (by have:=hkp4H.out.1;omega))) hTw (show Blk w4.drew mb (msgL kk d f0 sz (.slice Ax nx cx)) from hzk4H.out) (by simp[msgL]) hfr1H.out hR hab;obtain⟨W7,hW7⟩:∃ W,w6.alloc (.cells #[.int .i64 0,.string ⟨#[]⟩,.int .i64 0,.int .i64 0,.slice none 0 0] 131)=W:=⟨_,rfl⟩;rw[hW7]at hA;have hzz:=hA.zm;have hF7:W7.cell? ⟨mb,0,none⟩=some (.int .i64 kk)∧W7.cell? ⟨mb,1,none⟩=some (.string d)∧W7.cell? ⟨mb,2,none⟩=some (.int .i64 f0)∧W7.cell? ⟨mb,3,none⟩=some (.int .i64 sz)∧W7.cell? ⟨mb,4,none⟩=some (.slice Ax nx cx):=⟨(hzz 0 _ rfl).1,(hzz 1 _ rfl).1,(hzz 2 _ rfl).1,(hzz 3 _ rfl).1,(hzz 4 _ rfl).1⟩;clear hzz hR;have hAH:=Lib.hid hA;clear hA;refine hK.out _ _ ⟨fun _ h=>absurd rfl h,fun _ _=>trivial⟩ ?_;clear hK K
    (try simp only[Act.put,List.setIfInBounds_toArray,List.set_cons_zero,List.set_cons_succ])
    refine takeC (i:=5) (d:=some 33) (v:=?_) rfl rfl (by kernel_rfl) (by kernel_rfl) (by kernel_rfl) (by kernel_rfl) (fun _ _ _ h=>h) (Or.inl ⟨by rfl,?_⟩) hC ?_
    rotate_left
    ·(intro w hSw;(try dsimp only at hSw);go_simp;(try with_reducible rfl))
    (try simp only[Act.put,List.setIfInBounds_toArray,List.set_cons_zero,List.set_cons_succ])
    refine takeC (i:=6) (d:=some 39) (v:=?_) rfl rfl (by kernel_rfl) (by kernel_rfl) (by kernel_rfl) (by kernel_rfl) (fun _ _ _ h=>h) (Or.inl ⟨by rfl,?_⟩) hC ?_
    rotate_left
    ·(intro w hSw;(try dsimp only at hSw);go_simp;(try with_reducible rfl))
    (try simp only[Act.put,List.setIfInBounds_toArray,List.set_cons_zero,List.set_cons_succ])
    refine takeC (i:=7) (d:=some 40) (v:=?_) rfl rfl (by kernel_rfl) (by kernel_rfl) (by kernel_rfl) (by kernel_rfl) (fun _ _ _ h=>h) (Or.inl ⟨by rfl,?_⟩) hC ?_
    rotate_left
    ·(intro w hSw;(try dsimp only at hSw);go_simp;(try with_reducible rfl))
    (try simp only[Act.put,List.setIfInBounds_toArray,List.set_cons_zero,List.set_cons_succ])
    refine oneR (i:=8) (by kernel_rfl) rfl (fun K hK=>?_);go_simp
    try rw[hW7]
    refine hK.out _ _ ⟨fun _ _ _=>hF7,fun _ _=>trivial⟩ ?_;clear hK K
    (try simp only[Act.put,List.setIfInBounds_toArray,List.set_cons_zero,List.set_cons_succ])
    clear hF5 hW5;have hA:=hAH.out;clear hAH
    try rw[hab]
    clear hab;obtain⟨hM7,hkp7,hb7,hza7,hfa,hfr6,hzk7,hwab,hmab,hO⟩:=hA;have hga:=msg_grown W7 ab (.int .i64 kr) (.string d) (.int .i64 fr) (.int .i64 0) (.slice none 0 0);have hza8:=msg_set hza7 (.int .i64 kr) (.string d) (.int .i64 fr) (.int .i64 0) (.slice none 0 0);obtain⟨W8,hW8⟩:∃ W,(((((W7.setCell ⟨ab,0,none⟩ (.int .i64 kr)).setCell ⟨ab,1,none⟩ (.string d)).setCell ⟨ab,2,none⟩ (.int .i64 fr)).setCell ⟨ab,3,none⟩ (.int .i64 0)).setCell ⟨ab,4,none⟩ (.slice none 0 0))=W:=⟨_,rfl⟩;rw[hW8]at hga hza8;have hM8:=hM7.grown hga hfa.1 hfa.2.1 hfa.2.2.1 hfa.2.2.2.1 hfa.2.2.2.2;have hkp8:=hkp7.grown hga (.inr hwab);have hb8:Below T w W8:=hb7.grown hga (by have:=hkp7.1;omega) fun g hg=>by injection hg with hg;omega
    have hzk8:Blk W8 mb (msgL kk d f0 sz (.slice Ax nx cx)):=hzk7.keep (hga.block mb (hzk7.lt (by simp[msgL])) fun e=>by injection e with e;omega);have hF8:W8.cell? ⟨mb,0,none⟩=some (.int .i64 kk)∧W8.cell? ⟨mb,1,none⟩=some (.string d)∧W8.cell? ⟨mb,2,none⟩=some (.int .i64 f0)∧W8.cell? ⟨mb,3,none⟩=some (.int .i64 sz)∧W8.cell? ⟨mb,4,none⟩=some (.slice Ax nx cx):=⟨(hzk8 0 _ rfl).1,(hzk8 1 _ rfl).1,(hzk8 2 _ rfl).1,(hzk8 3 _ rfl).1,(hzk8 4 _ rfl).1⟩;clear hM7 hkp7 hb7 hfa hga;obtain⟨hfr6H,hza7H,hza8H,hM8H,hkp8H,hb8H,hzk8H,hOH⟩:=hq2 hfr6 (hq2 hza7 (hq2 hza8 (hqb hM8 hkp8 hb8 hzk8 (Lib.hid hO))));clear hfr6 hza7 hza8 hM8 hkp8 hb8 hzk8 hO;refine oneR (i:=9) (by kernel_rfl) rfl (fun K hK=>?_);refine step_msg hza7H.out rfl (.tmp 7) (.tmp 39) rfl rfl (.int .i64 kr) (.string d) (.int .i64 fr) (.int .i64 0) (.slice none 0 0) rfl rfl rfl rfl rfl rfl ?_;rw[hW8];refine hK.out _ _ ⟨fun _ _ _=>hF8,fun _ _=>trivial⟩ ?_;clear hK K
    (try simp only[Act.put,List.setIfInBounds_toArray,List.set_cons_zero,List.set_cons_succ])
    refine takeC (i:=10) (d:=some 8) (v:=?_) rfl rfl (by kernel_rfl) (by kernel_rfl) (by kernel_rfl) (by kernel_rfl) (fun _ _ _ h=>h) (Or.inl ⟨by rfl,?_⟩) hC ?_
    rotate_left
    ·(intro w hSw;(try dsimp only at hSw);go_simp;(try with_reducible rfl))
    (try simp only[Act.put,List.setIfInBounds_toArray,List.set_cons_zero,List.set_cons_succ])
    refine doneR (by kernel_rfl) ?_ _;clear hC hF hF7 hF8 hW8;obtain⟨a0,-⟩:=hza8H.out 0 _ rfl;obtain⟨a2,-⟩:=hza8H.out 2 _ rfl;obtain⟨r2,-⟩:=hM8H.out.blk 2 _ rfl;obtain⟨r3,-⟩:=hM8H.out.blk 3 _ rfl;obtain⟨r4,-⟩:=hM8H.out.blk 4 _ rfl
    rcases hOH.out with ⟨rfl,rfl,rfl,rfl,x,hx1,hx2,hput,hsrt⟩ | ⟨rfl,rfl,hlo,hfn,AB,cB,rfl,rfl,hbs2⟩
    ·have R:=hZ'H.out (.returned (.tuple #[.bool true,.int .i64 0])) W8 ⟨true,rfl,⟨hb8H.out,s6,vD2,vP2,_,D2,_,_,hM8H.out,hkp8H.out,.inr ⟨rfl,rfl,rfl,rfl,x,hx1,hx2,hput,hsrt⟩⟩,fun _=>rfl⟩;clear hput hsrt r2 r3 r4 a2;have RH:=Lib.hid R;clear R;go_wp2_with fail;exact RH.out
    ·have hxx:(RSl RU8).ok W8.drew ⟨A,n,c,b⟩:=(RSl RU8).mono _ _ _ ((Below.refl _ _).drew) (sl_belowT hxH.out hxTH.out hb8H.out);have hdf:=dataFrom_any d A n c b fr most hfn hn1 hm hm2 W8.drew hxx;have hmu3:=hmu2H.out fr hlo hfn;clear hlo;obtain⟨hdfH,hbs2H,hxxH⟩:=hq2 hdf (hq2 hbs2 (Lib.hid hxx));clear hdf hbs2 hxx;go_wp2_with fail;refine startR (R:=Rk (fun _=>True) (fun V=>V.cell? ⟨sb,2,none⟩=some (.string d)∧V.cell? ⟨sb,3,none⟩=some (.slice A n c)∧V.cell? ⟨ab,2,none⟩=some (.int .i64 fr)∧V.cell? ⟨sb,4,none⟩=some (.int .i64 most)) 99 99) (by kernel_rfl) ?_;have hC:W8.drew.cell? ⟨sb,2,none⟩=some (.string d)∧W8.drew.cell? ⟨sb,3,none⟩=some (.slice A n c)∧W8.drew.cell? ⟨ab,2,none⟩=some (.int .i64 fr)∧W8.drew.cell? ⟨sb,4,none⟩=some (.int .i64 most):=⟨r2,r3,a2,r4⟩;refine takeC (i:=0) (d:=some 49) (v:=?_) rfl rfl (by kernel_rfl) (by kernel_rfl) (by kernel_rfl) (by kernel_rfl) (fun _ _ _ h=>h) (Or.inl ⟨by rfl,?_⟩) hC ?_
     rotate_left
     ·(intro w hSw;(try dsimp only at hSw);go_simp;(try with_reducible rfl))
     (try simp only[Act.put,List.setIfInBounds_toArray,List.set_cons_zero,List.set_cons_succ])
     refine takeC (i:=1) (d:=some 50) (v:=?_) rfl rfl (by kernel_rfl) (by kernel_rfl) (by kernel_rfl) (by kernel_rfl) (fun _ _ _ h=>h) (Or.inl ⟨by rfl,?_⟩) hC ?_
     rotate_left
     ·(intro w hSw;(try dsimp only at hSw);go_simp;(try with_reducible rfl))
     (try simp only[Act.put,List.setIfInBounds_toArray,List.set_cons_zero,List.set_cons_succ])
     refine takeC (i:=2) (d:=some 51) (v:=?_) rfl rfl (by kernel_rfl) (by kernel_rfl) (by kernel_rfl) (by kernel_rfl) (fun _ _ _ h=>h) (Or.inl ⟨by rfl,?_⟩) hC ?_
     rotate_left
     ·(intro w hSw;(try dsimp only at hSw);go_simp;(try with_reducible rfl))
     (try simp only[Act.put,List.setIfInBounds_toArray,List.set_cons_zero,List.set_cons_succ])
     refine takeC (i:=3) (d:=some 52) (v:=?_) rfl rfl (by kernel_rfl) (by kernel_rfl) (by kernel_rfl) (by kernel_rfl) (fun _ _ _ h=>h) (Or.inl ⟨by rfl,?_⟩) hC ?_
     rotate_left
     ·(intro w hSw;(try dsimp only at hSw);go_simp;(try with_reducible rfl))
     (try simp only[Act.put,List.setIfInBounds_toArray,List.set_cons_zero,List.set_cons_succ])
     refine takeC (i:=4) (d:=some 53) (v:=?_) rfl rfl (by kernel_rfl) (by kernel_rfl) (by kernel_rfl) (by kernel_rfl) (fun _ _ _ h=>h) (Or.inl ⟨by rfl,?_⟩) hC ?_
     rotate_left
     ·(intro w hSw;(try dsimp only at hSw);go_simp;(try with_reducible rfl))
     (try simp only[Act.put,List.setIfInBounds_toArray,List.set_cons_zero,List.set_cons_succ])
     refine takeC (i:=5) (d:=some 54) (v:=?_) rfl rfl (by kernel_rfl) (by kernel_rfl) (by kernel_rfl) (by kernel_rfl) (fun _ _ _ h=>h) (Or.inl ⟨by rfl,?_⟩) hC ?_
     rotate_left
     ·(intro w hSw;(try dsimp only at hSw);go_simp;(try with_reducible rfl))
     (try simp only[Act.put,List.setIfInBounds_toArray,List.set_cons_zero,List.set_cons_succ])
     refine takeC (i:=6) (d:=some 55) (v:=?_) rfl rfl (by kernel_rfl) (by kernel_rfl) (by kernel_rfl) (by kernel_rfl) (fun _ _ _ h=>h) (Or.inl ⟨by rfl,?_⟩) hC ?_
     rotate_left
     ·(intro w hSw;(try dsimp only at hSw);go_simp;(try with_reducible rfl))
     (try simp only[Act.put,List.setIfInBounds_toArray,List.set_cons_zero,List.set_cons_succ])
     refine takeC (i:=7) (d:=some 56) (v:=?_) rfl rfl (by kernel_rfl) (by kernel_rfl) (by kernel_rfl) (by kernel_rfl) (fun _ _ _ h=>h) (Or.inl ⟨by rfl,?_⟩) hC ?_
     rotate_left
     ·(intro w hSw;(try dsimp only at hSw);go_simp;(try with_reducible rfl))
     (try simp only[Act.put,List.setIfInBounds_toArray,List.set_cons_zero,List.set_cons_succ])
     refine takeC (i:=8) (d:=some 57) (v:=?_) rfl rfl (by kernel_rfl) (by kernel_rfl) (by kernel_rfl) (by kernel_rfl) (fun _ _ _ h=>h) (Or.inl ⟨by rfl,?_⟩) hC ?_
     rotate_left
     ·(intro w hSw;(try dsimp only at hSw);go_simp;(try with_reducible rfl))
     (try simp only[Act.put,List.setIfInBounds_toArray,List.set_cons_zero,List.set_cons_succ])
     refine takeC (i:=9) (d:=some 58) (v:=?_) rfl rfl (by kernel_rfl) (by kernel_rfl) (by kernel_rfl) (by kernel_rfl) (fun _ _ _ h=>h) (Or.inl ⟨by rfl,?_⟩) hC ?_
     rotate_left
     ·(intro w hSw;(try dsimp only at hSw);go_simp;(try with_reducible rfl))
     (try simp only[Act.put,List.setIfInBounds_toArray,List.set_cons_zero,List.set_cons_succ])
     refine takeC (i:=10) (d:=some 59) (v:=?_) rfl rfl (by kernel_rfl) (by kernel_rfl) (by kernel_rfl) (by kernel_rfl) (fun _ _ _ h=>h) (Or.inl ⟨by rfl,?_⟩) hC ?_
     rotate_left
     ·(intro w hSw;(try dsimp only at hSw);go_simp;(try with_reducible rfl))
     (try simp only[Act.put,List.setIfInBounds_toArray,List.set_cons_zero,List.set_cons_succ])
     refine takeC (i:=11) (d:=some 60) (v:=?_) rfl rfl (by kernel_rfl) (by kernel_rfl) (by kernel_rfl) (by kernel_rfl) (fun _ _ _ h=>h) (Or.inl ⟨by rfl,?_⟩) hC ?_
     rotate_left
     ·(intro w hSw;(try dsimp only at hSw);go_simp;(try with_reducible rfl))
     (try simp only[Act.put,List.setIfInBounds_toArray,List.set_cons_zero,List.set_cons_succ])
     refine takeC (i:=12) (d:=some 61) (v:=?_) rfl rfl (by kernel_rfl) (by kernel_rfl) (by kernel_rfl) (by kernel_rfl) (fun _ _ _ h=>h) (Or.inl ⟨by rfl,?_⟩) hC ?_
     rotate_left
     ·(intro w hSw;(try dsimp only at hSw);go_simp;(try with_reducible rfl))
     (try simp only[Act.put,List.setIfInBounds_toArray,List.set_cons_zero,List.set_cons_succ])
     refine takeC (i:=13) (d:=some 62) (v:=?_) rfl rfl (by kernel_rfl) (by kernel_rfl) (by kernel_rfl) (by kernel_rfl) (fun _ _ _ h=>h) (Or.inl ⟨by rfl,?_⟩) hC ?_
     rotate_left
     ·(intro w hSw;(try dsimp only at hSw);go_simp;(try with_reducible rfl))
     (try simp only[Act.put,List.setIfInBounds_toArray,List.set_cons_zero,List.set_cons_succ])
     refine oneR (i:=14) (by kernel_rfl) rfl (fun K hK=>?_);go_simp;go_at_call 65;refine hdfH.out.mono ?_;rintro e w9 ⟨hb9,Ay,ny,cy,rfl,hoy,hny⟩;have hb89:Below W8.heap.size W8 w9:=((Below.refl _ _).drew).trans hb9;have hC9:w9.cell? ⟨sb,2,none⟩=some (.string d)∧w9.cell? ⟨sb,3,none⟩=some (.slice A n c)∧w9.cell? ⟨ab,2,none⟩=some (.int .i64 fr)∧w9.cell? ⟨sb,4,none⟩=some (.int .i64 most):=⟨keepC hb89 r2,keepC hb89 r3,keepC hb89 a2,keepC hb89 r4⟩;have hzk9:=blk_below hzk8H.out (by simp[msgL]) hb89;have hltm8:mb<W8.heap.size:=hzk8H.out.lt (by simp[msgL]);have hlt8:=hM8H.out.lt;have hgm:=msg_grown w9 mb (.int .i64 2) (.string d) (.int .i64 fr) (.int .i64 0) (.slice Ay ny cy);have hzm:=msg_set hzk9 (.int .i64 2) (.string d) (.int .i64 fr) (.int .i64 0) (.slice Ay ny cy);have hfy:∀ g,(Value.slice Ay ny cy).ownBlock=some g→g≠mb:=fun g hg e=>by have h1:=(hoy.1.lt g hg).1;have h2:W8.heap.size≤g:=h1;omega
     have hney:(Value.slice Ay ny cy).ownBlock=none∨(Value.slice Ay ny cy).ownBlock≠some mb:=by
      cases hv:(Value.slice Ay ny cy).ownBlock with
      | none=>exact .inl rfl
      | some g=>exact .inr fun e=>by injection e with e;exact hfy g hv e
     have hoy2:=(own_lower hoy (base':=sb+1) (by show sb+1≤W8.heap.size;omega)).kept hgm hney (fun _ _ h=>h);obtain⟨W10,hW10⟩:∃ W,(((((w9.setCell ⟨mb,0,none⟩ (.int .i64 2)).setCell ⟨mb,1,none⟩ (.string d)).setCell ⟨mb,2,none⟩ (.int .i64 fr)).setCell ⟨mb,3,none⟩ (.int .i64 0)).setCell ⟨mb,4,none⟩ (.slice Ay ny cy))=W:=⟨_,rfl⟩;rw[hW10]at hgm hzm hoy2;have hM10:=(hM8H.out.below hb89).grown hgm hfr6H.out.1 hfr6H.out.2.1 hfr6H.out.2.2.1 hfr6H.out.2.2.2.1 hfr6H.out.2.2.2.2;have hkp10:=(hkp8H.out.below hb89).grown hgm (.inr (by omega));have hb10:Below T w W10:=(hb8H.out.trans (hb89.mono (by have:=hM8H.out.tb;omega))).grown hgm (by have:=hb89.size;have:=hM8H.out.tb;omega) fun g hg=>by injection hg with hg;omega
     have hle:(b.drop fr).take most=(b.drop fr).take ny:=by
      rcases Nat.lt_or_ge most (n-fr) with h | h
      ·rw[show ny=most by omega]
      ·rw[List.take_of_length_le (by rw[List.length_drop];omega),List.take_of_length_le (by rw[List.length_drop];omega)]
     have hmuE:onM n mb W10=n-fr:=onM_data hzm;have R:OnRel T sb mb (.string d) (.slice A n c) (.int .i64 most) d b n vD vP vB D2 left w (.int .i64 (lf-1)) W10:=⟨k+1,s6,vD2,vP2,_,_,_,by rw[← hlfH.out];congr 1;omega,by have:=hkH.out;omega,hb10,hM10,hkp10,hfr6H.out,.inr ⟨fr,cB,ny,cy,AB,Ay,_,hzm,rfl,rfl,hbs2H.out,hfn,hoy2,hfy,hle,by omega,by omega,by omega⟩⟩;have hC10:W10.cell? ⟨sb,2,none⟩=some (.string d)∧W10.cell? ⟨sb,3,none⟩=some (.slice A n c)∧W10.cell? ⟨ab,2,none⟩=some (.int .i64 fr)∧W10.cell? ⟨sb,4,none⟩=some (.int .i64 most):=⟨(hM10.blk 2 _ rfl).1,(hM10.blk 3 _ rfl).1,grown_keep hgm hC9.2.2.1 (by show ab≠mb;omega),(hM10.blk 4 _ rfl).1⟩;have hwl:IntKind.i64.wrap (lf-1)=lf-1:=by
      have h1:=hkH.out;have h2:=hlfH.out;rw[IntKind.wrap_i64];omega
     have hmes:onM n mb W10<onM n mb wr:=by omega
     clear hzm hM10 hkp10 hb10 hoy hoy2 hgm hney hfy hmuE;obtain⟨hb9H,hb89H,hzk9H,RH,hmesH,hmu3H⟩:=hq2 hb9 (hqb hb89 hzk9 R hmes (Lib.hid hmu3));clear hb9 hb89 hzk9 R hmes hmu3;refine hK.out _ _ ⟨fun _ _ _=>trivial,fun _ _=>hC9⟩ ?_;clear hK K
     (try simp only[Act.put,List.setIfInBounds_toArray,List.set_cons_zero,List.set_cons_succ])
     clear hC;have hC:=hC9;refine oneR (i:=15) (by kernel_rfl) rfl (fun K hK=>?_);refine step_msg hzk9H.out rfl (.tmp 6) (.tmp 63) rfl rfl (.int .i64 2) (.string d) (.int .i64 fr) (.int .i64 0) (.slice Ay ny cy) rfl rfl rfl rfl rfl rfl ?_;rw[hW10];refine hK.out _ _ ⟨fun _ _ _=>trivial,fun _ _=>hC10⟩ ?_;clear hK K
     (try simp only[Act.put,List.setIfInBounds_toArray,List.set_cons_zero,List.set_cons_succ])
     refine doneR (by kernel_rfl) ?_ _;clear hC hC9 hC10 r2 r3 r4 a0 a2 hW10;go_wp2_with fail;exact⟨RH.out,hmesH.out⟩
   ·go_simp
    try rw[hW5]
    refine hK.out _ _ ⟨fun _ _ _=>hF5,fun _ _=>trivial⟩ ?_;clear hK K
    (try simp only[Act.put,List.setIfInBounds_toArray,List.set_cons_zero,List.set_cons_succ])
    refine oneR (i:=4) (by kernel_rfl) rfl (fun K hK=>?_);go_simp;go_at_call 64;refine hTk5H.out.mono ?_;rintro e W7 ⟨kr,fr,rfl,hR⟩;rw[← hW5]at hR;obtain⟨ab,hab⟩:∃ x,w4.heap.size=x:=⟨_,rfl⟩;obtain⟨vD2,vP2,vB2,D2,P2,bs2,hA⟩:=AfT.ahead (hkp4H.out.below hbd4H.out) (hb4H.out.trans (hbd4H.out.mono (by have:=hkp4H.out.1;omega))) hTw (show Blk w4.drew mb (msgL kk d f0 sz (.slice Ax nx cx)) from hzk4H.out) (by simp[msgL]) hfr1H.out (hM4H.out.below hbd4H.out) hR hab;have hF7:True:=trivial;clear hR;have hAH:=Lib.hid hA;clear hA;refine hK.out _ _ ⟨fun _ h=>absurd rfl h,fun _ _=>trivial⟩ ?_;clear hK K
    (try simp only[Act.put,List.setIfInBounds_toArray,List.set_cons_zero,List.set_cons_succ])
    refine takeC (i:=5) (d:=some 33) (v:=?_) rfl rfl (by kernel_rfl) (by kernel_rfl) (by kernel_rfl) (by kernel_rfl) (fun _ _ _ h=>h) (Or.inl ⟨by rfl,?_⟩) hC ?_
    rotate_left
    ·(intro w hSw;(try dsimp only at hSw);go_simp;(try with_reducible rfl))
    (try simp only[Act.put,List.setIfInBounds_toArray,List.set_cons_zero,List.set_cons_succ])
    refine takeC (i:=6) (d:=some 39) (v:=?_) rfl rfl (by kernel_rfl) (by kernel_rfl) (by kernel_rfl) (by kernel_rfl) (fun _ _ _ h=>h) (Or.inl ⟨by rfl,?_⟩) hC ?_
    rotate_left
    ·(intro w hSw;(try dsimp only at hSw);go_simp;(try with_reducible rfl))
    (try simp only[Act.put,List.setIfInBounds_toArray,List.set_cons_zero,List.set_cons_succ])
    refine takeC (i:=7) (d:=some 40) (v:=?_) rfl rfl (by kernel_rfl) (by kernel_rfl) (by kernel_rfl) (by kernel_rfl) (fun _ _ _ h=>h) (Or.inl ⟨by rfl,?_⟩) hC ?_
    rotate_left
    ·(intro w hSw;(try dsimp only at hSw);go_simp;(try with_reducible rfl))
    (try simp only[Act.put,List.setIfInBounds_toArray,List.set_cons_zero,List.set_cons_succ])
    clear hF5 hW5;have hA:=hAH.out;clear hAH
    try rw[hab]
    clear hab;obtain⟨hM7,hkp7,hb7,hza7,hfa,hfr6,hzk7,hwab,hmab,hO⟩:=hA;have hga:=msg_grown W7 ab (.int .i64 kr) (.string d) (.int .i64 fr) (.int .i64 0) (.slice none 0 0);have hza8:=msg_set hza7 (.int .i64 kr) (.string d) (.int .i64 fr) (.int .i64 0) (.slice none 0 0);obtain⟨W8,hW8⟩:∃ W,(((((W7.setCell ⟨ab,0,none⟩ (.int .i64 kr)).setCell ⟨ab,1,none⟩ (.string d)).setCell ⟨ab,2,none⟩ (.int .i64 fr)).setCell ⟨ab,3,none⟩ (.int .i64 0)).setCell ⟨ab,4,none⟩ (.slice none 0 0))=W:=⟨_,rfl⟩;rw[hW8]at hga hza8;have hM8:=hM7.grown hga hfa.1 hfa.2.1 hfa.2.2.1 hfa.2.2.2.1 hfa.2.2.2.2;have hkp8:=hkp7.grown hga (.inr hwab);have hb8:Below T w W8:=hb7.grown hga (by have:=hkp7.1;omega) fun g hg=>by injection hg with hg;omega
    have hzk8:Blk W8 mb (msgL kk d f0 sz (.slice Ax nx cx)):=hzk7.keep (hga.block mb (hzk7.lt (by simp[msgL])) fun e=>by injection e with e;omega);have hF8:W8.cell? ⟨mb,0,none⟩=some (.int .i64 kk)∧W8.cell? ⟨mb,1,none⟩=some (.string d)∧W8.cell? ⟨mb,2,none⟩=some (.int .i64 f0)∧W8.cell? ⟨mb,3,none⟩=some (.int .i64 sz)∧W8.cell? ⟨mb,4,none⟩=some (.slice Ax nx cx):=⟨(hzk8 0 _ rfl).1,(hzk8 1 _ rfl).1,(hzk8 2 _ rfl).1,(hzk8 3 _ rfl).1,(hzk8 4 _ rfl).1⟩;clear hM7 hkp7 hb7 hfa hga;obtain⟨hfr6H,hza7H,hza8H,hM8H,hkp8H,hb8H,hzk8H,hOH⟩:=hq2 hfr6 (hq2 hza7 (hq2 hza8 (hqb hM8 hkp8 hb8 hzk8 (Lib.hid hO))));clear hfr6 hza7 hza8 hM8 hkp8 hb8 hzk8 hO;refine oneR (i:=9) (by kernel_rfl) rfl (fun K hK=>?_);refine step_msg hza7H.out rfl (.tmp 7) (.tmp 39) rfl rfl (.int .i64 kr) (.string d) (.int .i64 fr) (.int .i64 0) (.slice none 0 0) rfl rfl rfl rfl rfl rfl ?_;rw[hW8];refine hK.out _ _ ⟨fun _ _ _=>hF8,fun _ _=>trivial⟩ ?_;clear hK K
    (try simp only[Act.put,List.setIfInBounds_toArray,List.set_cons_zero,List.set_cons_succ])
    refine takeC (i:=10) (d:=some 8) (v:=?_) rfl rfl (by kernel_rfl) (by kernel_rfl) (by kernel_rfl) (by kernel_rfl) (fun _ _ _ h=>h) (Or.inl ⟨by rfl,?_⟩) hC ?_
    rotate_left
    ·(intro w hSw;(try dsimp only at hSw);go_simp;(try with_reducible rfl))
    (try simp only[Act.put,List.setIfInBounds_toArray,List.set_cons_zero,List.set_cons_succ])
    refine doneR (by kernel_rfl) ?_ _;clear hC hF hF7 hF8 hW8;obtain⟨a0,-⟩:=hza8H.out 0 _ rfl;obtain⟨a2,-⟩:=hza8H.out 2 _ rfl;obtain⟨r2,-⟩:=hM8H.out.blk 2 _ rfl;obtain⟨r3,-⟩:=hM8H.out.blk 3 _ rfl;obtain⟨r4,-⟩:=hM8H.out.blk 4 _ rfl
    rcases hOH.out with ⟨rfl,rfl,rfl,rfl,x,hx1,hx2,hput,hsrt⟩ | ⟨rfl,rfl,hlo,hfn,AB,cB,rfl,rfl,hbs2⟩
    ·have R:=hZ'H.out (.returned (.tuple #[.bool true,.int .i64 0])) W8 ⟨true,rfl,⟨hb8H.out,s6,vD2,vP2,_,D2,_,_,hM8H.out,hkp8H.out,.inr ⟨rfl,rfl,rfl,rfl,x,hx1,hx2,hput,hsrt⟩⟩,fun _=>rfl⟩;clear hput hsrt r2 r3 r4 a2;have RH:=Lib.hid R;clear R;go_wp2_with fail;exact RH.out
    ·have hxx:(RSl RU8).ok W8.drew ⟨A,n,c,b⟩:=(RSl RU8).mono _ _ _ ((Below.refl _ _).drew) (sl_belowT hxH.out hxTH.out hb8H.out);have hdf:=dataFrom_any d A n c b fr most hfn hn1 hm hm2 W8.drew hxx;have hmu3:=hmu2H.out fr hlo hfn;clear hlo;obtain⟨hdfH,hbs2H,hxxH⟩:=hq2 hdf (hq2 hbs2 (Lib.hid hxx));clear hdf hbs2 hxx;go_wp2_with fail;refine startR (R:=Rk (fun _=>True) (fun V=>V.cell? ⟨sb,2,none⟩=some (.string d)∧V.cell? ⟨sb,3,none⟩=some (.slice A n c)∧V.cell? ⟨ab,2,none⟩=some (.int .i64 fr)∧V.cell? ⟨sb,4,none⟩=some (.int .i64 most)) 99 99) (by kernel_rfl) ?_;have hC:W8.drew.cell? ⟨sb,2,none⟩=some (.string d)∧W8.drew.cell? ⟨sb,3,none⟩=some (.slice A n c)∧W8.drew.cell? ⟨ab,2,none⟩=some (.int .i64 fr)∧W8.drew.cell? ⟨sb,4,none⟩=some (.int .i64 most):=⟨r2,r3,a2,r4⟩;refine takeC (i:=0) (d:=some 49) (v:=?_) rfl rfl (by kernel_rfl) (by kernel_rfl) (by kernel_rfl) (by kernel_rfl) (fun _ _ _ h=>h) (Or.inl ⟨by rfl,?_⟩) hC ?_
     rotate_left
     ·(intro w hSw;(try dsimp only at hSw);go_simp;(try with_reducible rfl))
     (try simp only[Act.put,List.setIfInBounds_toArray,List.set_cons_zero,List.set_cons_succ])
     refine takeC (i:=1) (d:=some 50) (v:=?_) rfl rfl (by kernel_rfl) (by kernel_rfl) (by kernel_rfl) (by kernel_rfl) (fun _ _ _ h=>h) (Or.inl ⟨by rfl,?_⟩) hC ?_
     rotate_left
     ·(intro w hSw;(try dsimp only at hSw);go_simp;(try with_reducible rfl))
     (try simp only[Act.put,List.setIfInBounds_toArray,List.set_cons_zero,List.set_cons_succ])
     refine takeC (i:=2) (d:=some 51) (v:=?_) rfl rfl (by kernel_rfl) (by kernel_rfl) (by kernel_rfl) (by kernel_rfl) (fun _ _ _ h=>h) (Or.inl ⟨by rfl,?_⟩) hC ?_
     rotate_left
     ·(intro w hSw;(try dsimp only at hSw);go_simp;(try with_reducible rfl))
     (try simp only[Act.put,List.setIfInBounds_toArray,List.set_cons_zero,List.set_cons_succ])
     refine takeC (i:=3) (d:=some 52) (v:=?_) rfl rfl (by kernel_rfl) (by kernel_rfl) (by kernel_rfl) (by kernel_rfl) (fun _ _ _ h=>h) (Or.inl ⟨by rfl,?_⟩) hC ?_
     rotate_left
     ·(intro w hSw;(try dsimp only at hSw);go_simp;(try with_reducible rfl))
     (try simp only[Act.put,List.setIfInBounds_toArray,List.set_cons_zero,List.set_cons_succ])
     refine takeC (i:=4) (d:=some 53) (v:=?_) rfl rfl (by kernel_rfl) (by kernel_rfl) (by kernel_rfl) (by kernel_rfl) (fun _ _ _ h=>h) (Or.inl ⟨by rfl,?_⟩) hC ?_
     rotate_left
     ·(intro w hSw;(try dsimp only at hSw);go_simp;(try with_reducible rfl))
     (try simp only[Act.put,List.setIfInBounds_toArray,List.set_cons_zero,List.set_cons_succ])
     refine takeC (i:=5) (d:=some 54) (v:=?_) rfl rfl (by kernel_rfl) (by kernel_rfl) (by kernel_rfl) (by kernel_rfl) (fun _ _ _ h=>h) (Or.inl ⟨by rfl,?_⟩) hC ?_
     rotate_left
     ·(intro w hSw;(try dsimp only at hSw);go_simp;(try with_reducible rfl))
     (try simp only[Act.put,List.setIfInBounds_toArray,List.set_cons_zero,List.set_cons_succ])
     refine takeC (i:=6) (d:=some 55) (v:=?_) rfl rfl (by kernel_rfl) (by kernel_rfl) (by kernel_rfl) (by kernel_rfl) (fun _ _ _ h=>h) (Or.inl ⟨by rfl,?_⟩) hC ?_
     rotate_left
     ·(intro w hSw;(try dsimp only at hSw);go_simp;(try with_reducible rfl))
     (try simp only[Act.put,List.setIfInBounds_toArray,List.set_cons_zero,List.set_cons_succ])
     refine takeC (i:=7) (d:=some 56) (v:=?_) rfl rfl (by kernel_rfl) (by kernel_rfl) (by kernel_rfl) (by kernel_rfl) (fun _ _ _ h=>h) (Or.inl ⟨by rfl,?_⟩) hC ?_
     rotate_left
     ·(intro w hSw;(try dsimp only at hSw);go_simp;(try with_reducible rfl))
     (try simp only[Act.put,List.setIfInBounds_toArray,List.set_cons_zero,List.set_cons_succ])
     refine takeC (i:=8) (d:=some 57) (v:=?_) rfl rfl (by kernel_rfl) (by kernel_rfl) (by kernel_rfl) (by kernel_rfl) (fun _ _ _ h=>h) (Or.inl ⟨by rfl,?_⟩) hC ?_
     rotate_left
     ·(intro w hSw;(try dsimp only at hSw);go_simp;(try with_reducible rfl))
     (try simp only[Act.put,List.setIfInBounds_toArray,List.set_cons_zero,List.set_cons_succ])
     refine takeC (i:=9) (d:=some 58) (v:=?_) rfl rfl (by kernel_rfl) (by kernel_rfl) (by kernel_rfl) (by kernel_rfl) (fun _ _ _ h=>h) (Or.inl ⟨by rfl,?_⟩) hC ?_
     rotate_left
     ·(intro w hSw;(try dsimp only at hSw);go_simp;(try with_reducible rfl))
     (try simp only[Act.put,List.setIfInBounds_toArray,List.set_cons_zero,List.set_cons_succ])
     refine takeC (i:=10) (d:=some 59) (v:=?_) rfl rfl (by kernel_rfl) (by kernel_rfl) (by kernel_rfl) (by kernel_rfl) (fun _ _ _ h=>h) (Or.inl ⟨by rfl,?_⟩) hC ?_
     rotate_left
     ·(intro w hSw;(try dsimp only at hSw);go_simp;(try with_reducible rfl))
     (try simp only[Act.put,List.setIfInBounds_toArray,List.set_cons_zero,List.set_cons_succ])
     refine takeC (i:=11) (d:=some 60) (v:=?_) rfl rfl (by kernel_rfl) (by kernel_rfl) (by kernel_rfl) (by kernel_rfl) (fun _ _ _ h=>h) (Or.inl ⟨by rfl,?_⟩) hC ?_
     rotate_left
     ·(intro w hSw;(try dsimp only at hSw);go_simp;(try with_reducible rfl))
     (try simp only[Act.put,List.setIfInBounds_toArray,List.set_cons_zero,List.set_cons_succ])
     refine takeC (i:=12) (d:=some 61) (v:=?_) rfl rfl (by kernel_rfl) (by kernel_rfl) (by kernel_rfl) (by kernel_rfl) (fun _ _ _ h=>h) (Or.inl ⟨by rfl,?_⟩) hC ?_
     rotate_left
     ·(intro w hSw;(try dsimp only at hSw);go_simp;(try with_reducible rfl))
     (try simp only[Act.put,List.setIfInBounds_toArray,List.set_cons_zero,List.set_cons_succ])
     refine takeC (i:=13) (d:=some 62) (v:=?_) rfl rfl (by kernel_rfl) (by kernel_rfl) (by kernel_rfl) (by kernel_rfl) (fun _ _ _ h=>h) (Or.inl ⟨by rfl,?_⟩) hC ?_
     rotate_left
     ·(intro w hSw;(try dsimp only at hSw);go_simp;(try with_reducible rfl))
     (try simp only[Act.put,List.setIfInBounds_toArray,List.set_cons_zero,List.set_cons_succ])
     refine oneR (i:=14) (by kernel_rfl) rfl (fun K hK=>?_);go_simp;go_at_call 65;refine hdfH.out.mono ?_;rintro e w9 ⟨hb9,Ay,ny,cy,rfl,hoy,hny⟩;have hb89:Below W8.heap.size W8 w9:=((Below.refl _ _).drew).trans hb9;have hC9:w9.cell? ⟨sb,2,none⟩=some (.string d)∧w9.cell? ⟨sb,3,none⟩=some (.slice A n c)∧w9.cell? ⟨ab,2,none⟩=some (.int .i64 fr)∧w9.cell? ⟨sb,4,none⟩=some (.int .i64 most):=⟨keepC hb89 r2,keepC hb89 r3,keepC hb89 a2,keepC hb89 r4⟩;have hzk9:=blk_below hzk8H.out (by simp[msgL]) hb89;have hltm8:mb<W8.heap.size:=hzk8H.out.lt (by simp[msgL]);have hlt8:=hM8H.out.lt;have hgm:=msg_grown w9 mb (.int .i64 2) (.string d) (.int .i64 fr) (.int .i64 0) (.slice Ay ny cy);have hzm:=msg_set hzk9 (.int .i64 2) (.string d) (.int .i64 fr) (.int .i64 0) (.slice Ay ny cy);have hfy:∀ g,(Value.slice Ay ny cy).ownBlock=some g→g≠mb:=fun g hg e=>by have h1:=(hoy.1.lt g hg).1;have h2:W8.heap.size≤g:=h1;omega
     have hney:(Value.slice Ay ny cy).ownBlock=none∨(Value.slice Ay ny cy).ownBlock≠some mb:=by
      cases hv:(Value.slice Ay ny cy).ownBlock with
      | none=>exact .inl rfl
      | some g=>exact .inr fun e=>by injection e with e;exact hfy g hv e
     have hoy2:=(own_lower hoy (base':=sb+1) (by show sb+1≤W8.heap.size;omega)).kept hgm hney (fun _ _ h=>h);obtain⟨W10,hW10⟩:∃ W,(((((w9.setCell ⟨mb,0,none⟩ (.int .i64 2)).setCell ⟨mb,1,none⟩ (.string d)).setCell ⟨mb,2,none⟩ (.int .i64 fr)).setCell ⟨mb,3,none⟩ (.int .i64 0)).setCell ⟨mb,4,none⟩ (.slice Ay ny cy))=W:=⟨_,rfl⟩;rw[hW10]at hgm hzm hoy2;have hM10:=(hM8H.out.below hb89).grown hgm hfr6H.out.1 hfr6H.out.2.1 hfr6H.out.2.2.1 hfr6H.out.2.2.2.1 hfr6H.out.2.2.2.2;have hkp10:=(hkp8H.out.below hb89).grown hgm (.inr (by omega));have hb10:Below T w W10:=(hb8H.out.trans (hb89.mono (by have:=hM8H.out.tb;omega))).grown hgm (by have:=hb89.size;have:=hM8H.out.tb;omega) fun g hg=>by injection hg with hg;omega
     have hle:(b.drop fr).take most=(b.drop fr).take ny:=by
      rcases Nat.lt_or_ge most (n-fr) with h | h
      ·rw[show ny=most by omega]
      ·rw[List.take_of_length_le (by rw[List.length_drop];omega),List.take_of_length_le (by rw[List.length_drop];omega)]
     have hmuE:onM n mb W10=n-fr:=onM_data hzm;have R:OnRel T sb mb (.string d) (.slice A n c) (.int .i64 most) d b n vD vP vB D2 left w (.int .i64 (lf-1)) W10:=⟨k+1,s6,vD2,vP2,_,_,_,by rw[← hlfH.out];congr 1;omega,by have:=hkH.out;omega,hb10,hM10,hkp10,hfr6H.out,.inr ⟨fr,cB,ny,cy,AB,Ay,_,hzm,rfl,rfl,hbs2H.out,hfn,hoy2,hfy,hle,by omega,by omega,by omega⟩⟩;have hC10:W10.cell? ⟨sb,2,none⟩=some (.string d)∧W10.cell? ⟨sb,3,none⟩=some (.slice A n c)∧W10.cell? ⟨ab,2,none⟩=some (.int .i64 fr)∧W10.cell? ⟨sb,4,none⟩=some (.int .i64 most):=⟨(hM10.blk 2 _ rfl).1,(hM10.blk 3 _ rfl).1,grown_keep hgm hC9.2.2.1 (by show ab≠mb;omega),(hM10.blk 4 _ rfl).1⟩;have hwl:IntKind.i64.wrap (lf-1)=lf-1:=by
      have h1:=hkH.out;have h2:=hlfH.out;rw[IntKind.wrap_i64];omega
     have hmes:onM n mb W10<onM n mb wr:=by omega
     clear hzm hM10 hkp10 hb10 hoy hoy2 hgm hney hfy hmuE;obtain⟨hb9H,hb89H,hzk9H,RH,hmesH,hmu3H⟩:=hq2 hb9 (hqb hb89 hzk9 R hmes (Lib.hid hmu3));clear hb9 hb89 hzk9 R hmes hmu3;refine hK.out _ _ ⟨fun _ _ _=>trivial,fun _ _=>hC9⟩ ?_;clear hK K
     (try simp only[Act.put,List.setIfInBounds_toArray,List.set_cons_zero,List.set_cons_succ])
     clear hC;have hC:=hC9;refine oneR (i:=15) (by kernel_rfl) rfl (fun K hK=>?_);refine step_msg hzk9H.out rfl (.tmp 6) (.tmp 63) rfl rfl (.int .i64 2) (.string d) (.int .i64 fr) (.int .i64 0) (.slice Ay ny cy) rfl rfl rfl rfl rfl rfl ?_;rw[hW10];refine hK.out _ _ ⟨fun _ _ _=>trivial,fun _ _=>hC10⟩ ?_;clear hK K
     (try simp only[Act.put,List.setIfInBounds_toArray,List.set_cons_zero,List.set_cons_succ])
     refine doneR (by kernel_rfl) ?_ _;clear hC hC9 hC10 r2 r3 r4 a0 a2 hW10;go_wp2_with fail;exact⟨RH.out,hmesH.out⟩
def encIw (n:Int):Value:=.int .i64 n
def badB (n:Int):Bool:=!(decide (0≤n)&&decide (n≤20000))
theorem bad_fn (w:World):PredAt Tryz.prog 29 #[] encIw badB w:=fun W r _=>by
 obtain⟨b,hb⟩:∃ b,(decide (0≤r)&&decide (r≤20000))=b:=⟨_,rfl⟩;show Calls Tryz.prog 29 #[.int .i64 r] W (fun e w'=>e = .returned (.bool (badB r))∧∃ q,w'=W.drewN q);unfold badB;rw[hb];have hcall:=within_w r 0 20000 W b hb;clear hb;have hcallH:=Lib.hid hcall;clear hcall;go_enter Tryz.func29,Tryz.ntmps29;go_wp2_with fail;refine hcallH.out.mono ?_;rintro e w1 ⟨rfl,rfl⟩;go_wp2_with fail;go_ret;exact⟨rfl,0,rfl⟩
theorem cell_IntP {w:World} {b off m k:Nat} {l:List Int} {x:Int} (h:SlAt RInt w (some ⟨b,off,none⟩) m l) (hx:l[k]? = some x):w.cell? ⟨b,off+k,none⟩=some (.int .i64 x):=by
 have hk:=(List.getElem?_eq_some_iff.1 hx).1;obtain⟨b',off',hA,hc⟩:=h.2.1 (by have:=h.1;omega);obtain⟨rfl,rfl⟩:b=b'∧off=off':=by simpa using hA
 have:=hc k x hx 0 _ rfl
 simpa[RInt]using this
theorem cont_ints (A:Option Addr) (n c:Nat) (l:List Int) (w:World) (hl:SlAt RInt w A n l) (hn:n≤1000000) :
  Calls Tryz.prog 28 #[.slice A n c,.func (.func 29) #[] #[]] w fun e w'=>e = .returned (.bool (l.any badB))∧Below w.heap.size w w':=by
 have hln:=hl.1
 rcases Nat.eq_zero_or_pos n with h0 | h0
 ·subst h0;obtain rfl:l = []:=List.eq_nil_of_length_eq_zero hln;exact(Tryz.slices_ContainsFunc_empty (α:=Int) A c _ w).mono fun e w' ⟨h1,h2⟩=>⟨h1,h2 ▸ Below.refl _ _⟩
 ·obtain⟨b,off,rfl,_⟩:=hl.2.1 h0;have eg:∀ args w,(callFunc 29 args).run Tryz.prog w = .ok (.enter 29 args) w:=enters_of Tryz.func29 (by kernel_rfl) rfl;have:=Tryz.slices_ContainsFunc encIw badB 29 #[] eg b off n c l w (bad_fn w) (by omega) (by omega) (fun j hj=>by
   have hx:l[j]? = some l[j]:=List.getElem?_eq_getElem hj;rw[cell_IntP hl hx,List.getElem!_eq_getElem?_getD,hx];rfl)
  rw[List.take_of_length_le (by omega)]at this;exact this.mono fun e w' ⟨h1,q,h2⟩=>⟨h1,h2 ▸ bel_drewN (Below.refl _ _) q⟩
end Go.Proofs.YtpdjjjiknijpkaaGreatDoor.C10
namespace Go.Proofs.YtpdjjjiknijpkaaGreatDoor.C10
open Go.ChangeShapes Go.WideShapes Go.Deep Go.RowKit Go.Lib Go.Maps
def WdRel (mb:Nat) (F:ByteArray→Option Byt) (cnt N:Nat) (Y:List TN) (t:Byt) (w:World) (i:Value) (wr:World):Prop :=
 ∃ (k cnt':Nat),k≤Y.length∧i = .int .i64 k∧cnt'≤cnt+1+((Y.take k).flatMap (csN (Cs N))).length∧FoundAt wr mb ((t::(Y.take k).flatMap (csN (Cs N))).foldl putF F) cnt'∧Kp (fun k=>k=mb) w wr∧CK w wr
theorem dir_step (P:PartT) (N:Nat) (hN:N≤199) (ih:∀ M,N=M+1→WdHyp P M):WdHyp P N:=by
 intro wb mb F cnt A m cap l w hw hF hmx hl hm hz hbs hwf hcnt;obtain⟨Z,hZ⟩:∃ Z,WdAns mb F cnt (Cs (N+1) (l.map tfOf)) (TD (N+1) (l.map tfOf)) w=Z:=⟨_,rfl⟩;have hZ':∀ e W,WdAns mb F cnt (Cs (N+1) (l.map tfOf)) (TD (N+1) (l.map tfOf)) w e W→Z e W:=fun e W h=>by rw[← hZ];exact h
 rw[hZ];clear hZ;have hlm:l.length=m:=hl.1.1;have hp1:∀ f∈l.map tfOf,f.path.length≤N+1:=fun f hf=>by
  obtain⟨y,hy,rfl⟩:=List.mem_map.1 hf;have:=hz y hy;have h2:(tfOf y).path.length=y.path.size:=(Lib.size_eq y.path).symm;omega
 have hyok:YOk P N (nodesS (l.map tfOf)):=yok_of hwf hp1 (by omega) (by rw[List.length_map];omega) (fun f hf=>by
  obtain⟨y,hy,rfl⟩:=List.mem_map.1 hf;exact hbs y hy)
 have htd:(nodesS (l.map tfOf)).flatMap (lineX (TD N))=TD (N+1) (l.map tfOf):=rfl;have htl:=TD_len P (N+1) (l.map tfOf) hwf hp1 (by rw[List.length_map];omega) (by omega);have hcs:Cs (N+1) (l.map tfOf)=TD (N+1) (l.map tfOf)::(nodesS (l.map tfOf)).flatMap (csN (Cs N)):=rfl;have hz2:∀ y∈l,y.path.size≤200:=fun y hy=>by have:=hz y hy;omega
 rw[hcs]at hcnt;rw[List.length_cons]at hcnt;obtain⟨Y,hY⟩:∃ Y,nodesS (l.map tfOf)=Y:=⟨_,rfl⟩;obtain⟨T,hT⟩:∃ T,TD (N+1) (l.map tfOf)=T:=⟨_,rfl⟩;rw[hY]at hyok htd hcs hcnt;rw[hT]at htd htl hcs;have hnin:=fun w' h1 h2=>nodes_in P N A m cap l w' h1 h2 hm hz2 hwf;rw[hY]at hnin;obtain⟨hZ'H,hFH,hmxH,hlH,hzH,hbsH,hwfH,hcntH,hp1H,hyokH,htdH,htlH,hcsH,hz2H,hYH,hTH,hninH,ihH⟩:=hq2 hZ' (hqc hF hmx hl hz hbs hwf hcnt hp1 (hqc hyok htd htl hcs hz2 hY hT hnin (Lib.hid ih)));clear hZ' hF hmx hl hz hbs hwf hcnt hp1 hyok htd htl hcs hz2 hY hT hnin ih;go_enter Tryz.func13,Tryz.ntmps13;go_wp2_with fail;refine(hninH.out w hmxH.out hlH.out).mono ?_;rintro e w1 ⟨C,A1,n1,c1,D,rfl,hn1,hin,hb1⟩;have hw1:=keepC hb1 hw;have hF1:=hFH.out.below hb1;have hmx1:=hmxH.out.below hb1;obtain⟨hinH,hb1H,hF1H,hmx1H⟩:=hq2 hin (hq2 hb1 (hq2 hF1 (Lib.hid hmx1)));clear hin hb1 hF1 hmx1;go_wp2_with fail;refine(dirText_any P N hN C A1 n1 c1 D Y w1 hmx1H.out hn1 hinH.out hyokH.out).mono ?_;rintro e w2 ⟨A2,m2,c2,rfl,hok2,hb2⟩;rw[htdH.out]at hok2;have hw2:=keepC hb2 hw1;have hF2:=hF1H.out.below hb2;have hm2:m2≤100000000:=by
  have h1:T.length=m2:=hok2.1.1;have h2:=htlH.out;omega
 obtain⟨hok2H,hb2H,hF2H⟩:=hq2 hok2 (hq2 hb2 (Lib.hid hF2));clear hok2 hb2 hF2;go_wp2_with fail;refine(put_any wb mb F cnt (by have h:=hcntH.out;omega) A2 m2 c2 T w2 hw2 hF2H.out hok2H.out hm2).mono ?_;rintro e w3 ⟨rfl,⟨cnt3,hcnt3,hF3⟩,hkp3,hck3⟩;have hck13:CK w1 w3:=(CK.of_below hb2H.out).trans hck3;have hck03:CK w w3:=(CK.of_below hb1H.out).trans hck13;have hkp03:Kp (fun k=>k=mb) w w3:=((Kp.of_below hb1H.out).trans (Kp.of_below hb2H.out)).trans hkp3;have hst:WdRel mb F cnt N Y T w (.int .i64 0) w3:=⟨0,cnt3,Nat.zero_le _,rfl,by simpa using hcnt3,hF3,hkp03,hck03⟩;have hYn:Y.length=n1:=by rw[← hinH.out.len];exact hinH.out.sl.1
 have hin3:∀ (j:Nat) x y,D[j]? = some x→Y[j]? = some y→NodeM w3 x y:=fun j x y hx hy=>hck13.nodeM (hinH.out.each j x y hx hy);have hsl3:0<n1→∃ b off,A1=some ⟨b,off,none⟩∧∀ i x,D[i]? = some x→∀ j v,((RNV C).vals x)[j]? = some v→w3.cell? ⟨b,off+i*(RNV C).size+j,none⟩=some v:=(hinH.out.sl.2.1 · |>.imp fun b h=>h.imp fun off h=>⟨h.1,fun i x hx j v hv=>hck13 _ _ (h.2 i x hx j v hv)⟩);have hDn:D.length=n1:=hinH.out.sl.1;clear hF3 hkp3 hck3 hcnt3;obtain⟨hstH,hin3H,hsl3H,hck13H,hck03H,hkp03H⟩:=hq2 hst (hqb hin3 hsl3 hck13 hck03 (Lib.hid hkp03));clear hst hin3 hsl3 hck13 hck03 hkp03;go_wp2_with fail
 go_loopw [17] (fun i wr=>WdRel mb F cnt N Y T w i wr∧CK w3 wr) (fun i _=>n1-(intOf i).toNat)
 case atStart=>exact⟨hstH.out,CK.refl _⟩
 case round =>
  clear hstH;obtain⟨⟨k,cnt',hk,rfl,hcnt',hF',hkp,hck⟩,hck3⟩:=hrel
  by_cases hlt:k<n1
  ·obtain⟨x,hx⟩:∃ x,D[k]? = some x:=⟨D[k]'(by omega),List.getElem?_eq_getElem _⟩;obtain⟨y,hyk⟩:∃ y,Y[k]? = some y:=⟨Y[k]'(by omega),List.getElem?_eq_getElem _⟩;have hym:=List.mem_of_getElem? hyk;have hM:=hck3.nodeM (hin3H.out k x y hx hyk);obtain⟨bq,oq,hA,hcs'⟩:=hsl3H.out (by omega);subst hA;have c0:wr.cell? ⟨bq,oq+k*3,none⟩=some (.string x.name):=hck3 _ _ (by simpa[RNV]using hcs' k x hx 0 _ rfl);have c1':wr.cell? ⟨bq,oq+k*3+1,none⟩=some (.pointer x.ptr):=hck3 _ _ (by simpa[RNV]using hcs' k x hx 1 _ rfl);have c2':wr.cell? ⟨bq,oq+k*3+2,none⟩=some (.slice x.A x.n x.cap):=hck3 _ _ (by simpa[RNV]using hcs' k x hx 2 _ rfl);have htk:(Y.take (k+1)).flatMap (csN (Cs N))=(Y.take k).flatMap (csN (Cs N))++csN (Cs N) y:=by rw[List.take_add_one,hyk];simp
   have hle:((Y.take k).flatMap (csN (Cs N))).length+(csN (Cs N) y).length≤(Y.flatMap (csN (Cs N))).length:=by
    have h1:(Y.take (k+1)).flatMap (csN (Cs N))++(Y.drop (k+1)).flatMap (csN (Cs N))=Y.flatMap (csN (Cs N)):=by rw[← List.flatMap_append,List.take_append_drop]
    rw[← h1,htk,List.length_append,List.length_append];omega
   have hk1:k+1≤Y.length:=by omega
   obtain⟨nb,hnb⟩:∃ b,wr.heap.size=b:=⟨_,rfl⟩;obtain⟨W1,hW1⟩:∃ W,wr.alloc (.cells #[.string x.name,.pointer x.ptr,.slice x.A x.n x.cap] 105)=W:=⟨_,rfl⟩;have hbw1a:Below wr.heap.size wr W1:=by rw[← hW1];exact(Below.refl _ _).alloc (Nat.le_refl _) _
   have hzb:Blk W1 wr.heap.size [.string x.name,.pointer x.ptr,.slice x.A x.n x.cap]:=by rw[← hW1];exact blk_new wr _ _
   rw[hnb]at hzb;have hFw:=hF'.below hbw1a;have hckw:=hck.trans (CK.of_below hbw1a);have hck3w:=hck3.trans (CK.of_below hbw1a);have hkpw:=hkp.trans (Kp.of_below hbw1a);have hM1:=hM.below hbw1a;have hww:=hckw _ _ hw;have hmxw:=hckw.max hmxH.out;obtain⟨b0,-⟩:=hzb 0 _ rfl;obtain⟨b1,-⟩:=hzb 1 _ rfl;obtain⟨b2,-⟩:=hzb 2 _ rfl;have hcnt2:=hcntH.out;have hgo:∀ (L:List Byt) cnt2 w9,csN (Cs N) y=L→cnt2≤cnt'+L.length→FoundAt w9 mb (L.foldl putF ((T::(Y.take k).flatMap (csN (Cs N))).foldl putF F)) cnt2→Kp (fun k=>k=mb) W1 w9→CK W1 w9→WdRel mb F cnt N Y T w (.int .i64 ((k:Int)+1)) w9∧CK w3 w9:=by
    intro L cnt2 w9 hL hc2 hF9 hkp9 hck9;refine⟨⟨k+1,cnt2,hk1,by go_num,?_,?_,hkpw.trans hkp9,hckw.trans hck9⟩,hck3w.trans hck9⟩
    ·rw[htk,List.length_append,hL];omega
    ·rw[htk,hL,← List.cons_append,List.foldl_append];exact hF9
   clear hcs' hck hck3 hkp
   cases hyf:y.file with
   | some f =>
    have hcy:csN (Cs N) y = [f.bs]:=by unfold csN;rw[hyf]
    obtain⟨q,o,z,hptr,z0,z1,z2,hzok,hzf⟩:=hM1.file f hyf;obtain⟨zp,zr,⟨zA,zn,zc,zl⟩⟩:=z;obtain⟨xnm,xpt,xA,xn,xc⟩:=x;simp only at hptr z0 z1 z2 c0 c1' c2' b0 b1 b2;subst hptr;have hzl:zl=f.bs:=by rw[← hzf];rfl
    have hzn:zn≤100000000:=by
     have h1:zl.length=zn:=hzok.2.2.1.1;have h2:=hyokH.out.bs y hym f hyf;rw[← hzl]at h2;omega
    have hcb:cnt'≤1000000:=by rw[hcy]at hle;simp only[List.length_singleton]at hle;omega
    obtain⟨hxH,hykH,hMH,hM1H,hzbH,hbw1aH,hzokH,htkH,hleH,hgoH,hFwH,hckwH,hck3wH,hkpwH,hF'H,hcyH,hmxwH⟩:=hqc hx hyk hM hM1 hzb hbw1a hzok htk (hqc hle hgo hFw hckw hck3w hkpw hF' hcy (Lib.hid hmxw));clear hx hyk hM hM1 hzb hbw1a hzok htk hle hgo hFw hckw hck3w hkpw hF' hcy hmxw;go_wp2_with fail;refine(put_any wb mb _ cnt' hcb zA zn zc zl W1 hww hFwH.out hzokH.out.2.2 hzn).mono ?_;rintro e w4 ⟨rfl,⟨cnt4,hcnt4,hF4⟩,hkp4,hck4⟩;have R:=hgoH.out [zl] cnt4 w4 (by rw[hcyH.out,hzl]) hcnt4 hF4 hkp4 hck4;clear hF4 hkp4 hck4;have RH:=Lib.hid R;clear R;go_wp2;refine⟨?rel,?measure⟩
    case measure=>(simp[intOf];omega)
    case rel=>first | exact RH.out | exact⟨rfl,RH.out⟩
   | none =>
    have hcy:csN (Cs N) y=Cs N y.sub:=by unfold csN;rw[hyf]
    obtain⟨hptr,fl,hfl,hfm⟩:=hM1.dir hyf;obtain⟨xnm,xpt,xA,xn,xc⟩:=x;simp only at hptr c0 c1' c2' b0 b1 b2 hfl;subst hptr;have hwfs:=hyokH.out.wf y hym hyf;rw[← hfm]at hwfs;have hpl:=hyokH.out.path y hym hyf;have hflz:∀ u∈fl,u.path.size≤N:=fun u hu=>by
     have:=hpl (tfOf u) (by rw[← hfm];exact List.mem_map.2 ⟨u,hu,rfl⟩);have h2:(tfOf u).path.length=u.path.size:=(Lib.size_eq u.path).symm;omega
    have hflb:∀ u∈fl,u.bytes.l.length≤100000:=fun u hu=>hyokH.out.bsub y hym hyf (tfOf u) (by rw[← hfm];exact List.mem_map.2 ⟨u,hu,rfl⟩);have hfll:fl.length=xn:=hfl.1.1;have hxn1:xn≤1000:=by
     have:=hyokH.out.cnt y hym;rw[← hfm,List.length_map]at this;omega
    obtain⟨M,hNM⟩:∃ M,N=M+1:=by
     obtain⟨u,hu⟩:∃ u,u∈y.sub:=List.exists_mem_of_ne_nil _ (hyokH.out.ne y hym hyf);have h1:=path_pos (hyokH.out.wf y hym hyf) u hu;have h2:=hpl u hu;exact⟨N-1,by omega⟩
    have hihM:=ihH.out M hNM;have hcb:cnt'+(Cs (M+1) (fl.map tfOf)).length≤1000000:=by rw[hfm,← hNM];rw[hcy]at hle;omega
    have hflz2:∀ u∈fl,u.path.size≤M+1:=fun u hu=>by have:=hflz u hu;omega
    have hcy2:csN (Cs N) y=Cs (M+1) (fl.map tfOf):=by rw[hcy,hfm,hNM]
    have hNMH:=Lib.hid hNM;clear hNM hflz hcy;obtain⟨hxH,hykH,hMH,hM1H,hzbH,hbw1aH,htkH,hleH,hgoH,hFwH,hckwH,hck3wH,hkpwH,hF'H,hmxwH,hflH,hfmH,hwfsH,hplH,hflz2H,hflbH,hihMH,hcbH,hcy2H⟩:=hq2 hx (hq2 hyk (hq2 hM (hqb hM1 hzb hbw1a htk (hqc hle hgo hFw hckw hck3w hkpw hF' hmxw (hqc hfl hfm hwfs hpl hflz2 hflb hihM hcb (Lib.hid hcy2))))));clear hx hyk hM hM1 hzb hbw1a htk hle hgo hFw hckw hck3w hkpw hF' hmxw hfl hfm hwfs hpl hflz2 hflb hihM hcb hcy2;go_wp2_with fail;refine(hihMH.out wb mb _ cnt' xA xn xc fl W1 hww hFwH.out hmxwH.out hflH.out hxn1 hflz2H.out hflbH.out hwfsH.out hcbH.out).mono ?_;rintro e w4 ⟨rfl,⟨cnt4,hcnt4,hF4⟩,hkp4,hck4⟩;have R:=hgoH.out _ cnt4 w4 hcy2H.out hcnt4 hF4 hkp4 hck4;clear hF4 hkp4 hck4;have RH:=Lib.hid R;clear R;go_wp2;refine⟨?rel,?measure⟩
    case measure=>(simp[intOf];omega)
    case rel=>first | exact RH.out | exact⟨rfl,RH.out⟩
  ·obtain rfl:k=n1:=by omega
   have htk:Y.take k=Y:=List.take_of_length_le (by omega);have R:=hZ'H.out (.returned (.string (digF T))) wr ⟨by rw[hTH.out],⟨cnt',by rw[hcsH.out,List.length_cons];rw[htk]at hcnt';omega,by rw[hcsH.out];rw[htk]at hF';exact hF'⟩,hkp,hck⟩;clear hF' hkp hck hck3;have RH:=Lib.hid R;clear R;go_wp2_with fail;exact RH.out
theorem dir_any (P:PartT):∀ N,N≤199→WdHyp P N
 | 0,h=>dir_step P 0 h (fun M e=>by omega)
 | N+1,h=>dir_step P (N+1) h (fun M e=>by
  obtain rfl:N=M:=by omega
  exact dir_any P N (by omega))
end Go.Proofs.YtpdjjjiknijpkaaGreatDoor.C10