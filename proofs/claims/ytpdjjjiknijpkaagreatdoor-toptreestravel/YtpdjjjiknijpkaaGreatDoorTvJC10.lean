/-
 Several texts of mine as one, without what is not wanted here: XDtB, XDtC, XWdA, XPuD, XMsD, XCsC.
-/
import Derived.Test.YtpdjjjiknijpkaaGreatDoorTvIC10
import Derived.Test.YtpdjjjiknijpkaaGreatDoorTvGe
set_option linter.unusedVariables false
set_option linter.unusedSimpArgs false
set_option maxRecDepth 100000
set_option maxHeartbeats 8000000
namespace Go.Proofs.YtpdjjjiknijpkaaGreatDoor.C10
open Go.ChangeShapes Go.WideShapes Go.Deep Go.RowKit Go.Lib
def TxAns (t:Byt) (w:World) (e:Ending) (w':World):Prop:=∃ A m c,e = .returned (.slice A m c)∧(RSl RU8).ok w' ⟨A,m,c,t⟩∧Below w.heap.size w w'
def lnF (nm:ByteArray) (zl:Byt) (r:Bool):ByteArray:=(⟨#[102,105,108,101,32]⟩:ByteArray)++nm++⟨#[32]⟩++digF zl++⟨#[32]⟩++(if r=true then ⟨#[120]⟩ else ⟨#[45]⟩)++⟨#[10]⟩
def lnD (nm:ByteArray) (t:Byt):ByteArray:=(⟨#[100,105,114,32]⟩:ByteArray)++nm++⟨#[32]⟩++digF t++⟨#[10]⟩
theorem lnF_data (nm:ByteArray) (zl:Byt) (r:Bool):(lnF nm zl r).data.toList=sFile++nm.data.toList ++ [32]++dgB zl ++ [32] ++ [if r=true then 120 else 45] ++ [10]:=by
 unfold lnF dgB
 cases r <;> simp[ByteArray.data_append,sFile]
theorem lnD_data (nm:ByteArray) (t:Byt):(lnD nm t).data.toList=sDir++nm.data.toList ++ [32]++dgB t ++ [10]:=by
 unfold lnD dgB;simp[ByteArray.data_append,sDir]
theorem lnF_size (nm:ByteArray) (zl:Byt) (r:Bool):(lnF nm zl r).size=nm.size+25:=by
 rw[Lib.size_eq,lnF_data,Lib.size_eq nm];simp only[List.length_append,List.length_singleton,dgB_len];simp[sFile];omega
theorem lnD_size (nm:ByteArray) (t:Byt):(lnD nm t).size=nm.size+22:=by
 rw[Lib.size_eq,lnD_data,Lib.size_eq nm];simp only[List.length_append,List.length_singleton,dgB_len];simp[sDir];omega
def DtRel (rec:List TFi→Byt) (Y:List TN) (w:World) (v i:Value) (wr:World):Prop :=
 ∃ (k:Nat) (A:Option Addr) (n c:Nat),k≤Y.length∧i = .int .i64 k∧v = .slice A n c∧n≤300*k∧Own RU8 5 wr w.heap.size (.slice A n c) ((Y.take k).flatMap (lineX rec))∧Below w.heap.size w wr
def DtHyp (P:PartT) (N:Nat):Prop:=∀ (C:List ByteArray) (A:Option Addr) (n c:Nat) (D:List NV) (Y:List TN) (w:World),MaxLenAt w→n≤1000→DirIn C w A n D Y→YOk P N Y→Calls Tryz.prog 42 #[.slice A n c] w (TxAns (Y.flatMap (lineX (TD N))) w)
theorem dirText_step (P:PartT) (N:Nat) (hN:N≤199) (ih:∀ M,N=M+1→DtHyp P M):DtHyp P N:=by
 intro C A n c D Y w hmx hn hin hy;obtain⟨Z,hZ⟩:∃ Z,TxAns (Y.flatMap (lineX (TD N))) w=Z:=⟨_,rfl⟩;have hZ':∀ e W,TxAns (Y.flatMap (lineX (TD N))) w e W→Z e W:=fun e W h=>by rw[← hZ];exact h
 rw[hZ];clear hZ;have hDn:D.length=n:=hin.sl.1;have hYn:Y.length=n:=by rw[← hin.len];exact hDn
 have hst:DtRel (TD N) Y w (.slice none 0 0) (.int .i64 0) w:=⟨0,none,0,0,Nat.zero_le _,rfl,rfl,Nat.zero_le _,Own.nil _ _,Below.refl _ _⟩;obtain⟨hZ'H,hmxH,hinH,hyH,hstH,ihH⟩:=hq2 hZ' (hqb hmx hin hy hst (Lib.hid ih));clear hZ' hmx hin hy hst ih;go_enter Tryz.func42,Tryz.ntmps42;go_wp2_with fail
 go_loopw [3,9] (fun v i wr=>DtRel (TD N) Y w v i wr) (fun _ i _=>n-(intOf i).toNat)
 case atStart=>exact hstH.out
 case round =>
  clear hstH;obtain⟨k,A2,n2,c2,hk,rfl,rfl,hn2,hown,hb⟩:=hrel
  by_cases hlt:k<n
  ·obtain⟨x,hx⟩:∃ x,D[k]? = some x:=⟨D[k]'(by omega),List.getElem?_eq_getElem _⟩;obtain⟨y,hyk⟩:∃ y,Y[k]? = some y:=⟨Y[k]'(by omega),List.getElem?_eq_getElem _⟩;have hym:=List.mem_of_getElem? hyk;have hM:=(hinH.out.each k x y hx hyk).below hb;have hslr:=hinH.out.sl.below hb;obtain⟨bq,oq,hA,hcs⟩:=hslr.2.1 (by omega);subst hA;have c0:wr.cell? ⟨bq,oq+k*3,none⟩=some (.string x.name):=by simpa[RNV]using hcs k x hx 0 _ rfl
   have c1:wr.cell? ⟨bq,oq+k*3+1,none⟩=some (.pointer x.ptr):=by simpa[RNV]using hcs k x hx 1 _ rfl
   have c2':wr.cell? ⟨bq,oq+k*3+2,none⟩=some (.slice x.A x.n x.cap):=by simpa[RNV]using hcs k x hx 2 _ rfl
   have htk:(Y.take (k+1)).flatMap (lineX (TD N))=(Y.take k).flatMap (lineX (TD N))++lineX (TD N) y:=by rw[List.take_add_one,hyk];simp
   have hnz:x.name.size≤200:=by
    rw[Lib.size_eq,hM.name];exact hyH.out.name y hym
   have hk1:k+1≤Y.length:=by omega
   obtain⟨nb,hnb⟩:∃ b,wr.heap.size=b:=⟨_,rfl⟩;obtain⟨W1,hW1⟩:∃ W,wr.alloc (.cells #[.string x.name,.pointer x.ptr,.slice x.A x.n x.cap] 105)=W:=⟨_,rfl⟩;have hbw1a:Below wr.heap.size wr W1:=by rw[← hW1];exact(Below.refl _ _).alloc (Nat.le_refl _) _
   have hs1:W1.heap.size=wr.heap.size+1:=by rw[← hW1];simp
   have hzb:Blk W1 wr.heap.size [.string x.name,.pointer x.ptr,.slice x.A x.n x.cap]:=by rw[← hW1];exact blk_new wr _ _
   rw[hnb]at hzb;have hown1:=hown.below hbw1a;have hM1:=hM.below hbw1a;have hb1:=hb.trans (hbw1a.mono hb.size);have hlen:=hown.len;have hownlt:∀ g,(Value.slice A2 n2 c2).ownBlock=some g→g<nb:=fun g hg=>by rw[← hnb];exact(hown.1.lt g hg).2
   have hbw1:w.heap.size≤W1.heap.size:=hb1.size;have hwb:w.heap.size≤nb:=by rw[← hnb];exact hb.size
   obtain⟨b0,-⟩:=hzb 0 _ rfl;obtain⟨b1,-⟩:=hzb 1 _ rfl;obtain⟨b2,-⟩:=hzb 2 _ rfl;clear hcs hslr hs1
   cases hyf:y.file with
   | some f =>
    obtain⟨q,o,z,hptr,z0,z1,z2,hzok,hzf⟩:=hM1.file f hyf;have hqlt:q<w.heap.size:=by
     obtain⟨q',o',z',hp',z0',_⟩:=(hinH.out.each k x y hx hyk).file f hyf;rw[hptr]at hp';injection hp' with hp';injection hp' with h1 _ _;subst h1;exact cell?_lt z0'
    obtain⟨zp,zr,⟨zA,zn,zc,zl⟩⟩:=z;obtain⟨xnm,xpt,xA,xn,xc⟩:=x;simp only at hptr z0 z1 z2 c0 c1 c2' b0 b1 b2 hnz;subst hptr;have hzn:zn≤1000000000000:=by
     have h1:zl.length=zn:=hzok.2.2.1.1;have h2:=hyH.out.bs y hym f hyf;rw[← hzf]at h2;have h2:zl.length≤100000:=h2;omega
    have hname:=hM.name;have hline:lineX (TD N) y=(lnF xnm zl zr).data.toList:=by
     unfold lineX;rw[hyf,lnF_data,show xnm.data.toList=y.name from hname,← hzf];rfl
    have hdz:=digF_size zl;have s0:¬ 9223372036854775807<5+xnm.size:=by omega
    have s1:¬ 9223372036854775807<5+xnm.size+1:=by omega
    have s2:¬ 9223372036854775807<5+xnm.size+1+16:=by omega
    have s3:¬ 9223372036854775807<5+xnm.size+1+16+1:=by omega
    have s4:¬ 9223372036854775807<5+xnm.size+1+16+1+1:=by omega
    have s5:¬ 9223372036854775807<5+xnm.size+1+16+1+1+1:=by omega
    have hbd1:Below W1.heap.size W1 W1.drew:=(Below.refl _ _).drew;obtain⟨hownH,hbH,hxH,hykH,hMH,hown1H,hM1H,hb1H,hzbH,hbw1aH,hzokH,hznH,hlineH,hbd1H,htkH,hownltH⟩:=hq2 hown (hq2 hb (hq2 hx (hqb hyk hM hown1 hM1 (hqc hb1 hzb hbw1a hzok hzn hline hbd1 htk (Lib.hid hownlt)))));clear hown hb hx hyk hM hown1 hM1 hb1 hzb hbw1a hzok hzn hline hbd1 htk hownlt
    cases zr
    ·go_wp2_with fail;refine startR (R:=Rk (fun _=>True) (fun V=>V.cell? ⟨nb,0,none⟩=some (.string xnm)∧V.cell? ⟨nb,1,none⟩=some (.pointer (some ⟨q,o,none⟩))∧V.cell? ⟨q,o+2,none⟩=some (.slice zA zn zc)) 99 99) (by kernel_rfl) ?_;have hC:W1.drew.cell? ⟨nb,0,none⟩=some (.string xnm)∧W1.drew.cell? ⟨nb,1,none⟩=some (.pointer (some ⟨q,o,none⟩))∧W1.drew.cell? ⟨q,o+2,none⟩=some (.slice zA zn zc):=⟨b0,b1,z2⟩;refine takeC (i:=0) (d:=some 21) (v:=?_) rfl rfl (by kernel_rfl) (by kernel_rfl) (by kernel_rfl) (by kernel_rfl) (fun _ _ _ h=>h) (Or.inl ⟨by rfl,?_⟩) hC ?_
     rotate_left
     ·(intro w hSw;(try dsimp only at hSw);go_simp;(try with_reducible rfl))
     (try simp only[Act.put,List.setIfInBounds_toArray,List.set_cons_zero,List.set_cons_succ])
     refine takeC (i:=1) (d:=some 22) (v:=?_) rfl rfl (by kernel_rfl) (by kernel_rfl) (by kernel_rfl) (by kernel_rfl) (fun _ _ _ h=>h) (Or.inl ⟨by rfl,?_⟩) hC ?_
     rotate_left
     ·(intro w hSw;(try dsimp only at hSw);go_simp;(try with_reducible rfl))
     (try simp only[Act.put,List.setIfInBounds_toArray,List.set_cons_zero,List.set_cons_succ])
     refine takeC (i:=2) (d:=some 23) (v:=?_) rfl rfl (by kernel_rfl) (by kernel_rfl) (by kernel_rfl) (by kernel_rfl) (fun _ _ _ h=>h) (Or.inl ⟨by rfl,?_⟩) hC ?_
     rotate_left
     ·(intro w hSw;(try dsimp only at hSw);go_simp;(try with_reducible rfl))
     (try simp only[Act.put,List.setIfInBounds_toArray,List.set_cons_zero,List.set_cons_succ])
     refine takeC (i:=3) (d:=some 24) (v:=?_) rfl rfl (by kernel_rfl) (by kernel_rfl) (by kernel_rfl) (by kernel_rfl) (fun _ _ _ h=>h) (Or.inl ⟨by rfl,?_⟩) hC ?_
     rotate_left
     ·(intro w hSw;(try dsimp only at hSw);go_simp;(try with_reducible rfl))
     (try simp only[Act.put,List.setIfInBounds_toArray,List.set_cons_zero,List.set_cons_succ])
     refine takeC (i:=4) (d:=some 25) (v:=?_) rfl rfl (by kernel_rfl) (by kernel_rfl) (by kernel_rfl) (by kernel_rfl) (fun _ _ _ h=>h) (Or.inl ⟨by rfl,?_⟩) hC ?_
     rotate_left
     ·(intro w hSw;(try dsimp only at hSw);go_simp;(try with_reducible rfl))
     (try simp only[Act.put,List.setIfInBounds_toArray,List.set_cons_zero,List.set_cons_succ])
     refine takeC (i:=5) (d:=some 26) (v:=?_) rfl rfl (by kernel_rfl) (by kernel_rfl) (by kernel_rfl) (by kernel_rfl) (fun _ _ _ h=>h) (Or.inl ⟨by rfl,?_⟩) hC ?_
     rotate_left
     ·(intro w hSw;(try dsimp only at hSw);go_simp;(try with_reducible rfl))
     (try simp only[Act.put,List.setIfInBounds_toArray,List.set_cons_zero,List.set_cons_succ])
     refine takeC (i:=6) (d:=some 27) (v:=?_) rfl rfl (by kernel_rfl) (by kernel_rfl) (by kernel_rfl) (by kernel_rfl) (fun _ _ _ h=>h) (Or.inl ⟨by rfl,?_⟩) hC ?_
     rotate_left
     ·(intro w hSw;(try dsimp only at hSw);go_simp;(try with_reducible rfl))
     (try simp only[Act.put,List.setIfInBounds_toArray,List.set_cons_zero,List.set_cons_succ])
     refine takeC (i:=7) (d:=some 28) (v:=?_) rfl rfl (by kernel_rfl) (by kernel_rfl) (by kernel_rfl) (by kernel_rfl) (fun _ _ _ h=>h) (Or.inl ⟨by rfl,?_⟩) hC ?_
     rotate_left
     ·(intro w hSw;(try dsimp only at hSw);go_simp;(try with_reducible rfl))
     (try simp only[Act.put,List.setIfInBounds_toArray,List.set_cons_zero,List.set_cons_succ])
     refine takeC (i:=8) (d:=some 29) (v:=?_) rfl rfl (by kernel_rfl) (by kernel_rfl) (by kernel_rfl) (by kernel_rfl) (fun _ _ _ h=>h) (Or.inl ⟨by rfl,?_⟩) hC ?_
     rotate_left
     ·(intro w hSw;(try dsimp only at hSw);go_simp;(try with_reducible rfl))
     (try simp only[Act.put,List.setIfInBounds_toArray,List.set_cons_zero,List.set_cons_succ])
     refine takeC (i:=9) (d:=some 30) (v:=?_) rfl rfl (by kernel_rfl) (by kernel_rfl) (by kernel_rfl) (by kernel_rfl) (fun _ _ _ h=>h) (Or.inl ⟨by rfl,?_⟩) hC ?_
     rotate_left
     ·(intro w hSw;(try dsimp only at hSw);go_simp;(try with_reducible rfl))
     (try simp only[Act.put,List.setIfInBounds_toArray,List.set_cons_zero,List.set_cons_succ])
     refine takeC (i:=13) (d:=some 34) (v:=?_) rfl rfl (by kernel_rfl) (by kernel_rfl) (by kernel_rfl) (by kernel_rfl) (fun _ _ _ h=>h) (Or.inl ⟨by rfl,?_⟩) hC ?_
     rotate_left
     ·(intro w hSw;(try dsimp only at hSw);go_simp;(try with_reducible rfl))
     (try simp only[Act.put,List.setIfInBounds_toArray,List.set_cons_zero,List.set_cons_succ])
     refine oneR (i:=10) (by kernel_rfl) rfl (fun K hK=>?_);go_simp;go_at_call 18;refine(digest_any zA zn zc zl W1.drew ((hzokH.out.2.2.1).below hbd1H.out) hznH.out).mono ?_;rintro e W2 ⟨rfl,hb2⟩;have hb12:Below W1.heap.size W1 W2:=(Below.refl W1.heap.size W1).drew.trans hb2;have hC2:W2.cell? ⟨nb,0,none⟩=some (.string xnm)∧W2.cell? ⟨nb,1,none⟩=some (.pointer (some ⟨q,o,none⟩))∧W2.cell? ⟨q,o+2,none⟩=some (.slice zA zn zc):=⟨keepC hb12 b0,keepC hb12 b1,keepC hb12 z2⟩;have hown2:=hown1H.out.below hb12;have hb2w:=hb1H.out.trans (hb12.mono hbw1);have hbw2:w.heap.size≤W2.heap.size:=hb2w.size;obtain⟨sz,hsz⟩:∃ z,(lnF xnm zl false).size=z:=⟨_,rfl⟩;have hszb:sz≤300:=by have h:=lnF_size xnm zl false;omega
     obtain⟨hb2H,hown2H,hb12H,hb2wH,hszH⟩:=hqb hb2 hown2 hb12 hb2w (Lib.hid hsz);clear hb2 hown2 hb12 hb2w hsz;refine hK.out _ _ ⟨fun _ _ _=>trivial,fun _ _=>hC2⟩ ?_;clear hK K
     (try simp only[Act.put,List.setIfInBounds_toArray,List.set_cons_zero,List.set_cons_succ])
     clear hC;have hC:=hC2;refine takeC (i:=11) (d:=some 32) (v:=?_) rfl rfl (by kernel_rfl) (by kernel_rfl) (by kernel_rfl) (by kernel_rfl) (fun _ _ _ h=>h) (Or.inl ⟨by rfl,?_⟩) hC ?_
     rotate_left
     ·(intro w hSw;(try dsimp only at hSw);go_simp;(try with_reducible rfl))
     (try simp only[Act.put,List.setIfInBounds_toArray,List.set_cons_zero,List.set_cons_succ])
     refine takeC (i:=12) (d:=some 33) (v:=?_) rfl rfl (by kernel_rfl) (by kernel_rfl) (by kernel_rfl) (by kernel_rfl) (fun _ _ _ h=>h) (Or.inl ⟨by rfl,?_⟩) hC ?_
     rotate_left
     ·(intro w hSw;(try dsimp only at hSw);go_simp;(try with_reducible rfl))
     (try simp only[Act.put,List.setIfInBounds_toArray,List.set_cons_zero,List.set_cons_succ])
     refine takeC (i:=14) (d:=some 35) (v:=?_) rfl rfl (by kernel_rfl) (by kernel_rfl) (by kernel_rfl) (by kernel_rfl) (fun _ _ _ h=>h) (Or.inl ⟨by rfl,?_⟩) hC ?_
     rotate_left
     ·(intro w hSw;(try dsimp only at hSw);go_simp;(try with_reducible rfl))
     (try simp only[Act.put,List.setIfInBounds_toArray,List.set_cons_zero,List.set_cons_succ])
     refine takeC (i:=15) (d:=some 36) (v:=?_) rfl rfl (by kernel_rfl) (by kernel_rfl) (by kernel_rfl) (by kernel_rfl) (fun _ _ _ h=>h) (Or.inl ⟨by rfl,?_⟩) hC ?_
     rotate_left
     ·(intro w hSw;(try dsimp only at hSw);go_simp;(try with_reducible rfl))
     (try simp only[Act.put,List.setIfInBounds_toArray,List.set_cons_zero,List.set_cons_succ])
     refine oneR (i:=16) (by kernel_rfl) rfl (fun K hK=>?_);refine step_app_s (by rfl) (.tmp 21) (.tmp 36) (by rfl) (by rfl) hown2H.out (lnF xnm zl false) (by rfl) ?a1 ?a2 (n2+sz) ?a3 ?_
     case a1=>rw[hlen,hszH.out];omega
     case a2=>exact hbw2
     case a3=>rw[hlen,hszH.out]
     intro A9 c9 w9 hown9 hg9 hd9;have hC9:w9.cell? ⟨nb,0,none⟩=some (.string xnm)∧w9.cell? ⟨nb,1,none⟩=some (.pointer (some ⟨q,o,none⟩))∧w9.cell? ⟨q,o+2,none⟩=some (.slice zA zn zc):=⟨cell_grown hg9 hC2.1 (fun e=>by have h8:nb<nb:=hownltH.out _ e.symm;omega),cell_grown hg9 hC2.2.1 (fun e=>by have h8:nb<nb:=hownltH.out _ e.symm;omega),cell_grown hg9 hC2.2.2 (fun e=>by have h8:w.heap.size≤q:=(hown2H.out.1.lt q e.symm).1;omega)⟩;have hbF:Below w.heap.size w w9:=hb2wH.out.grown hg9 hb2wH.out.size fun g hg=>(hown2H.out.1.lt g hg).1;have R:DtRel (TD N) Y w (.slice A9 (n2+sz) c9) (.int .i64 ((k:Int)+1)) w9:=by
      refine⟨k+1,A9,_,c9,hk1,by go_num,rfl,by omega,?_,hbF⟩;rw[htkH.out,hlineH.out];exact hown9
     clear hown9 hg9 hd9 hbF;have RH:=Lib.hid R;clear R;refine hK.out _ _ ⟨fun _ _ _=>trivial,fun _ _=>hC9⟩ ?_;clear hK K
     (try simp only[Act.put,List.setIfInBounds_toArray,List.set_cons_zero,List.set_cons_succ])
     clear hC;have hC:=hC9;refine oneR (i:=17) (by kernel_rfl) rfl (fun K hK=>?_);go_simp;refine hK.out _ _ ⟨fun _ _ _=>trivial,fun _ h=>h⟩ ?_;clear hK K
     (try simp only[Act.put,List.setIfInBounds_toArray,List.set_cons_zero,List.set_cons_succ])
     refine doneR (by kernel_rfl) ?_ _;clear hC hC9;go_wp2;refine⟨?rel,?measure⟩
     case measure=>(simp[intOf];omega)
     case rel=>first | exact RH.out | exact⟨rfl,RH.out⟩
    ·go_wp2_with fail;refine startR (R:=Rk (fun _=>True) (fun V=>V.cell? ⟨nb,0,none⟩=some (.string xnm)∧V.cell? ⟨nb,1,none⟩=some (.pointer (some ⟨q,o,none⟩))∧V.cell? ⟨q,o+2,none⟩=some (.slice zA zn zc)) 99 99) (by kernel_rfl) ?_;have hC:W1.drew.cell? ⟨nb,0,none⟩=some (.string xnm)∧W1.drew.cell? ⟨nb,1,none⟩=some (.pointer (some ⟨q,o,none⟩))∧W1.drew.cell? ⟨q,o+2,none⟩=some (.slice zA zn zc):=⟨b0,b1,z2⟩;refine takeC (i:=0) (d:=some 21) (v:=?_) rfl rfl (by kernel_rfl) (by kernel_rfl) (by kernel_rfl) (by kernel_rfl) (fun _ _ _ h=>h) (Or.inl ⟨by rfl,?_⟩) hC ?_
     rotate_left
     ·(intro w hSw;(try dsimp only at hSw);go_simp;(try with_reducible rfl))
     (try simp only[Act.put,List.setIfInBounds_toArray,List.set_cons_zero,List.set_cons_succ])
     refine takeC (i:=1) (d:=some 22) (v:=?_) rfl rfl (by kernel_rfl) (by kernel_rfl) (by kernel_rfl) (by kernel_rfl) (fun _ _ _ h=>h) (Or.inl ⟨by rfl,?_⟩) hC ?_
     rotate_left
     ·(intro w hSw;(try dsimp only at hSw);go_simp;(try with_reducible rfl))
     (try simp only[Act.put,List.setIfInBounds_toArray,List.set_cons_zero,List.set_cons_succ])
     refine takeC (i:=2) (d:=some 23) (v:=?_) rfl rfl (by kernel_rfl) (by kernel_rfl) (by kernel_rfl) (by kernel_rfl) (fun _ _ _ h=>h) (Or.inl ⟨by rfl,?_⟩) hC ?_
     rotate_left
     ·(intro w hSw;(try dsimp only at hSw);go_simp;(try with_reducible rfl))
     (try simp only[Act.put,List.setIfInBounds_toArray,List.set_cons_zero,List.set_cons_succ])
     refine takeC (i:=3) (d:=some 24) (v:=?_) rfl rfl (by kernel_rfl) (by kernel_rfl) (by kernel_rfl) (by kernel_rfl) (fun _ _ _ h=>h) (Or.inl ⟨by rfl,?_⟩) hC ?_
     rotate_left
     ·(intro w hSw;(try dsimp only at hSw);go_simp;(try with_reducible rfl))
     (try simp only[Act.put,List.setIfInBounds_toArray,List.set_cons_zero,List.set_cons_succ])
     refine takeC (i:=4) (d:=some 25) (v:=?_) rfl rfl (by kernel_rfl) (by kernel_rfl) (by kernel_rfl) (by kernel_rfl) (fun _ _ _ h=>h) (Or.inl ⟨by rfl,?_⟩) hC ?_
     rotate_left
     ·(intro w hSw;(try dsimp only at hSw);go_simp;(try with_reducible rfl))
     (try simp only[Act.put,List.setIfInBounds_toArray,List.set_cons_zero,List.set_cons_succ])
     refine takeC (i:=5) (d:=some 26) (v:=?_) rfl rfl (by kernel_rfl) (by kernel_rfl) (by kernel_rfl) (by kernel_rfl) (fun _ _ _ h=>h) (Or.inl ⟨by rfl,?_⟩) hC ?_
     rotate_left
     ·(intro w hSw;(try dsimp only at hSw);go_simp;(try with_reducible rfl))
     (try simp only[Act.put,List.setIfInBounds_toArray,List.set_cons_zero,List.set_cons_succ])
     refine takeC (i:=6) (d:=some 27) (v:=?_) rfl rfl (by kernel_rfl) (by kernel_rfl) (by kernel_rfl) (by kernel_rfl) (fun _ _ _ h=>h) (Or.inl ⟨by rfl,?_⟩) hC ?_
     rotate_left
     ·(intro w hSw;(try dsimp only at hSw);go_simp;(try with_reducible rfl))
     (try simp only[Act.put,List.setIfInBounds_toArray,List.set_cons_zero,List.set_cons_succ])
     refine takeC (i:=7) (d:=some 28) (v:=?_) rfl rfl (by kernel_rfl) (by kernel_rfl) (by kernel_rfl) (by kernel_rfl) (fun _ _ _ h=>h) (Or.inl ⟨by rfl,?_⟩) hC ?_
     rotate_left
     ·(intro w hSw;(try dsimp only at hSw);go_simp;(try with_reducible rfl))
     (try simp only[Act.put,List.setIfInBounds_toArray,List.set_cons_zero,List.set_cons_succ])
     refine takeC (i:=8) (d:=some 29) (v:=?_) rfl rfl (by kernel_rfl) (by kernel_rfl) (by kernel_rfl) (by kernel_rfl) (fun _ _ _ h=>h) (Or.inl ⟨by rfl,?_⟩) hC ?_
     rotate_left
     ·(intro w hSw;(try dsimp only at hSw);go_simp;(try with_reducible rfl))
     (try simp only[Act.put,List.setIfInBounds_toArray,List.set_cons_zero,List.set_cons_succ])
     refine takeC (i:=9) (d:=some 30) (v:=?_) rfl rfl (by kernel_rfl) (by kernel_rfl) (by kernel_rfl) (by kernel_rfl) (fun _ _ _ h=>h) (Or.inl ⟨by rfl,?_⟩) hC ?_
     rotate_left
     ·(intro w hSw;(try dsimp only at hSw);go_simp;(try with_reducible rfl))
     (try simp only[Act.put,List.setIfInBounds_toArray,List.set_cons_zero,List.set_cons_succ])
     refine takeC (i:=13) (d:=some 34) (v:=?_) rfl rfl (by kernel_rfl) (by kernel_rfl) (by kernel_rfl) (by kernel_rfl) (fun _ _ _ h=>h) (Or.inl ⟨by rfl,?_⟩) hC ?_
     rotate_left
     ·(intro w hSw;(try dsimp only at hSw);go_simp;(try with_reducible rfl))
     (try simp only[Act.put,List.setIfInBounds_toArray,List.set_cons_zero,List.set_cons_succ])
     refine oneR (i:=10) (by kernel_rfl) rfl (fun K hK=>?_);go_simp;go_at_call 18;refine(digest_any zA zn zc zl W1.drew ((hzokH.out.2.2.1).below hbd1H.out) hznH.out).mono ?_;rintro e W2 ⟨rfl,hb2⟩;have hb12:Below W1.heap.size W1 W2:=(Below.refl W1.heap.size W1).drew.trans hb2;have hC2:W2.cell? ⟨nb,0,none⟩=some (.string xnm)∧W2.cell? ⟨nb,1,none⟩=some (.pointer (some ⟨q,o,none⟩))∧W2.cell? ⟨q,o+2,none⟩=some (.slice zA zn zc):=⟨keepC hb12 b0,keepC hb12 b1,keepC hb12 z2⟩;have hown2:=hown1H.out.below hb12;have hb2w:=hb1H.out.trans (hb12.mono hbw1);have hbw2:w.heap.size≤W2.heap.size:=hb2w.size;obtain⟨sz,hsz⟩:∃ z,(lnF xnm zl true).size=z:=⟨_,rfl⟩;have hszb:sz≤300:=by have h:=lnF_size xnm zl true;omega
     obtain⟨hb2H,hown2H,hb12H,hb2wH,hszH⟩:=hqb hb2 hown2 hb12 hb2w (Lib.hid hsz);clear hb2 hown2 hb12 hb2w hsz;refine hK.out _ _ ⟨fun _ _ _=>trivial,fun _ _=>hC2⟩ ?_;clear hK K
     (try simp only[Act.put,List.setIfInBounds_toArray,List.set_cons_zero,List.set_cons_succ])
     clear hC;have hC:=hC2;refine takeC (i:=11) (d:=some 32) (v:=?_) rfl rfl (by kernel_rfl) (by kernel_rfl) (by kernel_rfl) (by kernel_rfl) (fun _ _ _ h=>h) (Or.inl ⟨by rfl,?_⟩) hC ?_
     rotate_left
     ·(intro w hSw;(try dsimp only at hSw);go_simp;(try with_reducible rfl))
     (try simp only[Act.put,List.setIfInBounds_toArray,List.set_cons_zero,List.set_cons_succ])
     refine takeC (i:=12) (d:=some 33) (v:=?_) rfl rfl (by kernel_rfl) (by kernel_rfl) (by kernel_rfl) (by kernel_rfl) (fun _ _ _ h=>h) (Or.inl ⟨by rfl,?_⟩) hC ?_
     rotate_left
     ·(intro w hSw;(try dsimp only at hSw);go_simp;(try with_reducible rfl))
     (try simp only[Act.put,List.setIfInBounds_toArray,List.set_cons_zero,List.set_cons_succ])
     refine takeC (i:=14) (d:=some 35) (v:=?_) rfl rfl (by kernel_rfl) (by kernel_rfl) (by kernel_rfl) (by kernel_rfl) (fun _ _ _ h=>h) (Or.inl ⟨by rfl,?_⟩) hC ?_
     rotate_left
     ·(intro w hSw;(try dsimp only at hSw);go_simp;(try with_reducible rfl))
     (try simp only[Act.put,List.setIfInBounds_toArray,List.set_cons_zero,List.set_cons_succ])
     refine takeC (i:=15) (d:=some 36) (v:=?_) rfl rfl (by kernel_rfl) (by kernel_rfl) (by kernel_rfl) (by kernel_rfl) (fun _ _ _ h=>h) (Or.inl ⟨by rfl,?_⟩) hC ?_
     rotate_left
     ·(intro w hSw;(try dsimp only at hSw);go_simp;(try with_reducible rfl))
     (try simp only[Act.put,List.setIfInBounds_toArray,List.set_cons_zero,List.set_cons_succ])
     refine oneR (i:=16) (by kernel_rfl) rfl (fun K hK=>?_);refine step_app_s (by rfl) (.tmp 21) (.tmp 36) (by rfl) (by rfl) hown2H.out (lnF xnm zl true) (by rfl) ?a1 ?a2 (n2+sz) ?a3 ?_
     case a1=>rw[hlen,hszH.out];omega
     case a2=>exact hbw2
     case a3=>rw[hlen,hszH.out]
     intro A9 c9 w9 hown9 hg9 hd9;have hC9:w9.cell? ⟨nb,0,none⟩=some (.string xnm)∧w9.cell? ⟨nb,1,none⟩=some (.pointer (some ⟨q,o,none⟩))∧w9.cell? ⟨q,o+2,none⟩=some (.slice zA zn zc):=⟨cell_grown hg9 hC2.1 (fun e=>by have h8:nb<nb:=hownltH.out _ e.symm;omega),cell_grown hg9 hC2.2.1 (fun e=>by have h8:nb<nb:=hownltH.out _ e.symm;omega),cell_grown hg9 hC2.2.2 (fun e=>by have h8:w.heap.size≤q:=(hown2H.out.1.lt q e.symm).1;omega)⟩;have hbF:Below w.heap.size w w9:=hb2wH.out.grown hg9 hb2wH.out.size fun g hg=>(hown2H.out.1.lt g hg).1;have R:DtRel (TD N) Y w (.slice A9 (n2+sz) c9) (.int .i64 ((k:Int)+1)) w9:=by
      refine⟨k+1,A9,_,c9,hk1,by go_num,rfl,by omega,?_,hbF⟩;rw[htkH.out,hlineH.out];exact hown9
     clear hown9 hg9 hd9 hbF;have RH:=Lib.hid R;clear R;refine hK.out _ _ ⟨fun _ _ _=>trivial,fun _ _=>hC9⟩ ?_;clear hK K
     (try simp only[Act.put,List.setIfInBounds_toArray,List.set_cons_zero,List.set_cons_succ])
     clear hC;have hC:=hC9;refine oneR (i:=17) (by kernel_rfl) rfl (fun K hK=>?_);go_simp;refine hK.out _ _ ⟨fun _ _ _=>trivial,fun _ h=>h⟩ ?_;clear hK K
     (try simp only[Act.put,List.setIfInBounds_toArray,List.set_cons_zero,List.set_cons_succ])
     refine doneR (by kernel_rfl) ?_ _;clear hC hC9;go_wp2;refine⟨?rel,?measure⟩
     case measure=>(simp[intOf];omega)
     case rel=>first | exact RH.out | exact⟨rfl,RH.out⟩
   | none =>
    obtain⟨hptr,fl,hfl,hfm⟩:=hM1.dir hyf;obtain⟨xnm,xpt,xA,xn,xc⟩:=x;simp only at hptr c0 c1 c2' b0 b1 b2 hnz hfl;subst hptr;have hwfs:=hyH.out.wf y hym hyf;rw[← hfm]at hwfs;have hpl:=hyH.out.path y hym hyf;have hflz:∀ u∈fl,u.path.size≤200:=fun u hu=>by
     have:=hpl (tfOf u) (by rw[← hfm];exact List.mem_map.2 ⟨u,hu,rfl⟩);have h2:(tfOf u).path.length=u.path.size:=(Lib.size_eq u.path).symm;omega
    have hfll:fl.length=xn:=hfl.1.1;have hxn1:xn≤1000:=by
     have:=hyH.out.cnt y hym;rw[← hfm,List.length_map]at this;omega
    obtain⟨M,hNM⟩:∃ M,N=M+1:=by
     obtain⟨u,hu⟩:∃ u,u∈y.sub:=List.exists_mem_of_ne_nil _ (hyH.out.ne y hym hyf);have h1:=path_pos (hyH.out.wf y hym hyf) u hu;have h2:=hpl u hu;exact⟨N-1,by omega⟩
    have hyok2:YOk P M (nodesS (fl.map tfOf)):=by
     refine yok_of hwfs (fun u hu=>?_) (by omega) (by rw[List.length_map];omega) (fun u hu=>?_)
     ·rw[hfm]at hu;have:=hpl u hu;omega
     ·rw[hfm]at hu;exact hyH.out.bsub y hym hyf u hu
    have hname:=hM.name;have hline:lineX (TD N) y=(lnD xnm (TD N y.sub)).data.toList:=by
     unfold lineX;rw[hyf,lnD_data,show xnm.data.toList=y.name from hname]
    have hdz:=digF_size (TD N y.sub);have s0:¬ 9223372036854775807<4+xnm.size:=by omega
    have s1:¬ 9223372036854775807<4+xnm.size+1:=by omega
    have s2:¬ 9223372036854775807<4+xnm.size+1+16:=by omega
    have s3:¬ 9223372036854775807<4+xnm.size+1+16+1:=by omega
    have hbd1:Below W1.heap.size W1 W1.drew:=(Below.refl _ _).drew;have hmx1:=(hmxH.out.below hb1).below hbd1;have htd:(nodesS (fl.map tfOf)).flatMap (lineX (TD M))=TD N y.sub:=by rw[hNM,hfm];rfl
    have hihM:=ihH.out M hNM;have hNMH:=Lib.hid hNM;clear hNM;obtain⟨hownH,hbH,hxH,hykH,hMH,hown1H,hM1H,hb1H,hzbH,hbw1aH,hflH,hfmH,hwfsH,hplH,hflzH,hyok2H,hlineH,hbd1H,hmx1H,htdH,hihMH,htkH,hownltH⟩:=hq2 hown (hq2 hb (hqb hx hyk hM hown1 (hqc hM1 hb1 hzb hbw1a hfl hfm hwfs hpl (hqc hflz hyok2 hline hbd1 hmx1 htd hihM htk (Lib.hid hownlt)))));clear hown hb hx hyk hM hown1 hM1 hb1 hzb hbw1a hfl hfm hwfs hpl hflz hyok2 hline hbd1 hmx1 htd hihM htk hownlt;go_wp2_with fail;refine startR (R:=Rk (fun _=>True) (fun V=>V.cell? ⟨nb,0,none⟩=some (.string xnm)∧V.cell? ⟨nb,2,none⟩=some (.slice xA xn xc)) 99 99) (by kernel_rfl) ?_;have hC:W1.drew.cell? ⟨nb,0,none⟩=some (.string xnm)∧W1.drew.cell? ⟨nb,2,none⟩=some (.slice xA xn xc):=⟨b0,b2⟩;refine takeC (i:=0) (d:=some 38) (v:=?_) rfl rfl (by kernel_rfl) (by kernel_rfl) (by kernel_rfl) (by kernel_rfl) (fun _ _ _ h=>h) (Or.inl ⟨by rfl,?_⟩) hC ?_
    rotate_left
    ·(intro w hSw;(try dsimp only at hSw);go_simp;(try with_reducible rfl))
    (try simp only[Act.put,List.setIfInBounds_toArray,List.set_cons_zero,List.set_cons_succ])
    refine takeC (i:=1) (d:=some 39) (v:=?_) rfl rfl (by kernel_rfl) (by kernel_rfl) (by kernel_rfl) (by kernel_rfl) (fun _ _ _ h=>h) (Or.inl ⟨by rfl,?_⟩) hC ?_
    rotate_left
    ·(intro w hSw;(try dsimp only at hSw);go_simp;(try with_reducible rfl))
    (try simp only[Act.put,List.setIfInBounds_toArray,List.set_cons_zero,List.set_cons_succ])
    refine takeC (i:=2) (d:=some 40) (v:=?_) rfl rfl (by kernel_rfl) (by kernel_rfl) (by kernel_rfl) (by kernel_rfl) (fun _ _ _ h=>h) (Or.inl ⟨by rfl,?_⟩) hC ?_
    rotate_left
    ·(intro w hSw;(try dsimp only at hSw);go_simp;(try with_reducible rfl))
    (try simp only[Act.put,List.setIfInBounds_toArray,List.set_cons_zero,List.set_cons_succ])
    refine takeC (i:=3) (d:=some 41) (v:=?_) rfl rfl (by kernel_rfl) (by kernel_rfl) (by kernel_rfl) (by kernel_rfl) (fun _ _ _ h=>h) (Or.inl ⟨by rfl,?_⟩) hC ?_
    rotate_left
    ·(intro w hSw;(try dsimp only at hSw);go_simp;(try with_reducible rfl))
    (try simp only[Act.put,List.setIfInBounds_toArray,List.set_cons_zero,List.set_cons_succ])
    refine takeC (i:=4) (d:=some 42) (v:=?_) rfl rfl (by kernel_rfl) (by kernel_rfl) (by kernel_rfl) (by kernel_rfl) (fun _ _ _ h=>h) (Or.inl ⟨by rfl,?_⟩) hC ?_
    rotate_left
    ·(intro w hSw;(try dsimp only at hSw);go_simp;(try with_reducible rfl))
    (try simp only[Act.put,List.setIfInBounds_toArray,List.set_cons_zero,List.set_cons_succ])
    refine takeC (i:=5) (d:=some 43) (v:=?_) rfl rfl (by kernel_rfl) (by kernel_rfl) (by kernel_rfl) (by kernel_rfl) (fun _ _ _ h=>h) (Or.inl ⟨by rfl,?_⟩) hC ?_
    rotate_left
    ·(intro w hSw;(try dsimp only at hSw);go_simp;(try with_reducible rfl))
    (try simp only[Act.put,List.setIfInBounds_toArray,List.set_cons_zero,List.set_cons_succ])
    refine takeC (i:=6) (d:=some 44) (v:=?_) rfl rfl (by kernel_rfl) (by kernel_rfl) (by kernel_rfl) (by kernel_rfl) (fun _ _ _ h=>h) (Or.inl ⟨by rfl,?_⟩) hC ?_
    rotate_left
    ·(intro w hSw;(try dsimp only at hSw);go_simp;(try with_reducible rfl))
    (try simp only[Act.put,List.setIfInBounds_toArray,List.set_cons_zero,List.set_cons_succ])
    refine oneR (i:=7) (by kernel_rfl) rfl (fun K hK=>?_);go_simp;go_at_call 40;refine(nodes_in P M xA xn xc fl W1.drew hmx1H.out ((RSl RFile).mono _ _ _ hbd1H.out hflH.out) hxn1 hflzH.out hwfsH.out).mono ?_;rintro e Wa ⟨Ca,Aa,na,ca,Da,rfl,hna,hina,hba⟩;have hb1a:Below W1.heap.size W1 Wa:=hbd1H.out.trans hba;have hCa:Wa.cell? ⟨nb,0,none⟩=some (.string xnm)∧Wa.cell? ⟨nb,2,none⟩=some (.slice xA xn xc):=⟨keepC hb1a b0,keepC hb1a b2⟩;have hmxa:=hmx1H.out.below hba;obtain⟨hinaH,hbaH,hb1aH,hmxaH⟩:=hq2 hina (hq2 hba (hq2 hb1a (Lib.hid hmxa)));clear hina hba hb1a hmxa;refine hK.out _ _ ⟨fun _ _ _=>trivial,fun _ _=>hCa⟩ ?_;clear hK K
    (try simp only[Act.put,List.setIfInBounds_toArray,List.set_cons_zero,List.set_cons_succ])
    clear hC;have hC:=hCa;refine oneR (i:=8) (by kernel_rfl) rfl (fun K hK=>?_);go_simp;go_at_call 42;refine(hihMH.out Ca Aa na ca Da (nodesS (fl.map tfOf)) Wa hmxaH.out hna hinaH.out hyok2H.out).mono ?_;rintro e Wb ⟨Ab,mb,cb,rfl,hokb,hbb⟩;rw[htdH.out]at hokb;have hb1b:Below W1.heap.size W1 Wb:=hb1aH.out.trans (hbb.mono hb1aH.out.size);have hCb:Wb.cell? ⟨nb,0,none⟩=some (.string xnm)∧Wb.cell? ⟨nb,2,none⟩=some (.slice xA xn xc):=⟨keepC hb1b b0,keepC hb1b b2⟩;have hmbz:mb≤1000000000000:=by
     have h1:(TD N y.sub).length=mb:=hokb.1.1;have h2:=TD_len P N y.sub (by rw[← hfmH.out];exact hwfsH.out) hplH.out (by have:=hyH.out.cnt y hym;omega);omega
    clear hC hCa;have hC:=hCb;obtain⟨hokbH,hbbH,hb1bH⟩:=hq2 hokb (hq2 hbb (Lib.hid hb1b));clear hokb hbb hb1b;refine hK.out _ _ ⟨fun _ _ _=>trivial,fun _ _=>hCb⟩ ?_;clear hK K
    (try simp only[Act.put,List.setIfInBounds_toArray,List.set_cons_zero,List.set_cons_succ])
    refine oneR (i:=9) (by kernel_rfl) rfl (fun K hK=>?_);go_simp;go_at_call 18;refine(digest_any Ab mb cb (TD N y.sub) Wb hokbH.out.1 hmbz).mono ?_;rintro e W2 ⟨rfl,hb2⟩;have hb12:Below W1.heap.size W1 W2:=hb1bH.out.trans (hb2.mono hb1bH.out.size);have hC2:W2.cell? ⟨nb,0,none⟩=some (.string xnm)∧W2.cell? ⟨nb,2,none⟩=some (.slice xA xn xc):=⟨keepC hb12 b0,keepC hb12 b2⟩;have hown2:=hown1H.out.below hb12;have hb2w:=hb1H.out.trans (hb12.mono hbw1);have hbw2:w.heap.size≤W2.heap.size:=hb2w.size;obtain⟨sz,hsz⟩:∃ z,(lnD xnm (TD N y.sub)).size=z:=⟨_,rfl⟩;have hszb:sz≤300:=by have h:=lnD_size xnm (TD N y.sub);omega
    clear hC hCb;have hC:=hC2;obtain⟨hb2H,hown2H,hb12H,hb2wH,hszH⟩:=hqb hb2 hown2 hb12 hb2w (Lib.hid hsz);clear hb2 hown2 hb12 hb2w hsz;refine hK.out _ _ ⟨fun _ _ _=>trivial,fun _ _=>hC2⟩ ?_;clear hK K
    (try simp only[Act.put,List.setIfInBounds_toArray,List.set_cons_zero,List.set_cons_succ])
    refine takeC (i:=10) (d:=some 48) (v:=?_) rfl rfl (by kernel_rfl) (by kernel_rfl) (by kernel_rfl) (by kernel_rfl) (fun _ _ _ h=>h) (Or.inl ⟨by rfl,?_⟩) hC ?_
    rotate_left
    ·(intro w hSw;(try dsimp only at hSw);go_simp;(try with_reducible rfl))
    (try simp only[Act.put,List.setIfInBounds_toArray,List.set_cons_zero,List.set_cons_succ])
    refine takeC (i:=11) (d:=some 49) (v:=?_) rfl rfl (by kernel_rfl) (by kernel_rfl) (by kernel_rfl) (by kernel_rfl) (fun _ _ _ h=>h) (Or.inl ⟨by rfl,?_⟩) hC ?_
    rotate_left
    ·(intro w hSw;(try dsimp only at hSw);go_simp;(try with_reducible rfl))
    (try simp only[Act.put,List.setIfInBounds_toArray,List.set_cons_zero,List.set_cons_succ])
    refine oneR (i:=12) (by kernel_rfl) rfl (fun K hK=>?_);refine step_app_s (by rfl) (.tmp 38) (.tmp 49) (by rfl) (by rfl) hown2H.out (lnD xnm (TD N y.sub)) (by rfl) ?a1 ?a2 (n2+sz) ?a3 ?_
    case a1=>rw[hlen,hszH.out];omega
    case a2=>exact hbw2
    case a3=>rw[hlen,hszH.out]
    intro A9 c9 w9 hown9 hg9 hd9;have hC9:w9.cell? ⟨nb,0,none⟩=some (.string xnm)∧w9.cell? ⟨nb,2,none⟩=some (.slice xA xn xc):=⟨cell_grown hg9 hC2.1 (fun e=>by have h8:nb<nb:=hownltH.out _ e.symm;omega),cell_grown hg9 hC2.2 (fun e=>by have h8:nb<nb:=hownltH.out _ e.symm;omega)⟩;have hbF:Below w.heap.size w w9:=hb2wH.out.grown hg9 hb2wH.out.size fun g hg=>(hown2H.out.1.lt g hg).1;have R:DtRel (TD N) Y w (.slice A9 (n2+sz) c9) (.int .i64 ((k:Int)+1)) w9:=by
     refine⟨k+1,A9,_,c9,hk1,by go_num,rfl,by omega,?_,hbF⟩;rw[htkH.out,hlineH.out];exact hown9
    clear hown9 hg9 hd9 hbF;have RH:=Lib.hid R;clear R;refine hK.out _ _ ⟨fun _ _ _=>trivial,fun _ _=>hC9⟩ ?_;clear hK K
    (try simp only[Act.put,List.setIfInBounds_toArray,List.set_cons_zero,List.set_cons_succ])
    clear hC;have hC:=hC9;refine oneR (i:=13) (by kernel_rfl) rfl (fun K hK=>?_);go_simp;refine hK.out _ _ ⟨fun _ _ _=>trivial,fun _ h=>h⟩ ?_;clear hK K
    (try simp only[Act.put,List.setIfInBounds_toArray,List.set_cons_zero,List.set_cons_succ])
    refine doneR (by kernel_rfl) ?_ _;clear hC hC9;go_wp2;refine⟨?rel,?measure⟩
    case measure=>(simp[intOf];omega)
    case rel=>first | exact RH.out | exact⟨rfl,RH.out⟩
  ·obtain rfl:k=n:=by omega
   rw[List.take_of_length_le (by omega)]at hown;have R:=hZ'H.out (.returned (.slice A2 n2 c2)) wr ⟨A2,n2,c2,rfl,own_okR hown,hb⟩;obtain⟨hownH,hbH,RH⟩:=hq2 hown (hq2 hb (Lib.hid R));clear hown hb R;go_wp2_with fail;exact RH.out
theorem dirText_any (P:PartT):∀ N,N≤199→DtHyp P N
 | 0,h=>dirText_step P 0 h (fun M e=>by omega)
 | N+1,h=>dirText_step P (N+1) h (fun M e=>by
  obtain rfl:N=M:=by omega
  exact dirText_any P N (by omega))
end Go.Proofs.YtpdjjjiknijpkaaGreatDoor.C10
namespace Go.Proofs.YtpdjjjiknijpkaaGreatDoor.C10
open Go.ChangeShapes Go.WideShapes Go.Deep Go.RowKit Go.Lib Go.Maps
def csN (rec:List TFi→List Byt) (y:TN):List Byt:=match y.file with
 | some f=>[f.bs]
 | none=>rec y.sub
def Cs:Nat→List TFi→List Byt
 | 0,_=>[]
 | n+1,l=>TD (n+1) l::(nodesS l).flatMap (csN (Cs n))
def CK (w w':World):Prop:=∀ (a:Addr) v,w.cell? a=some v→w'.cell? a=some v
theorem CK.refl (w:World):CK w w:=fun _ _ h=>h
theorem CK.trans {a b c:World} (h:CK a b) (k:CK b c):CK a c:=fun x v e=>k x v (h x v e)
theorem CK.of_below {w w':World} (h:Below w.heap.size w w'):CK w w':=fun _ _ e=>keepC h e
theorem CK.slAt {α:Type} {R:Rd α} {w w':World} {A:Option Addr} {n:Nat} {l:List α} (h:CK w w') (hl:SlAt R w A n l) (hok:∀ x,R.ok w x→R.ok w' x):SlAt R w' A n l:=by
 refine⟨hl.1,fun hn=>?_,fun x hx=>hok x (hl.2.2 x hx)⟩;obtain⟨b,off,hA,hc⟩:=hl.2.1 hn;exact⟨b,off,hA,fun i x hx j v hv=>h _ _ (hc i x hx j v hv)⟩
theorem CK.sl {α:Type} {R:Rd α} {w w':World} {d:SlD α} (h:CK w w') (hl:(RSl R).ok w d) (hok:∀ x,R.ok w x→R.ok w' x):(RSl R).ok w' d:=⟨h.slAt hl.1 hok,hl.2⟩
theorem CK.u8 {w w':World} {d:SlD UInt8} (h:CK w w') (hl:(RSl RU8).ok w d):(RSl RU8).ok w' d:=h.sl hl fun _ k=>k
theorem CK.file {w w':World} {x:File} (h:CK w w') (hx:RFile.ok w x):RFile.ok w' x:=⟨hx.1,hx.2.1,h.u8 hx.2.2⟩
theorem CK.files {w w':World} {d:SlD File} (h:CK w w') (hl:(RSl RFile).ok w d):(RSl RFile).ok w' d:=h.sl hl fun _ k=>h.file k
theorem CK.max {w w':World} (h:CK w w') (k:MaxLenAt w):MaxLenAt w':=by
 obtain⟨m,hm⟩:=k;exact⟨m,h _ _ hm⟩
theorem CK.nodeM {w w':World} {x:NV} {y:TN} (h:CK w w') (k:NodeM w x y):NodeM w' x y:=by
 refine⟨k.name,fun f hf=>?_,fun hd=>?_⟩
 ·obtain⟨q,o,z,h1,h2,h3,h4,h5,h6⟩:=k.file f hf;exact⟨q,o,z,h1,h _ _ h2,h _ _ h3,h _ _ h4,h.file h5,h6⟩
 ·obtain⟨h1,fl,h2,h3⟩:=k.dir hd;exact⟨h1,fl,h.files h2,h3⟩
def WdAns (mb:Nat) (F:ByteArray→Option Byt) (cnt:Nat) (L:List Byt) (t:Byt) (w:World) (e:Ending) (w':World):Prop :=
 e = .returned (.string (digF t))∧(∃ cnt',cnt'≤cnt+L.length∧FoundAt w' mb (L.foldl putF F) cnt')∧Kp (fun k=>k=mb) w w'∧CK w w'
def WdHyp (P:PartT) (N:Nat):Prop:=∀ (wb mb:Nat) (F:ByteArray→Option Byt) (cnt:Nat) (A:Option Addr) (m cap:Nat) (l:List File) (w:World),w.cell? ⟨wb,0,none⟩=some (.map (some mb))→FoundAt w mb F cnt→MaxLenAt w→(RSl RFile).ok w ⟨A,m,cap,l⟩→m≤1000→(∀ y∈l,y.path.size≤N+1)→(∀ y∈l,y.bytes.l.length≤100000)→WF P (l.map tfOf)→cnt+(Cs (N+1) (l.map tfOf)).length≤1000000 →
 Calls Tryz.prog 13 #[.pointer (some ⟨wb,0,none⟩),.slice A m cap] w (WdAns mb F cnt (Cs (N+1) (l.map tfOf)) (TD (N+1) (l.map tfOf)) w)
end Go.Proofs.YtpdjjjiknijpkaaGreatDoor.C10
namespace Go.Proofs.YtpdjjjiknijpkaaGreatDoor.C10
def Fd (L:List Byt):ByteArray→Option Byt:=L.foldl putF fun _=>none
theorem putF_self (F:ByteArray→Option Byt) (b:Byt):∃ b',putF F b (digF b)=some b':=by
 unfold putF
 by_cases h:(F (digF b)).isSome=true
 ·rw[if_pos h];exact Option.isSome_iff_exists.1 h
 ·rw[if_neg h];exact⟨b,if_pos rfl⟩
theorem putF_keep (F:ByteArray→Option Byt) (b:Byt) {d:ByteArray} {x:Byt} (h:F d=some x):putF F b d=some x:=by
 unfold putF
 by_cases h1:(F (digF b)).isSome=true
 ·rw[if_pos h1];exact h
 ·rw[if_neg h1]
  by_cases e:d=digF b
  ·rw[← e,h]at h1;exact absurd rfl h1
  ·rw[if_neg e];exact h
theorem putF_some (F:ByteArray→Option Byt) (b:Byt) {d:ByteArray} {x:Byt} (h:putF F b d=some x):F d=some x∨d=digF b∧x=b:=by
 unfold putF at h
 by_cases h1:(F (digF b)).isSome=true
 ·rw[if_pos h1]at h;exact .inl h
 ·rw[if_neg h1]at h
  by_cases e:d=digF b
  ·rw[if_pos e]at h;injection h with h;exact .inr ⟨e,h.symm⟩
  ·rw[if_neg e]at h;exact .inl h
theorem fold_keep:∀ (L:List Byt) (F:ByteArray→Option Byt) {d:ByteArray} {x:Byt},F d=some x→L.foldl putF F d=some x
 | [],F,_,_,h=>h
 | b::L,F,_,_,h=>fold_keep L (putF F b) (putF_keep F b h)
theorem fold_some:∀ (L:List Byt) (F:ByteArray→Option Byt) {d:ByteArray} {x:Byt},L.foldl putF F d=some x→F d=some x∨d=digF x∧x∈L
 | [],F,_,_,h=>.inl h
 | b::L,F,d,x,h=>by
  rcases fold_some L (putF F b) h with h | ⟨h1,h2⟩
  ·rcases putF_some F b h with h | ⟨h1,h2⟩
   ·exact .inl h
   ·exact .inr ⟨by rw[h2];exact h1,by rw[h2];exact List.mem_cons_self⟩
  ·exact .inr ⟨h1,List.mem_cons_of_mem _ h2⟩
theorem Fd_some {L:List Byt} {d:ByteArray} {x:Byt} (h:Fd L d=some x):d=digF x∧x∈L:=by
 rcases fold_some L _ h with h | h
 ·cases h
 ·exact h
theorem fold_mem:∀ (L:List Byt) (F:ByteArray→Option Byt) {b:Byt},b∈L→∃ b',L.foldl putF F (digF b)=some b'
 | [],_,_,h=>by cases h
 | c::L,F,b,h=>by
  rcases List.mem_cons.1 h with rfl | h
  ·obtain⟨b',hb⟩:=putF_self F b;exact⟨b',fold_keep L _ hb⟩
  ·exact fold_mem L _ h
def Faith (L:List Byt):Prop:=∀ a∈L,∀ b∈L,digF a=digF b→a=b
theorem Fd_mem {L:List Byt} (hf:Faith L) {b:Byt} (h:b∈L):Fd L (digF b)=some b:=by
 obtain⟨b',hb⟩:=fold_mem L (fun _=>none) h;obtain⟨h1,h2⟩:=Fd_some hb;rw[hf b h b' h2 h1];exact hf b h b' h2 h1 ▸ hb
end Go.Proofs.YtpdjjjiknijpkaaGreatDoor.C10
namespace Go.Proofs.YtpdjjjiknijpkaaGreatDoor.C10
open Go.RowKit
structure TreeOk (L:List TFi):Prop where
 wf:WF partT L
 path:∀ f∈L,f.path.length≤200
 cnt:L.length≤1000
 bs:∀ f∈L,f.bs.length≤100000
inductive IsDir (L:List TFi):Nat→List TFi→Prop
 | root:IsDir L 199 L
 | sub {n:Nat} {l:List TFi} {y:TN}:IsDir L (n+1) l→y∈nodesS l→y.file=none→IsDir L n y.sub
theorem Cs_self (n:Nat) (l:List TFi):TD (n+1) l∈Cs (n+1) l:=by unfold Cs;exact List.mem_cons_self
theorem Cs_file {n:Nat} {l:List TFi} {y:TN} (hy:y∈nodesS l) {f:TFi} (hf:y.file=some f):f.bs∈Cs (n+1) l:=by
 unfold Cs;refine List.mem_cons_of_mem _ (List.mem_flatMap.2 ⟨y,hy,?_⟩);unfold csN;rw[hf];exact List.mem_singleton.2 rfl
theorem Cs_sub {n:Nat} {l:List TFi} {y:TN} (hy:y∈nodesS l) (hf:y.file=none) {b:Byt} (hb:b∈Cs n y.sub):b∈Cs (n+1) l:=by
 unfold Cs;refine List.mem_cons_of_mem _ (List.mem_flatMap.2 ⟨y,hy,?_⟩);unfold csN;rw[hf];exact hb
structure DirOk (L:List TFi) (n:Nat) (l:List TFi):Prop where
 wf:WF partT l
 path:∀ f∈l,f.path.length≤n+1
 cnt:l.length≤1000
 n199:n≤199
 cs:∀ b∈Cs (n+1) l,b∈Cs 200 L
 ne:(n=199∧l=L)∨l≠[]
 bs:∀ f∈l,f.bs.length≤100000
theorem IsDir.ok {L:List TFi} (hL:TreeOk L) {n:Nat} {l:List TFi} (h:IsDir L n l):DirOk L n l:=by
 induction h with
 | root=>exact⟨hL.wf,hL.path,hL.cnt,Nat.le_refl _,fun b hb=>hb,.inl ⟨rfl,rfl⟩,hL.bs⟩
 | @sub n l y h hy hf ih =>
  have hy':=nodesS_mem.1 hy;refine⟨ih.wf.sub hy' hf,fun f hfm=>?_,Nat.le_trans (sub_count hy') ih.cnt,by have:=ih.n199;omega,fun b hb=>ih.cs b (Cs_sub hy hf hb),.inr ((grp_ok l y hy').dir hf),fun f hfm=>?_⟩
  ·have:=sub_path hy' hf ih.path f hfm;omega
  ·have hs:=node_sub hy';have e:filesN y=y.sub.map (backF y.name):=by unfold filesN;rw[hf]
   rw[e]at hs;exact ih.bs (backF y.name f) (hs.subset (List.mem_map.2 ⟨f,hfm,rfl⟩))
theorem IsDir.node {L:List TFi} (hL:TreeOk L) {n:Nat} {l:List TFi} (h:IsDir L n l) {y:TN} (hy:y∈nodesS l) (hf:y.file=none):∃ m,n=m+1∧IsDir L m y.sub:=by
 have ho:=h.ok hL;have hy':=nodesS_mem.1 hy;obtain⟨f,hfm⟩:∃ f,f∈y.sub:=List.exists_mem_of_ne_nil _ ((grp_ok l y hy').dir hf);have h1:=sub_path hy' hf ho.path f hfm;have h2:=path_pos (ho.wf.sub hy' hf) f hfm;obtain⟨m,rfl⟩:∃ m,n=m+1:=⟨n-1,by omega⟩;exact⟨m,rfl,.sub h hy hf⟩
def ents (n:Nat) (l:List TFi):List Ent:=(nodesS l).map (entN (TD n))
theorem ents_text (n:Nat) (l:List TFi):TD (n+1) l=(ents n l).flatMap lineE:=TD_E n l
theorem ents_ok {L:List TFi} (hL:TreeOk L) {n:Nat} {l:List TFi} (h:IsDir L n l):(∀ e∈ents n l,EntOk e)∧((ents n l).Pairwise fun a b=>cmpS a.name b.name = -1)∧(ents n l).length≤1000∧(TD (n+1) l).length≤2000000:=by
 have ho:=h.ok hL;have hn2:=ho.n199;refine⟨fun e he=>?_,?_,?_,TD_len partT (n+1) l ho.wf ho.path ho.cnt (by omega)⟩
 ·obtain⟨y,hy,rfl⟩:=List.mem_map.1 he;exact entN_ok (n:=n) ho.wf (fun f hf=>by have:=ho.path f hf;omega) hy
 ·unfold ents;rw[List.pairwise_map];refine(nodesS_ord ho.wf).imp fun {a b} hab=>?_;have e1:∀ y:TN,(entN (TD n) y).name.data.toList=y.name:=fun y=>by unfold entN;cases y.file <;> simp
  have h1:Op.bytesLess (entN (TD n) a).name.data.toList (entN (TD n) b).name.data.toList=true:=by rw[bytesLess_eq,decide_eq_true_iff,e1,e1];exact hab
  rw[less_cmpB,decide_eq_true_iff]at h1;exact h1
 ·unfold ents;rw[List.length_map,(nodesS_perm l).length_eq];exact Nat.le_trans (grp_count l) ho.cnt
theorem wdE_inj {a b:Ent} (ha:EntOk a) (hb:EntOk b) (h:wdE a=wdE b):a=b:=by
 obtain⟨an,ag,ad,ar⟩:=a;obtain⟨bn,bg,bd,br⟩:=b;unfold wdE at h;have hra:=ha.run;have hrb:=hb.run;simp only at h hra hrb
 cases ad <;> cases bd <;> simp only[Bool.false_eq_true,if_false,if_true]at h hra hrb
 ·simp only[List.cons.injEq,and_true,true_and]at h;obtain⟨rfl,rfl,h3⟩:=h;have:ar=br:=by
   unfold wsR at h3
   cases ar <;> cases br <;> first | rfl | (simp only[Bool.false_eq_true,if_false,if_true]at h3;exact absurd h3 (by decide))
  rw[this]
 ·simp at h
 ·simp at h
 ·simp only[List.cons.injEq,and_true,true_and]at h;obtain⟨rfl,rfl⟩:=h;rw[hra trivial,hrb trivial]
theorem flat_inj:∀ (E1 E2:List Ent),(∀ e∈E1,EntOk e)→(∀ e∈E2,EntOk e)→E1.flatMap lineE=E2.flatMap lineE→E1=E2
 | [],[],_,_,_=>rfl
 | [],b::E2,_,_,h=>by rw[List.flatMap_cons]at h;exact absurd h.symm (lineE_ne b _)
 | a::E1,[],_,_,h=>by rw[List.flatMap_cons]at h;exact absurd h (lineE_ne a _)
 | a::E1,b::E2,h1,h2,h=>by
  rw[List.flatMap_cons,List.flatMap_cons]at h;have ha:=h1 a List.mem_cons_self;have hb:=h2 b List.mem_cons_self;have e1:=cut_lines ha (E1.flatMap lineE);rw[h,cut_lines hb]at e1;simp only[Prod.mk.injEq,and_true]at e1;have e2:lnE a=lnE b:=by
   have:=e1.1.symm;exact bytes_ext this
  have e3:wdE a=wdE b:=by rw[← lnE_words ha,← lnE_words hb,e2]
  rw[wdE_inj ha hb e3,flat_inj E1 E2 (fun e he=>h1 e (List.mem_cons_of_mem _ he)) (fun e he=>h2 e (List.mem_cons_of_mem _ he)) e1.2.symm]
theorem ents_same {L:List TFi} (hL:TreeOk L) (hf:Faith (Cs 200 L)) {n m:Nat} {l k:List TFi} (h:IsDir L n l) (g:IsDir L m k) (hd:digF (TD (n+1) l)=digF (TD (m+1) k)):ents n l=ents m k:=by
 have e:=hf _ ((h.ok hL).cs _ (Cs_self n l)) _ ((g.ok hL).cs _ (Cs_self m k)) hd;rw[ents_text,ents_text]at e;exact flat_inj _ _ (ents_ok hL h).1 (ents_ok hL g).1 e
def InS (O:List ObT) (d:ByteArray):Prop:=∃ x∈O,x.dig=d
def Seen1 (O:List ObT) (seen gone:ByteArray→Prop) (e:Ent):Prop:=if e.dir=true then seen e.digest else gone e.digest∨InS O e.digest
def Done1 (L:List TFi) (O:List ObT) (seen gone:ByteArray→Prop) (d:ByteArray):Prop :=
 gone d∨(InS O d∧∀ n l,IsDir L n l→d=digF (TD (n+1) l)→∀ e∈ents n l,Seen1 O seen gone e)
theorem Seen1.mono {O:List ObT} {s g s' g':ByteArray→Prop} {e:Ent} (h:Seen1 O s g e) (hs:∀ d,s d→s' d) (hg:∀ d,g d→g' d):Seen1 O s' g' e:=by
 unfold Seen1 at h ⊢
 split
 ·rename_i hd;rw[if_pos hd]at h;exact hs _ h
 ·rename_i hd;rw[if_neg hd]at h;exact h.imp (hg _) id
theorem Done1.mono {L:List TFi} {O:List ObT} {s g s' g':ByteArray→Prop} {d:ByteArray} (h:Done1 L O s g d) (hs:∀ d,s d→s' d) (hg:∀ d,g d→g' d):Done1 L O s' g' d :=
 h.imp (hg _) fun h=>⟨h.1,fun n l hd e x hx=>(h.2 n l hd e x hx).mono hs hg⟩
structure MsInv (L:List TFi) (O:List ObT) (td:List ByteArray) (seen gone:ByteArray→Prop):Prop where
 root:seen (digF (TD 200 L))
 dir:∀ d,seen d→∃ n l,IsDir L n l∧d=digF (TD (n+1) l)
 todo:∀ d∈td,seen d
 done:∀ d,seen d→d ∉ td→Done1 L O seen gone d
 gone:∀ d,gone d→¬ InS O d∧∃ b∈Cs 200 L,d=digF b
def Complete (L:List TFi) (O:List ObT):Prop:=∀ n l,IsDir L n l→InS O (digF (TD (n+1) l))∧∀ y∈nodesS l,∀ f,y.file=some f→InS O (digF f.bs)
theorem MsInv.complete {L:List TFi} {O:List ObT} (hL:TreeOk L) {seen gone:ByteArray→Prop} (h:MsInv L O [] seen gone) (hg:∀ d,¬ gone d):Complete L O:=by
 have hs:∀ n l,IsDir L n l→seen (digF (TD (n+1) l)):=by
  intro n l hd
  induction hd with
  | root=>exact h.root
  | @sub n l y hd hy hf ih =>
   rcases h.done _ ih (by simp) with h1 | ⟨_,h1⟩
   ·exact absurd h1 (hg _)
   ·have:=h1 (n+1) l hd rfl (entN (TD (n+1)) y) (List.mem_map.2 ⟨y,hy,rfl⟩);unfold Seen1 entN at this;rw[hf]at this;exact this
 intro n l hd
 rcases h.done _ (hs n l hd) (by simp) with h1 | ⟨h0,h1⟩
 ·exact absurd h1 (hg _)
 ·refine⟨h0,fun y hy f hf=>?_⟩;have:=h1 n l hd rfl (entN (TD n) y) (List.mem_map.2 ⟨y,hy,rfl⟩);unfold Seen1 entN at this;rw[hf]at this;simp only[Bool.false_eq_true,if_false]at this
  rcases this with h2 | h2
  ·exact absurd h2 (hg _)
  ·exact h2
theorem Cs_count (P:PartT):∀ (n:Nat) (l:List TFi),(Cs n l).length≤1+l.length*n
 | 0,l=>by unfold Cs;simp
 | n+1,l=>by
  unfold Cs;rw[List.length_cons];have h:∀ (Y:List TN),(∀ y∈Y,∀ f,y.file=some f→filesN y = [f])→(∀ y∈Y,NodeOk y)→(Y.flatMap (csN (Cs n))).length≤(Y.flatMap filesN).length*(n+1):=by
   intro Y
   induction Y with
   | nil=>intro _ _;simp
   | cons y Y ih =>
    intro h1 h2;have ih:=ih (fun y hy=>h1 y (List.mem_cons_of_mem _ hy)) (fun y hy=>h2 y (List.mem_cons_of_mem _ hy));rw[List.flatMap_cons,List.flatMap_cons,List.length_append,List.length_append,Nat.add_mul];have hy:(csN (Cs n) y).length≤(filesN y).length*(n+1):=by
     unfold csN filesN
     cases hf:y.file with
     | some f=>simp
     | none =>
      simp only;have h3:=Cs_count P n y.sub;have h4:=(h2 y List.mem_cons_self).dir hf;have h5:1≤y.sub.length:=by
       cases hs:y.sub with
       | nil=>exact absurd hs h4
       | cons a t=>simp
      rw[List.length_map,Nat.mul_add,Nat.mul_one];omega
    omega
  have h1:=h (nodesS l) (fun y hy f hf=>by unfold filesN;rw[hf]) (fun y hy=>grp_ok l y (nodesS_mem.1 hy));have h2:((nodesS l).flatMap filesN).length=l.length:=by
   rw[((nodesS_perm l).flatMap_right filesN).length_eq,grp_files]
  rw[h2]at h1;omega
end Go.Proofs.YtpdjjjiknijpkaaGreatDoor.C10