/-
 Several texts of mine as one, without what is not wanted here: XWrJ, XWrK.
-/
import Derived.Test.YtpdjjjiknijpkaaGreatDoorTvRC10
set_option linter.unusedVariables false
set_option linter.unusedSimpArgs false
set_option maxRecDepth 100000
set_option maxHeartbeats 8000000
namespace Go.Proofs.YtpdjjjiknijpkaaGreatDoor.C10
open Go.ChangeShapes Go.WideShapes Go.Deep Go.RowKit Go.Lib
theorem data_more (T sb:Nat) (rest:List Value) (vD vP:Value) (AB Ax:Option Addr) (nB cB nx cx:Nat) (D:List ObT) (d:ByteArray) (s:Nat) (bs l:List UInt8) (w:World) (hM:SnM T sb rest vD vP (.slice AB nB cB) D [⟨d,s,⟨AB,nB,cB,bs⟩⟩] bs w) (hx:(RSl RU8).ok w ⟨Ax,nx,cx,l⟩) (hnx:0<nx) (n':Nat) (hn':nB+nx=n') (hle0:n'≤s) (hs1:s≤100000) (hlt:n'<s) :
  Calls Tryz.prog 100 #[.pointer (some ⟨sb,0,none⟩),.int .i64 0,msgV 2 d nB 0 (.slice Ax nx cx)] w (DmAns T sb rest vD vP (.slice AB nB cB) D d s (bs++l) n' w):=by
 obtain⟨Z,hZ⟩:∃ Z,DmAns T sb rest vD vP (.slice AB nB cB) D d s (bs++l) n' w=Z:=⟨_,rfl⟩;have hZ':∀ e W,DmAns T sb rest vD vP (.slice AB nB cB) D d s (bs++l) n' w e W→Z e W:=fun e W h=>by rw[← hZ];exact h
 rw[hZ];clear hZ;have hZ'H:=Lib.hid hZ';clear hZ';unfold msgV;obtain⟨W2,hW2⟩:∃ W,(w.alloc (.cells #[.int .i64 2,.string d,.int .i64 nB,.int .i64 0,.slice Ax nx cx] 131)).alloc (.cells #[.int .i64 0,.string ⟨#[]⟩,.int .i64 0,.int .i64 0,.slice none 0 0] 131)=W:=⟨_,rfl⟩;have hb2:Below w.heap.size w W2:=by rw[← hW2];exact((Below.refl _ _).alloc (Nat.le_refl _) _).alloc (by simp) _
 have hzi:Blk W2 w.heap.size (msgL 2 d nB 0 (.slice Ax nx cx)):=by
  rw[← hW2];unfold msgL;exact blk_below (blk_new w [.int .i64 2,.string d,.int .i64 nB,.int .i64 0,.slice Ax nx cx] 131) (by simp) ((Below.refl _ _).alloc (Nat.le_refl _) _)
 have hzm:Blk W2 (w.heap.size+1) zmV:=by
  rw[← hW2];have:=blk_new (w.alloc (.cells #[.int .i64 2,.string d,.int .i64 nB,.int .i64 0,.slice Ax nx cx] 131)) [.int .i64 0,.string ⟨#[]⟩,.int .i64 0,.int .i64 0,.slice none 0 0] 131
  simpa[zmV]using this
 have hM2:=hM.below hb2;obtain⟨AP,cP,hvP⟩:=hM.oP.form;replace hvP:vP = .slice AP 1 cP:=hvP;subst hvP;obtain⟨gP,hAP⟩:=own_form hM.oP (by decide);subst hAP;obtain⟨vD0,hvD⟩:∃ v,vD=v:=⟨_,rfl⟩;obtain⟨ib,hib⟩:∃ b,w.heap.size=b:=⟨_,rfl⟩;have hfi:=hM.fresh (m:=ib) (by omega);have hfm:=hM.fresh (m:=ib+1) (by omega);rw[hib]at hzi hzm;obtain⟨i1,-⟩:=hzi 1 _ rfl;obtain⟨i2,-⟩:=hzi 2 _ rfl;obtain⟨i4,-⟩:=hzi 4 _ rfl;obtain⟨r1,-⟩:=hM2.blk 1 _ rfl;obtain⟨p0,p1,p2⟩:=cells_PaT hM2.oP.slAt (k:=0) rfl;have p1:W2.cell? ⟨gP,1,none⟩=some (.int .i64 (s:Nat)):=by simpa using p1
 have p2:W2.cell? ⟨gP,2,none⟩=some (.slice AB nB cB):=by simpa using p2
 clear p0;have hnc:nB≤cB:=hM.oB.cap_le;have hsz:∀ W,(sizeOf (Tryz.prog.elem 39)).run Tryz.prog W = .ok 1 W:=fun W=>by kernel_rfl
 have hsA:∀ W,(Instr.slice 39 (.slice Ax nx cx) none (some (.int .i64 0)) none).run Tryz.prog W = .ok (.slice Ax 0 cx) W:=fun W=>run_slTo 39 (by kernel_rfl) 1 hsz _ _ _ 0 (by omega) W;obtain⟨A5,hA5⟩:∃ A5,(if cB=nB then AB else Option.map (fun x=>x.add nB) AB)=A5:=⟨_,rfl⟩;have hwn:IntKind.i64.wrap (nB:Int)=(nB:Int):=by rw[IntKind.wrap_i64];omega
 have hw63:IntKind.i64.wrap ((nB:Int)+(nx:Int))=(nB:Int)+(nx:Int):=by rw[IntKind.wrap_i64];omega
 have hncI:(nB:Int)≤(cB:Int):=by omega
 have hsC:∀ W,(Instr.slice 39 (.slice Ax nx cx) (some (.int .i64 0)) none none).run Tryz.prog W = .ok (.slice Ax nx cx) W:=fun W=>by
  rw[run_slice_l (P:=Tryz.prog) W 39 Ax nx cx (by kernel_rfl) .i64 0 (by omega) (by omega),hsz W];have e:Ax.map (·.add 0)=Ax:=by cases Ax <;> simp[Addr.add]
  simp[Result.andThen,sliced,e]
 have hsl0:∀ (A:Option Addr) (W:World),SlAt RU8 W A 0 []:=fun A W=>⟨rfl,fun h=>absurd h (by decide),fun x h=>by cases h⟩;have heq:=fun W=>equalU_any Ax A5 0 cx (cB-nB) [] W (hsl0 _ _) (hsl0 _ _) (by decide);have hmin:min (nx:Int) (IntKind.i64.wrap 0)=0:=by rw[show IntKind.i64.wrap 0=0 from rfl];omega
 have hle:¬ (s:Int)<(nB:Int)+(nx:Int):=by omega
 have h63:¬ 9223372036854775807<(nB:Int)+(nx:Int):=by omega
 have hxs:SlAt RU8 W2 Ax nx l:=hx.1.below hb2;clear hsl0;obtain⟨hMH,hb2H,hziH,hzmH,hM2H,hfiH,hfmH,hvDH,heqH,hxsH,hxH⟩:=hq2 hM (hq2 hb2 (hqc hzi hzm hM2 hfi hfm hvD heq hxs (Lib.hid hx)));clear hM hb2 hzi hzm hM2 hfi hfm hvD heq hxs hx;go_enter Tryz.func100,Tryz.ntmps100;go_wp2_with fail;refine startR (R:=Rk (fun _=>True) (fun V=>V.cell? ⟨ib,1,none⟩=some (.string d)∧V.cell? ⟨ib,2,none⟩=some (.int .i64 (nB:Nat))∧V.cell? ⟨ib,4,none⟩=some (.slice Ax nx cx)∧V.cell? ⟨gP,1,none⟩=some (.int .i64 (s:Nat))∧V.cell? ⟨gP,2,none⟩=some (.slice AB nB cB)) 99 99) (by kernel_rfl) ?_;have hC:W2.drew.cell? ⟨ib,1,none⟩=some (.string d)∧W2.drew.cell? ⟨ib,2,none⟩=some (.int .i64 (nB:Nat))∧W2.drew.cell? ⟨ib,4,none⟩=some (.slice Ax nx cx)∧W2.drew.cell? ⟨gP,1,none⟩=some (.int .i64 (s:Nat))∧W2.drew.cell? ⟨gP,2,none⟩=some (.slice AB nB cB):=⟨i1,i2,i4,p1,p2⟩;refine takeC (i:=0) (d:=some 17) (v:=?_) rfl rfl (by kernel_rfl) (by kernel_rfl) (by kernel_rfl) (by kernel_rfl) (fun _ _ _ h=>h) (Or.inl ⟨by rfl,?_⟩) hC ?_
 rotate_left
 ·(intro w hSw;(try dsimp only at hSw);go_simp;(try with_reducible rfl))
 (try simp only[Act.put,List.setIfInBounds_toArray,List.set_cons_zero,List.set_cons_succ])
 refine takeC (i:=1) (d:=some 18) (v:=?_) rfl rfl (by kernel_rfl) (by kernel_rfl) (by kernel_rfl) (by kernel_rfl) (fun _ _ _ h=>h) (Or.inl ⟨by rfl,?_⟩) hC ?_
 rotate_left
 ·(intro w hSw;(try dsimp only at hSw);go_simp;(try with_reducible rfl))
 (try simp only[Act.put,List.setIfInBounds_toArray,List.set_cons_zero,List.set_cons_succ])
 refine takeC (i:=2) (d:=some 19) (v:=?_) rfl rfl (by kernel_rfl) (by kernel_rfl) (by kernel_rfl) (by kernel_rfl) (fun _ _ _ h=>h) (Or.inl ⟨by rfl,?_⟩) hC ?_
 rotate_left
 ·(intro w hSw;(try dsimp only at hSw);go_simp;(try with_reducible rfl))
 (try simp only[Act.put,List.setIfInBounds_toArray,List.set_cons_zero,List.set_cons_succ])
 refine takeC (i:=3) (d:=some 20) (v:=?_) rfl rfl (by kernel_rfl) (by kernel_rfl) (by kernel_rfl) (by kernel_rfl) (fun _ _ _ h=>h) (Or.inl ⟨by rfl,?_⟩) hC ?_
 rotate_left
 ·(intro w hSw;(try dsimp only at hSw);go_simp;(try with_reducible rfl))
 (try simp only[Act.put,List.setIfInBounds_toArray,List.set_cons_zero,List.set_cons_succ])
 refine takeC (i:=4) (d:=some 21) (v:=?_) rfl rfl (by kernel_rfl) (by kernel_rfl) (by kernel_rfl) (by kernel_rfl) (fun _ _ _ h=>h) (Or.inl ⟨by rfl,?_⟩) hC ?_
 rotate_left
 ·(intro w hSw;(try dsimp only at hSw);go_simp;(try with_reducible rfl))
 (try simp only[Act.put,List.setIfInBounds_toArray,List.set_cons_zero,List.set_cons_succ])
 refine takeC (i:=5) (d:=some 22) (v:=?_) rfl rfl (by kernel_rfl) (by kernel_rfl) (by kernel_rfl) (by kernel_rfl) (fun _ _ _ h=>h) (Or.inl ⟨by rfl,?_⟩) hC ?_
 rotate_left
 ·(intro w hSw;(try dsimp only at hSw);go_simp;(try with_reducible rfl))
 (try simp only[Act.put,List.setIfInBounds_toArray,List.set_cons_zero,List.set_cons_succ])
 refine takeC (i:=6) (d:=some 23) (v:=?_) rfl rfl (by kernel_rfl) (by kernel_rfl) (by kernel_rfl) (by kernel_rfl) (fun _ _ _ h=>h) (Or.inl ⟨by rfl,?_⟩) hC ?_
 rotate_left
 ·(intro w hSw;(try dsimp only at hSw);go_simp;(try with_reducible rfl))
 (try simp only[Act.put,List.setIfInBounds_toArray,List.set_cons_zero,List.set_cons_succ])
 refine takeC (i:=7) (d:=some 24) (v:=?_) rfl rfl (by kernel_rfl) (by kernel_rfl) (by kernel_rfl) (by kernel_rfl) (fun _ _ _ h=>h) (Or.inl ⟨by rfl,?_⟩) hC ?_
 rotate_left
 ·(intro w hSw;(try dsimp only at hSw);go_simp;(try with_reducible rfl))
 (try simp only[Act.put,List.setIfInBounds_toArray,List.set_cons_zero,List.set_cons_succ])
 refine doneR (by kernel_rfl) ?_ _;clear hC;go_wp2_with fail;refine startR (R:=Rk (fun _=>True) (fun V=>V.cell? ⟨ib,1,none⟩=some (.string d)∧V.cell? ⟨ib,2,none⟩=some (.int .i64 (nB:Nat))∧V.cell? ⟨ib,4,none⟩=some (.slice Ax nx cx)∧V.cell? ⟨gP,1,none⟩=some (.int .i64 (s:Nat))∧V.cell? ⟨gP,2,none⟩=some (.slice AB nB cB)) 99 99) (by kernel_rfl) ?_;have hC:W2.drew.drew.cell? ⟨ib,1,none⟩=some (.string d)∧W2.drew.drew.cell? ⟨ib,2,none⟩=some (.int .i64 (nB:Nat))∧W2.drew.drew.cell? ⟨ib,4,none⟩=some (.slice Ax nx cx)∧W2.drew.drew.cell? ⟨gP,1,none⟩=some (.int .i64 (s:Nat))∧W2.drew.drew.cell? ⟨gP,2,none⟩=some (.slice AB nB cB):=⟨i1,i2,i4,p1,p2⟩;refine takeC (i:=0) (d:=some 26) (v:=?_) rfl rfl (by kernel_rfl) (by kernel_rfl) (by kernel_rfl) (by kernel_rfl) (fun _ _ _ h=>h) (Or.inl ⟨by rfl,?_⟩) hC ?_
 rotate_left
 ·(intro w hSw;(try dsimp only at hSw);go_simp;(try with_reducible rfl))
 (try simp only[Act.put,List.setIfInBounds_toArray,List.set_cons_zero,List.set_cons_succ])
 refine takeC (i:=1) (d:=some 27) (v:=?_) rfl rfl (by kernel_rfl) (by kernel_rfl) (by kernel_rfl) (by kernel_rfl) (fun _ _ _ h=>h) (Or.inl ⟨by rfl,?_⟩) hC ?_
 rotate_left
 ·(intro w hSw;(try dsimp only at hSw);go_simp;(try with_reducible rfl))
 (try simp only[Act.put,List.setIfInBounds_toArray,List.set_cons_zero,List.set_cons_succ])
 refine takeC (i:=2) (d:=some 28) (v:=?_) rfl rfl (by kernel_rfl) (by kernel_rfl) (by kernel_rfl) (by kernel_rfl) (fun _ _ _ h=>h) (Or.inl ⟨by rfl,?_⟩) hC ?_
 rotate_left
 ·(intro w hSw;(try dsimp only at hSw);go_simp;(try with_reducible rfl))
 (try simp only[Act.put,List.setIfInBounds_toArray,List.set_cons_zero,List.set_cons_succ])
 refine takeC (i:=3) (d:=some 29) (v:=?_) rfl rfl (by kernel_rfl) (by kernel_rfl) (by kernel_rfl) (by kernel_rfl) (fun _ _ _ h=>h) (Or.inl ⟨by rfl,?_⟩) hC ?_
 rotate_left
 ·(intro w hSw;(try dsimp only at hSw);go_simp;(try with_reducible rfl))
 (try simp only[Act.put,List.setIfInBounds_toArray,List.set_cons_zero,List.set_cons_succ])
 refine takeC (i:=4) (d:=some 30) (v:=?_) rfl rfl (by kernel_rfl) (by kernel_rfl) (by kernel_rfl) (by kernel_rfl) (fun _ _ _ h=>h) (Or.inl ⟨by rfl,?_⟩) hC ?_
 rotate_left
 ·(intro w hSw;(try dsimp only at hSw);go_simp;(try with_reducible rfl))
 (try simp only[Act.put,List.setIfInBounds_toArray,List.set_cons_zero,List.set_cons_succ])
 refine takeC (i:=5) (d:=some 31) (v:=?_) rfl rfl (by kernel_rfl) (by kernel_rfl) (by kernel_rfl) (by kernel_rfl) (fun _ _ _ h=>h) (Or.inl ⟨by rfl,?_⟩) hC ?_
 rotate_left
 ·(intro w hSw;(try dsimp only at hSw);go_simp;(try with_reducible rfl))
 (try simp only[Act.put,List.setIfInBounds_toArray,List.set_cons_zero,List.set_cons_succ])
 refine takeC (i:=6) (d:=some 32) (v:=?_) rfl rfl (by kernel_rfl) (by kernel_rfl) (by kernel_rfl) (by kernel_rfl) (fun _ _ _ h=>h) (Or.inl ⟨by rfl,?_⟩) hC ?_
 rotate_left
 ·(intro w hSw;(try dsimp only at hSw);go_simp;(try with_reducible rfl))
 (try simp only[Act.put,List.setIfInBounds_toArray,List.set_cons_zero,List.set_cons_succ])
 refine takeC (i:=7) (d:=some 33) (v:=?_) rfl rfl (by kernel_rfl) (by kernel_rfl) (by kernel_rfl) (by kernel_rfl) (fun _ _ _ h=>h) (Or.inl ⟨by rfl,?_⟩) hC ?_
 rotate_left
 ·(intro w hSw;(try dsimp only at hSw);go_simp;(try with_reducible rfl))
 (try simp only[Act.put,List.setIfInBounds_toArray,List.set_cons_zero,List.set_cons_succ])
 refine takeC (i:=8) (d:=some 34) (v:=?_) rfl rfl (by kernel_rfl) (by kernel_rfl) (by kernel_rfl) (by kernel_rfl) (fun _ _ _ h=>h) (Or.inl ⟨by rfl,?_⟩) hC ?_
 rotate_left
 ·(intro w hSw;(try dsimp only at hSw);go_simp;(try with_reducible rfl))
 (try simp only[Act.put,List.setIfInBounds_toArray,List.set_cons_zero,List.set_cons_succ])
 refine takeC (i:=9) (d:=some 35) (v:=?_) rfl rfl (by kernel_rfl) (by kernel_rfl) (by kernel_rfl) (by kernel_rfl) (fun _ _ _ h=>h) (Or.inl ⟨by rfl,?_⟩) hC ?_
 rotate_left
 ·(intro w hSw;(try dsimp only at hSw);go_simp;(try with_reducible rfl))
 (try simp only[Act.put,List.setIfInBounds_toArray,List.set_cons_zero,List.set_cons_succ])
 refine takeC (i:=10) (d:=some 36) (v:=?_) rfl rfl (by kernel_rfl) (by kernel_rfl) (by kernel_rfl) (by kernel_rfl) (fun _ _ _ h=>h) (Or.inl ⟨by rfl,?_⟩) hC ?_
 rotate_left
 ·(intro w hSw;(try dsimp only at hSw);go_simp;(try with_reducible rfl))
 (try simp only[Act.put,List.setIfInBounds_toArray,List.set_cons_zero,List.set_cons_succ])
 refine takeC (i:=11) (d:=some 37) (v:=?_) rfl rfl (by kernel_rfl) (by kernel_rfl) (by kernel_rfl) (by kernel_rfl) (fun _ _ _ h=>h) (Or.inl ⟨by rfl,?_⟩) hC ?_
 rotate_left
 ·(intro w hSw;(try dsimp only at hSw);go_simp;(try with_reducible rfl))
 (try simp only[Act.put,List.setIfInBounds_toArray,List.set_cons_zero,List.set_cons_succ])
 refine takeC (i:=12) (d:=some 9) (v:=?_) rfl rfl (by kernel_rfl) (by kernel_rfl) (by kernel_rfl) (by kernel_rfl) (fun _ _ _ h=>h) (Or.inl ⟨by rfl,?_⟩) hC ?_
 rotate_left
 ·(intro w hSw;(try dsimp only at hSw);go_simp;(try with_reducible rfl))
 (try simp only[Act.put,List.setIfInBounds_toArray,List.set_cons_zero,List.set_cons_succ])
 refine doneR (by kernel_rfl) ?_ _;clear hC;go_wp2_with fail;refine startR (R:=Rk (fun _=>True) (fun V=>V.cell? ⟨ib,1,none⟩=some (.string d)∧V.cell? ⟨ib,2,none⟩=some (.int .i64 (nB:Nat))∧V.cell? ⟨ib,4,none⟩=some (.slice Ax nx cx)∧V.cell? ⟨gP,1,none⟩=some (.int .i64 (s:Nat))∧V.cell? ⟨gP,2,none⟩=some (.slice AB nB cB)) 99 99) (by kernel_rfl) ?_;have hC:W2.drew.drew.drew.cell? ⟨ib,1,none⟩=some (.string d)∧W2.drew.drew.drew.cell? ⟨ib,2,none⟩=some (.int .i64 (nB:Nat))∧W2.drew.drew.drew.cell? ⟨ib,4,none⟩=some (.slice Ax nx cx)∧W2.drew.drew.drew.cell? ⟨gP,1,none⟩=some (.int .i64 (s:Nat))∧W2.drew.drew.drew.cell? ⟨gP,2,none⟩=some (.slice AB nB cB):=⟨i1,i2,i4,p1,p2⟩;refine takeC (i:=0) (d:=some 39) (v:=?_) rfl rfl (by kernel_rfl) (by kernel_rfl) (by kernel_rfl) (by kernel_rfl) (fun _ _ _ h=>h) (Or.inl ⟨by rfl,?_⟩) hC ?_
 rotate_left
 ·(intro w hSw;(try dsimp only at hSw);go_simp;(try with_reducible rfl))
 (try simp only[Act.put,List.setIfInBounds_toArray,List.set_cons_zero,List.set_cons_succ])
 refine takeC (i:=1) (d:=some 40) (v:=?_) rfl rfl (by kernel_rfl) (by kernel_rfl) (by kernel_rfl) (by kernel_rfl) (fun _ _ _ h=>h) (Or.inl ⟨by rfl,?_⟩) hC ?_
 rotate_left
 ·(intro w hSw;(try dsimp only at hSw);go_simp;(try with_reducible rfl))
 (try simp only[Act.put,List.setIfInBounds_toArray,List.set_cons_zero,List.set_cons_succ])
 refine takeC (i:=2) (d:=some 41) (v:=?_) rfl rfl (by kernel_rfl) (by kernel_rfl) (by kernel_rfl) (by kernel_rfl) (fun _ _ _ h=>h) (Or.inl ⟨by rfl,?_⟩) hC ?_
 rotate_left
 ·(intro w hSw;(try dsimp only at hSw);go_simp;(try with_reducible rfl))
 (try simp only[Act.put,List.setIfInBounds_toArray,List.set_cons_zero,List.set_cons_succ])
 refine takeC (i:=3) (d:=some 42) (v:=?_) rfl rfl (by kernel_rfl) (by kernel_rfl) (by kernel_rfl) (by kernel_rfl) (fun _ _ _ h=>h) (Or.inl ⟨by rfl,?_⟩) hC ?_
 rotate_left
 ·(intro w hSw;(try dsimp only at hSw);go_simp;(try with_reducible rfl))
 (try simp only[Act.put,List.setIfInBounds_toArray,List.set_cons_zero,List.set_cons_succ])
 refine takeC (i:=4) (d:=some 43) (v:=?_) rfl rfl (by kernel_rfl) (by kernel_rfl) (by kernel_rfl) (by kernel_rfl) (fun _ _ _ h=>h) (Or.inl ⟨by rfl,?_⟩) hC ?_
 rotate_left
 ·(intro w hSw;(try dsimp only at hSw);go_simp;(try with_reducible rfl))
 (try simp only[Act.put,List.setIfInBounds_toArray,List.set_cons_zero,List.set_cons_succ])
 refine takeC (i:=5) (d:=some 44) (v:=?_) rfl rfl (by kernel_rfl) (by kernel_rfl) (by kernel_rfl) (by kernel_rfl) (fun _ _ _ h=>h) (Or.inl ⟨by rfl,?_⟩) hC ?_
 rotate_left
 ·(intro w hSw;(try dsimp only at hSw);go_simp;(try with_reducible rfl))
 (try simp only[Act.put,List.setIfInBounds_toArray,List.set_cons_zero,List.set_cons_succ])
 refine takeC (i:=6) (d:=some 45) (v:=?_) rfl rfl (by kernel_rfl) (by kernel_rfl) (by kernel_rfl) (by kernel_rfl) (fun _ _ _ h=>h) (Or.inl ⟨by rfl,?_⟩) hC ?_
 rotate_left
 ·(intro w hSw;(try dsimp only at hSw);go_simp;(try with_reducible rfl))
 (try simp only[Act.put,List.setIfInBounds_toArray,List.set_cons_zero,List.set_cons_succ])
 refine takeC (i:=7) (d:=some 46) (v:=?_) rfl rfl (by kernel_rfl) (by kernel_rfl) (by kernel_rfl) (by kernel_rfl) (fun _ _ _ h=>h) (Or.inl ⟨by rfl,?_⟩) hC ?_
 rotate_left
 ·(intro w hSw;(try dsimp only at hSw);go_simp;(try with_reducible rfl))
 (try simp only[Act.put,List.setIfInBounds_toArray,List.set_cons_zero,List.set_cons_succ])
 refine takeC (i:=8) (d:=some 47) (v:=?_) rfl rfl (by kernel_rfl) (by kernel_rfl) (by kernel_rfl) (by kernel_rfl) (fun _ _ _ h=>h) (Or.inl ⟨by rfl,?_⟩) hC ?_
 rotate_left
 ·(intro w hSw;(try dsimp only at hSw);go_simp;(try with_reducible rfl))
 (try simp only[Act.put,List.setIfInBounds_toArray,List.set_cons_zero,List.set_cons_succ])
 refine takeC (i:=9) (d:=some 48) (v:=?_) rfl rfl (by kernel_rfl) (by kernel_rfl) (by kernel_rfl) (by kernel_rfl) (fun _ _ _ h=>h) (Or.inl ⟨by rfl,?_⟩) hC ?_
 rotate_left
 ·(intro w hSw;(try dsimp only at hSw);go_simp;(try with_reducible rfl))
 (try simp only[Act.put,List.setIfInBounds_toArray,List.set_cons_zero,List.set_cons_succ])
 refine takeC (i:=10) (d:=some 49) (v:=?_) rfl rfl (by kernel_rfl) (by kernel_rfl) (by kernel_rfl) (by kernel_rfl) (fun _ _ _ h=>h) (Or.inl ⟨by rfl,?_⟩) hC ?_
 rotate_left
 ·(intro w hSw;(try dsimp only at hSw);go_simp;(try with_reducible rfl))
 (try simp only[Act.put,List.setIfInBounds_toArray,List.set_cons_zero,List.set_cons_succ])
 refine takeC (i:=11) (d:=some 50) (v:=?_) rfl rfl (by kernel_rfl) (by kernel_rfl) (by kernel_rfl) (by kernel_rfl) (fun _ _ _ h=>h) (Or.inl ⟨by rfl,?_⟩) hC ?_
 rotate_left
 ·(intro w hSw;(try dsimp only at hSw);go_simp;(try with_reducible rfl))
 (try simp only[Act.put,List.setIfInBounds_toArray,List.set_cons_zero,List.set_cons_succ])
 refine takeC (i:=12) (d:=some 51) (v:=?_) rfl rfl (by kernel_rfl) (by kernel_rfl) (by kernel_rfl) (by kernel_rfl) (fun _ _ _ h=>h) (Or.inl ⟨by rfl,?_⟩) hC ?_
 rotate_left
 ·(intro w hSw;(try dsimp only at hSw);go_simp;(try with_reducible rfl))
 (try simp only[Act.put,List.setIfInBounds_toArray,List.set_cons_zero,List.set_cons_succ])
 refine takeC (i:=13) (d:=some 52) (v:=?_) rfl rfl (by kernel_rfl) (by kernel_rfl) (by kernel_rfl) (by kernel_rfl) (fun _ _ _ h=>h) (Or.inl ⟨by rfl,?_⟩) hC ?_
 rotate_left
 ·(intro w hSw;(try dsimp only at hSw);go_simp;(try with_reducible rfl))
 (try simp only[Act.put,List.setIfInBounds_toArray,List.set_cons_zero,List.set_cons_succ])
 refine takeC (i:=14) (d:=some 53) (v:=?_) rfl rfl (by kernel_rfl) (by kernel_rfl) (by kernel_rfl) (by kernel_rfl) (fun _ _ _ h=>h) (Or.inl ⟨by rfl,?_⟩) hC ?_
 rotate_left
 ·(intro w hSw;(try dsimp only at hSw);go_simp;(try with_reducible rfl))
 (try simp only[Act.put,List.setIfInBounds_toArray,List.set_cons_zero,List.set_cons_succ])
 refine oneR (i:=15) (by kernel_rfl) rfl (fun K hK=>?_);go_simp;go_at_call 37;refine(heqH.out _).mono ?_;rintro e w3 ⟨rfl,hb3⟩;have hb23:Below W2.heap.size W2 w3:=(Below.refl _ _).drew.drew.drew.trans hb3;have hC3:w3.cell? ⟨ib,1,none⟩=some (.string d)∧w3.cell? ⟨ib,2,none⟩=some (.int .i64 (nB:Nat))∧w3.cell? ⟨ib,4,none⟩=some (.slice Ax nx cx)∧w3.cell? ⟨gP,1,none⟩=some (.int .i64 (s:Nat))∧w3.cell? ⟨gP,2,none⟩=some (.slice AB nB cB):=⟨keepC hb23 i1,keepC hb23 i2,keepC hb23 i4,keepC hb23 p1,keepC hb23 p2⟩;have r13:=keepC hb23 r1;have hM3:=hM2H.out.below hb23;have hzm3:=blk_below hzmH.out (by simp[zmV]) hb23;obtain⟨hb3H,hb23H,hM3H,hzm3H⟩:=hq2 hb3 (hq2 hb23 (hq2 hM3 (Lib.hid hzm3)));clear hb3 hb23 hM3 hzm3;refine hK.out _ _ ⟨fun _ _ _=>trivial,fun _ _=>hC3⟩ ?_;clear hK K
 (try simp only[Act.put,List.setIfInBounds_toArray,List.set_cons_zero,List.set_cons_succ])
 clear hC;have hC:=hC3;refine takeC (i:=16) (d:=some 55) (v:=?_) rfl rfl (by kernel_rfl) (by kernel_rfl) (by kernel_rfl) (by kernel_rfl) (fun _ _ _ h=>h) (Or.inl ⟨by rfl,?_⟩) hC ?_
 rotate_left
 ·(intro w hSw;(try dsimp only at hSw);go_simp;(try with_reducible rfl))
 (try simp only[Act.put,List.setIfInBounds_toArray,List.set_cons_zero,List.set_cons_succ])
 refine takeC (i:=17) (d:=some 38) (v:=?_) rfl rfl (by kernel_rfl) (by kernel_rfl) (by kernel_rfl) (by kernel_rfl) (fun _ _ _ h=>h) (Or.inl ⟨by rfl,?_⟩) hC ?_
 rotate_left
 ·(intro w hSw;(try dsimp only at hSw);go_simp;(try with_reducible rfl))
 (try simp only[Act.put,List.setIfInBounds_toArray,List.set_cons_zero,List.set_cons_succ])
 refine doneR (by kernel_rfl) ?_ _;clear hC i1 i2 i4 p1 p2 r1;go_wp2_with fail;refine startR (R:=Rk (fun _=>True) (fun V=>V.cell? ⟨ib,1,none⟩=some (.string d)∧V.cell? ⟨ib,2,none⟩=some (.int .i64 (nB:Nat))∧V.cell? ⟨ib,4,none⟩=some (.slice Ax nx cx)∧V.cell? ⟨gP,1,none⟩=some (.int .i64 (s:Nat))∧V.cell? ⟨gP,2,none⟩=some (.slice AB nB cB)) 99 99) (by kernel_rfl) ?_;have hC:w3.drew.cell? ⟨ib,1,none⟩=some (.string d)∧w3.drew.cell? ⟨ib,2,none⟩=some (.int .i64 (nB:Nat))∧w3.drew.cell? ⟨ib,4,none⟩=some (.slice Ax nx cx)∧w3.drew.cell? ⟨gP,1,none⟩=some (.int .i64 (s:Nat))∧w3.drew.cell? ⟨gP,2,none⟩=some (.slice AB nB cB):=hC3;refine takeC (i:=0) (d:=some 58) (v:=?_) rfl rfl (by kernel_rfl) (by kernel_rfl) (by kernel_rfl) (by kernel_rfl) (fun _ _ _ h=>h) (Or.inl ⟨by rfl,?_⟩) hC ?_
 rotate_left
 ·(intro w hSw;(try dsimp only at hSw);go_simp;(try with_reducible rfl))
 (try simp only[Act.put,List.setIfInBounds_toArray,List.set_cons_zero,List.set_cons_succ])
 refine takeC (i:=1) (d:=some 59) (v:=?_) rfl rfl (by kernel_rfl) (by kernel_rfl) (by kernel_rfl) (by kernel_rfl) (fun _ _ _ h=>h) (Or.inl ⟨by rfl,?_⟩) hC ?_
 rotate_left
 ·(intro w hSw;(try dsimp only at hSw);go_simp;(try with_reducible rfl))
 (try simp only[Act.put,List.setIfInBounds_toArray,List.set_cons_zero,List.set_cons_succ])
 refine takeC (i:=2) (d:=some 60) (v:=?_) rfl rfl (by kernel_rfl) (by kernel_rfl) (by kernel_rfl) (by kernel_rfl) (fun _ _ _ h=>h) (Or.inl ⟨by rfl,?_⟩) hC ?_
 rotate_left
 ·(intro w hSw;(try dsimp only at hSw);go_simp;(try with_reducible rfl))
 (try simp only[Act.put,List.setIfInBounds_toArray,List.set_cons_zero,List.set_cons_succ])
 refine takeC (i:=3) (d:=some 61) (v:=?_) rfl rfl (by kernel_rfl) (by kernel_rfl) (by kernel_rfl) (by kernel_rfl) (fun _ _ _ h=>h) (Or.inl ⟨by rfl,?_⟩) hC ?_
 rotate_left
 ·(intro w hSw;(try dsimp only at hSw);go_simp;(try with_reducible rfl))
 (try simp only[Act.put,List.setIfInBounds_toArray,List.set_cons_zero,List.set_cons_succ])
 refine takeC (i:=4) (d:=some 62) (v:=?_) rfl rfl (by kernel_rfl) (by kernel_rfl) (by kernel_rfl) (by kernel_rfl) (fun _ _ _ h=>h) (Or.inl ⟨by rfl,?_⟩) hC ?_
 rotate_left
 ·(intro w hSw;(try dsimp only at hSw);go_simp;(try with_reducible rfl))
 (try simp only[Act.put,List.setIfInBounds_toArray,List.set_cons_zero,List.set_cons_succ])
 refine takeC (i:=5) (d:=some 63) (v:=?_) rfl rfl (by kernel_rfl) (by kernel_rfl) (by kernel_rfl) (by kernel_rfl) (fun _ _ _ h=>h) (Or.inl ⟨by rfl,?_⟩) hC ?_
 rotate_left
 ·(intro w hSw;(try dsimp only at hSw);go_simp;(try with_reducible rfl))
 (try simp only[Act.put,List.setIfInBounds_toArray,List.set_cons_zero,List.set_cons_succ])
 refine takeC (i:=6) (d:=some 64) (v:=?_) rfl rfl (by kernel_rfl) (by kernel_rfl) (by kernel_rfl) (by kernel_rfl) (fun _ _ _ h=>h) (Or.inl ⟨by rfl,?_⟩) hC ?_
 rotate_left
 ·(intro w hSw;(try dsimp only at hSw);go_simp;(try with_reducible rfl))
 (try simp only[Act.put,List.setIfInBounds_toArray,List.set_cons_zero,List.set_cons_succ])
 refine takeC (i:=7) (d:=some 65) (v:=?_) rfl rfl (by kernel_rfl) (by kernel_rfl) (by kernel_rfl) (by kernel_rfl) (fun _ _ _ h=>h) (Or.inl ⟨by rfl,?_⟩) hC ?_
 rotate_left
 ·(intro w hSw;(try dsimp only at hSw);go_simp;(try with_reducible rfl))
 (try simp only[Act.put,List.setIfInBounds_toArray,List.set_cons_zero,List.set_cons_succ])
 refine takeC (i:=8) (d:=some 66) (v:=?_) rfl rfl (by kernel_rfl) (by kernel_rfl) (by kernel_rfl) (by kernel_rfl) (fun _ _ _ h=>h) (Or.inl ⟨by rfl,?_⟩) hC ?_
 rotate_left
 ·(intro w hSw;(try dsimp only at hSw);go_simp;(try with_reducible rfl))
 (try simp only[Act.put,List.setIfInBounds_toArray,List.set_cons_zero,List.set_cons_succ])
 refine takeC (i:=9) (d:=some 67) (v:=?_) rfl rfl (by kernel_rfl) (by kernel_rfl) (by kernel_rfl) (by kernel_rfl) (fun _ _ _ h=>h) (Or.inl ⟨by rfl,?_⟩) hC ?_
 rotate_left
 ·(intro w hSw;(try dsimp only at hSw);go_simp;(try with_reducible rfl))
 (try simp only[Act.put,List.setIfInBounds_toArray,List.set_cons_zero,List.set_cons_succ])
 refine takeC (i:=10) (d:=some 68) (v:=?_) rfl rfl (by kernel_rfl) (by kernel_rfl) (by kernel_rfl) (by kernel_rfl) (fun _ _ _ h=>h) (Or.inl ⟨by rfl,?_⟩) hC ?_
 rotate_left
 ·(intro w hSw;(try dsimp only at hSw);go_simp;(try with_reducible rfl))
 (try simp only[Act.put,List.setIfInBounds_toArray,List.set_cons_zero,List.set_cons_succ])
 refine takeC (i:=11) (d:=some 57) (v:=?_) rfl rfl (by kernel_rfl) (by kernel_rfl) (by kernel_rfl) (by kernel_rfl) (fun _ _ _ h=>h) (Or.inl ⟨by rfl,?_⟩) hC ?_
 rotate_left
 ·(intro w hSw;(try dsimp only at hSw);go_simp;(try with_reducible rfl))
 (try simp only[Act.put,List.setIfInBounds_toArray,List.set_cons_zero,List.set_cons_succ])
 refine doneR (by kernel_rfl) ?_ _;clear hC;go_wp2_with fail;obtain⟨w4,hw4⟩:∃ W,w3.drew.drew=W:=⟨_,rfl⟩;have hb34:Below w3.heap.size w3 w4:=by rw[← hw4];exact(Below.refl _ _).drew.drew
 have hb24:=hb23H.out.trans (hb34.mono hb23H.out.size);obtain⟨y1,y2,y4,y5,y6⟩:=hC3;replace y1:=keepC hb34 y1;replace y2:=keepC hb34 y2;replace y4:=keepC hb34 y4;replace y5:=keepC hb34 y5;replace y6:=keepC hb34 y6;replace r13:=keepC hb34 r13;have hM4:=hM3H.out.below hb34;have hzm4:=blk_below hzm3H.out (by simp[zmV]) hb34;have hx4:SlAt RU8 w4 Ax nx l:=hxsH.out.below hb24;clear hsA hmin hle hA5;obtain⟨hb34H,hb24H,hM4H,hzm4H,hx4H⟩:=hqb hb34 hb24 hM4 hzm4 (Lib.hid hx4);clear hb34 hb24 hM4 hzm4 hx4;refine startR (R:=Rk (fun V=>V.cell? ⟨gP,2,none⟩=some (.slice AB nB cB)) (fun V=>V.cell? ⟨ib,4,none⟩=some (.slice Ax nx cx)) 12 99) (by kernel_rfl) ?_;rw[hw4];clear hw4;have hF:w4.cell? ⟨gP,2,none⟩=some (.slice AB nB cB):=y6;have hC:w4.cell? ⟨ib,4,none⟩=some (.slice Ax nx cx):=y4;refine takeC (i:=0) (d:=some 70) (v:=?_) rfl rfl (by kernel_rfl) (by kernel_rfl) (by kernel_rfl) (by kernel_rfl) (fun _ _ _ h=>h) (Or.inl ⟨by rfl,?_⟩) hC ?_
 rotate_left
 ·(intro w hSw;(try dsimp only at hSw);go_simp;(try with_reducible rfl))
 (try simp only[Act.put,List.setIfInBounds_toArray,List.set_cons_zero,List.set_cons_succ])
 refine takeC (i:=1) (d:=some 71) (v:=?_) rfl rfl (by kernel_rfl) (by kernel_rfl) (by kernel_rfl) (by kernel_rfl) (fun _ _ _ h=>h) (Or.inl ⟨by rfl,?_⟩) hC ?_
 rotate_left
 ·(intro w hSw;(try dsimp only at hSw);go_simp;(try with_reducible rfl))
 (try simp only[Act.put,List.setIfInBounds_toArray,List.set_cons_zero,List.set_cons_succ])
 refine takeC (i:=2) (d:=some 72) (v:=?_) rfl rfl (by kernel_rfl) (by kernel_rfl) (by kernel_rfl) (by kernel_rfl) (fun _ _ _ h=>h) (Or.inl ⟨by rfl,?_⟩) hC ?_
 rotate_left
 ·(intro w hSw;(try dsimp only at hSw);go_simp;(try with_reducible rfl))
 (try simp only[Act.put,List.setIfInBounds_toArray,List.set_cons_zero,List.set_cons_succ])
 refine takeC (i:=3) (d:=some 73) (v:=?_) rfl rfl (by kernel_rfl) (by kernel_rfl) (by kernel_rfl) (by kernel_rfl) (fun _ _ _ h=>h) (Or.inl ⟨by rfl,?_⟩) hC ?_
 rotate_left
 ·(intro w hSw;(try dsimp only at hSw);go_simp;(try with_reducible rfl))
 (try simp only[Act.put,List.setIfInBounds_toArray,List.set_cons_zero,List.set_cons_succ])
 refine tfS [(4,74)] ?_;(iterate 1 (refine tfL (v:=?_) (hy:=Or.inl ⟨by rfl,?_⟩) (hS:=hF) (h:=?_);rotate_left;(· (intro w hSw;(try dsimp only at hSw);go_simp;(try with_reducible rfl)));(try simp only[Act.put,List.setIfInBounds_toArray,List.set_cons_zero,List.set_cons_succ])));refine tfE ?_;refine takeC (i:=5) (d:=some 75) (v:=?_) rfl rfl (by kernel_rfl) (by kernel_rfl) (by kernel_rfl) (by kernel_rfl) (fun _ _ _ h=>h) (Or.inl ⟨by rfl,?_⟩) hC ?_
 rotate_left
 ·(intro w hSw;(try dsimp only at hSw);go_simp;(try with_reducible rfl))
 (try simp only[Act.put,List.setIfInBounds_toArray,List.set_cons_zero,List.set_cons_succ])
 refine takeC (i:=6) (d:=some 76) (v:=?_) rfl rfl (by kernel_rfl) (by kernel_rfl) (by kernel_rfl) (by kernel_rfl) (fun _ _ _ h=>h) (Or.inl ⟨by rfl,?_⟩) hC ?_
 rotate_left
 ·(intro w hSw;(try dsimp only at hSw);go_simp;(try with_reducible rfl))
 (try simp only[Act.put,List.setIfInBounds_toArray,List.set_cons_zero,List.set_cons_succ])
 refine takeC (i:=7) (d:=some 77) (v:=?_) rfl rfl (by kernel_rfl) (by kernel_rfl) (by kernel_rfl) (by kernel_rfl) (fun _ _ _ h=>h) (Or.inl ⟨by rfl,?_⟩) hC ?_
 rotate_left
 ·(intro w hSw;(try dsimp only at hSw);go_simp;(try with_reducible rfl))
 (try simp only[Act.put,List.setIfInBounds_toArray,List.set_cons_zero,List.set_cons_succ])
 refine takeC (i:=8) (d:=some 78) (v:=?_) rfl rfl (by kernel_rfl) (by kernel_rfl) (by kernel_rfl) (by kernel_rfl) (fun _ _ _ h=>h) (Or.inl ⟨by rfl,?_⟩) hC ?_
 rotate_left
 ·(intro w hSw;(try dsimp only at hSw);go_simp;(try with_reducible rfl))
 (try simp only[Act.put,List.setIfInBounds_toArray,List.set_cons_zero,List.set_cons_succ])
 refine oneR (i:=9) (by kernel_rfl) rfl (fun K hK=>?_);refine step_appW (R:=RU8) (base:=T) rfl (.tmp 74) (.tmp 78) 39 rfl Tryz.underlying39 elem_U8 (by decide) rfl hM4H.out.oB Ax nx cx l rfl hx4H.out (fun h=>by omega) (fun _ _ _ _ h=>h) (by have:=hM4H.out.oB.len;simp only[maxLen];omega) (by have:=hM4H.out.oB.len;omega) (by have:=hM4H.out.lt;have:=hM4H.out.tb;omega) n' (by have:=hM4H.out.oB.len;omega) ?_;intro A6 c6 w6 ho6 hg6 hat6;have hgP4:=hM4H.out.oP.1.lt gP rfl;have hsb4:=hM4H.out.lt;have hgPsb:gP≠sb:=hM4H.out.nP gP rfl;have hnP:¬ some gP=(Value.slice AB nB cB).ownBlock:=fun e=>hM4H.out.dPB gP rfl e.symm;have hnsb:¬ some sb=(Value.slice AB nB cB).ownBlock:=fun e=>hM4H.out.nB sb e.symm rfl;have hni:¬ some ib=(Value.slice AB nB cB).ownBlock:=fun e=>hfiH.out.2.2.2.1 e.symm;have hnim:¬ some (ib+1)=(Value.slice AB nB cB).ownBlock:=fun e=>hfmH.out.2.2.2.1 e.symm;have hgPi:gP≠ib:=fun e=>hfiH.out.2.2.1 (by rw[← e];rfl);have hgPim:gP≠ib+1:=fun e=>hfmH.out.2.2.1 (by rw[← e];rfl);have him4:ib+1<w4.heap.size:=hzm4H.out.lt (by simp[zmV]);have hF6:w6.cell? ⟨gP,2,none⟩=some (.slice AB nB cB):=hg6.cell y6 hnP;have hC6:w6.cell? ⟨ib,4,none⟩=some (.slice Ax nx cx):=hg6.cell y4 hni;have hblk4:=own_block hM4H.out.oP (by decide);have hfz6:w6.frozen? ⟨gP,2,none⟩=false:=by
  obtain⟨g',cur,hg',_,hcur,_⟩:=hblk4;obtain rfl:gP=g':=by injection hg' with h;injection h
  exact frozen_of_row w6 gP _ cur _ ((hg6.block gP hgP4.2 hnP).trans hcur)
 have hM7:=hM4H.out.bytes ho6 hg6 hat6;have hgs:=grown_setc w6 ⟨gP,2,none⟩ (.slice A6 n' c6);have hsz6:=hg6.size;obtain⟨W7,hW7⟩:∃ W,w6.setCell ⟨gP,2,none⟩ (.slice A6 n' c6)=W:=⟨_,rfl⟩;rw[hW7]at hM7 hgs;have hgs':∀ {k:Nat},gP≠k→¬ some k=some gP:=fun h e=>h (by injection e with e;exact e.symm);have z1:W7.cell? ⟨ib,1,none⟩=some (.string d):=hgs.cell (hg6.cell y1 hni) (hgs' hgPi);have z4:W7.cell? ⟨ib,4,none⟩=some (.slice Ax nx cx):=hgs.cell hC6 (hgs' hgPi);have z5:W7.cell? ⟨gP,1,none⟩=some (.int .i64 (s:Nat)):=by
  obtain⟨_,t,_⟩:=cells_PaT hM7.oP.slAt (k:=0) rfl
  simpa using t
 have z6:W7.cell? ⟨gP,2,none⟩=some (.slice A6 n' c6):=by
  obtain⟨_,_,t⟩:=cells_PaT hM7.oP.slAt (k:=0) rfl
  simpa using t
 have z13:W7.cell? ⟨sb,1,none⟩=some (.slice (some ⟨gP,0,none⟩) 1 cP):=(hM7.blk 1 _ rfl).1;have hzm7:Blk W7 (ib+1) zmV:=(hzm4H.out.keep (hg6.block (ib+1) him4 hnim)).keep (hgs.block (ib+1) (by omega) (hgs' hgPim));have hkp7:Kp (SnS sb vD (.slice (some ⟨gP,0,none⟩) 1 cP) (.slice AB nB cB)) w W7:=by
  have k1:Kp (SnS sb vD (.slice (some ⟨gP,0,none⟩) 1 cP) (.slice AB nB cB)) w w4:=Kp.of_below (hb2H.out.trans (hb24H.out.mono hb2H.out.size));exact(k1.trans (Kp.of_grown (S:=SnS sb vD (.slice (some ⟨gP,0,none⟩) 1 cP) (.slice AB nB cB)) hg6 fun k hk=>.inr (.inr (.inr hk)))).trans (Kp.of_grown (S:=SnS sb vD (.slice (some ⟨gP,0,none⟩) 1 cP) (.slice AB nB cB)) hgs fun k hk=>.inr (.inr (.inl hk)))
 have hTw:T≤w.heap.size:=by have:=hMH.out.lt;have:=hMH.out.tb;omega
 have hsz2:=hb2H.out.size;have hbT7:Below T w W7:=(((hb2H.out.mono hTw).trans (hb24H.out.mono (by omega))).grown hg6 (by have:=hb24H.out.size;omega) fun g hg=>(hM4H.out.oB.1.lt g hg).1).grown hgs (by have:=hb24H.out.size;omega) fun g hg=>by injection hg with hg;have:=hgP4.1;have e2:gP=g:=hg;omega
 have hvB7:∀ g,(Value.slice A6 n' c6).ownBlock=some g→(Value.slice AB nB cB).ownBlock=some g∨ib≤g:=fun g hg=>by
  rcases hat6 with h | h
  ·exact .inl (h ▸ hg)
  ·rw[h]at hg;injection hg with hg;exact .inr (by omega)
 have hnB7:(Value.slice A6 n' c6).ownBlock≠some (ib+1):=fun e=>by
  rcases hat6 with h | h
  ·exact hfmH.out.2.2.2.1 (h ▸ e)
  ·rw[h]at e;injection e with e;omega
 clear ho6 hat6 hblk4 hgs' hgs;obtain⟨hM7H,hzm7H,hkp7H,hbT7H,hvB7H,hnB7H,hg6H⟩:=hq2 hM7 (hq2 hzm7 (hqb hkp7 hbT7 hvB7 hnB7 (Lib.hid hg6)));clear hM7 hzm7 hkp7 hbT7 hvB7 hnB7 hg6;refine hK.out _ _ ⟨fun _ _ _=>hF6,fun _ _=>hC6⟩ ?_;clear hK K
 (try simp only[Act.put,List.setIfInBounds_toArray,List.set_cons_zero,List.set_cons_succ])
 clear hC hF;have hC:=hC6;refine takeC (i:=10) (d:=some 80) (v:=?_) rfl rfl (by kernel_rfl) (by kernel_rfl) (by kernel_rfl) (by kernel_rfl) (fun _ _ _ h=>h) (Or.inl ⟨by rfl,?_⟩) hC ?_
 rotate_left
 ·(intro w hSw;(try dsimp only at hSw);go_simp;(try with_reducible rfl))
 (try simp only[Act.put,List.setIfInBounds_toArray,List.set_cons_zero,List.set_cons_succ])
 refine takeC (i:=11) (d:=some 81) (v:=?_) rfl rfl (by kernel_rfl) (by kernel_rfl) (by kernel_rfl) (by kernel_rfl) (fun _ _ _ h=>h) (Or.inl ⟨by rfl,?_⟩) hC ?_
 rotate_left
 ·(intro w hSw;(try dsimp only at hSw);go_simp;(try with_reducible rfl))
 (try simp only[Act.put,List.setIfInBounds_toArray,List.set_cons_zero,List.set_cons_succ])
 refine oneR (i:=12) (by kernel_rfl) rfl (fun K hK=>?_);go_simp
 try rw[hW7]
 refine hK.out _ _ ⟨fun _ h=>absurd rfl h,fun _ _=>z4⟩ ?_;clear hK K
 (try simp only[Act.put,List.setIfInBounds_toArray,List.set_cons_zero,List.set_cons_succ])
 refine doneR (by kernel_rfl) ?_ _;clear hC hC6 hF6 hfz6 hW7 y1 y2 y4 y5 y6;go_wp2_with fail;refine startR (R:=Rk (fun _=>True) (fun V=>V.cell? ⟨gP,1,none⟩=some (.int .i64 (s:Nat))∧V.cell? ⟨gP,2,none⟩=some (.slice A6 n' c6)) 99 99) (by kernel_rfl) ?_;have hC:W7.drew.cell? ⟨gP,1,none⟩=some (.int .i64 (s:Nat))∧W7.drew.cell? ⟨gP,2,none⟩=some (.slice A6 n' c6):=⟨z5,z6⟩;refine takeC (i:=0) (d:=some 82) (v:=?_) rfl rfl (by kernel_rfl) (by kernel_rfl) (by kernel_rfl) (by kernel_rfl) (fun _ _ _ h=>h) (Or.inl ⟨by rfl,?_⟩) hC ?_
 rotate_left
 ·(intro w hSw;(try dsimp only at hSw);go_simp;(try with_reducible rfl))
 (try simp only[Act.put,List.setIfInBounds_toArray,List.set_cons_zero,List.set_cons_succ])
 refine takeC (i:=1) (d:=some 83) (v:=?_) rfl rfl (by kernel_rfl) (by kernel_rfl) (by kernel_rfl) (by kernel_rfl) (fun _ _ _ h=>h) (Or.inl ⟨by rfl,?_⟩) hC ?_
 rotate_left
 ·(intro w hSw;(try dsimp only at hSw);go_simp;(try with_reducible rfl))
 (try simp only[Act.put,List.setIfInBounds_toArray,List.set_cons_zero,List.set_cons_succ])
 refine takeC (i:=2) (d:=some 84) (v:=?_) rfl rfl (by kernel_rfl) (by kernel_rfl) (by kernel_rfl) (by kernel_rfl) (fun _ _ _ h=>h) (Or.inl ⟨by rfl,?_⟩) hC ?_
 rotate_left
 ·(intro w hSw;(try dsimp only at hSw);go_simp;(try with_reducible rfl))
 (try simp only[Act.put,List.setIfInBounds_toArray,List.set_cons_zero,List.set_cons_succ])
 refine takeC (i:=3) (d:=some 85) (v:=?_) rfl rfl (by kernel_rfl) (by kernel_rfl) (by kernel_rfl) (by kernel_rfl) (fun _ _ _ h=>h) (Or.inl ⟨by rfl,?_⟩) hC ?_
 rotate_left
 ·(intro w hSw;(try dsimp only at hSw);go_simp;(try with_reducible rfl))
 (try simp only[Act.put,List.setIfInBounds_toArray,List.set_cons_zero,List.set_cons_succ])
 refine takeC (i:=4) (d:=some 86) (v:=?_) rfl rfl (by kernel_rfl) (by kernel_rfl) (by kernel_rfl) (by kernel_rfl) (fun _ _ _ h=>h) (Or.inl ⟨by rfl,?_⟩) hC ?_
 rotate_left
 ·(intro w hSw;(try dsimp only at hSw);go_simp;(try with_reducible rfl))
 (try simp only[Act.put,List.setIfInBounds_toArray,List.set_cons_zero,List.set_cons_succ])
 refine takeC (i:=5) (d:=some 87) (v:=?_) rfl rfl (by kernel_rfl) (by kernel_rfl) (by kernel_rfl) (by kernel_rfl) (fun _ _ _ h=>h) (Or.inl ⟨by rfl,?_⟩) hC ?_
 rotate_left
 ·(intro w hSw;(try dsimp only at hSw);go_simp;(try with_reducible rfl))
 (try simp only[Act.put,List.setIfInBounds_toArray,List.set_cons_zero,List.set_cons_succ])
 refine takeC (i:=6) (d:=some 88) (v:=?_) rfl rfl (by kernel_rfl) (by kernel_rfl) (by kernel_rfl) (by kernel_rfl) (fun _ _ _ h=>h) (Or.inl ⟨by rfl,?_⟩) hC ?_
 rotate_left
 ·(intro w hSw;(try dsimp only at hSw);go_simp;(try with_reducible rfl))
 (try simp only[Act.put,List.setIfInBounds_toArray,List.set_cons_zero,List.set_cons_succ])
 refine takeC (i:=7) (d:=some 89) (v:=?_) rfl rfl (by kernel_rfl) (by kernel_rfl) (by kernel_rfl) (by kernel_rfl) (fun _ _ _ h=>h) (Or.inl ⟨by rfl,?_⟩) hC ?_
 rotate_left
 ·(intro w hSw;(try dsimp only at hSw);go_simp;(try with_reducible rfl))
 (try simp only[Act.put,List.setIfInBounds_toArray,List.set_cons_zero,List.set_cons_succ])
 refine takeC (i:=8) (d:=some 90) (v:=?_) rfl rfl (by kernel_rfl) (by kernel_rfl) (by kernel_rfl) (by kernel_rfl) (fun _ _ _ h=>h) (Or.inl ⟨by rfl,?_⟩) hC ?_
 rotate_left
 ·(intro w hSw;(try dsimp only at hSw);go_simp;(try with_reducible rfl))
 (try simp only[Act.put,List.setIfInBounds_toArray,List.set_cons_zero,List.set_cons_succ])
 refine takeC (i:=9) (d:=some 91) (v:=?_) rfl rfl (by kernel_rfl) (by kernel_rfl) (by kernel_rfl) (by kernel_rfl) (fun _ _ _ h=>h) (Or.inl ⟨by rfl,?_⟩) hC ?_
 rotate_left
 ·(intro w hSw;(try dsimp only at hSw);go_simp;(try with_reducible rfl))
 (try simp only[Act.put,List.setIfInBounds_toArray,List.set_cons_zero,List.set_cons_succ])
 refine doneR (by kernel_rfl) ?_ _;clear hC;have hlt9:(n':Int)<(s:Int):=by omega
 go_wp2_with fail;obtain⟨w8,hw8⟩:∃ W,W7.drew=W:=⟨_,rfl⟩;have hb78:Below W7.heap.size W7 w8:=by rw[← hw8];exact(Below.refl _ _).drew
 rw[hw8];have hM8:=hM7H.out.below hb78;have hzd:Blk w8.drew (ib+1) zmV:=blk_below (blk_below hzm7H.out (by simp[zmV]) hb78) (by simp[zmV]) (Below.refl _ _).drew;have hM8d:=hM8.below (Below.refl _ _).drew;have hbT8:Below T w w8.drew:=(hbT7H.out.trans (hb78.mono (by have:=hM7H.out.lt;have:=hM7H.out.tb;omega))).drew;have hkp8:Kp (SnS sb vD (.slice (some ⟨gP,0,none⟩) 1 cP) (.slice AB nB cB)) w w8.drew:=(hkp7H.out.trans (Kp.of_below hb78)).drew;replace z1:=keepC hb78 z1;replace z6:=keepC hb78 z6;clear hw8;have hgm:=msg_grown w8.drew (ib+1) (.int .i64 3) (.string d) (.int .i64 (n':Nat)) (.int .i64 0) (.slice none 0 0);have hzm9:=msg_set hzd (.int .i64 3) (.string d) (.int .i64 (n':Nat)) (.int .i64 0) (.slice none 0 0);obtain⟨W9,hW9⟩:∃ W,(((((w8.drew.setCell ⟨ib+1,0,none⟩ (.int .i64 3)).setCell ⟨ib+1,1,none⟩ (.string d)).setCell ⟨ib+1,2,none⟩ (.int .i64 (n':Nat))).setCell ⟨ib+1,3,none⟩ (.int .i64 0)).setCell ⟨ib+1,4,none⟩ (.slice none 0 0))=W:=⟨_,rfl⟩;rw[hW9]at hgm hzm9;have hM9:=hM8d.grown hgm hfmH.out.1 hfmH.out.2.1 hfmH.out.2.2.1 hnB7H.out hfmH.out.2.2.2.2;have hC9:W9.cell? ⟨ib,1,none⟩=some (.string d)∧W9.cell? ⟨gP,2,none⟩=some (.slice A6 n' c6):=⟨grown_keep hgm z1 (by show ib≠ib+1;omega),grown_keep hgm z6 hgPim⟩;have hbT9:Below T w W9:=hbT8.grown hgm (by have:=hM8d.lt;have:=hM8d.tb;omega) fun g hg=>by injection hg with hg;omega
 have hkp9:=hkp8.old (Kp.of_grown (S:=fun k=>k=ib+1) hgm fun k hk=>by injection hk with hk;exact hk.symm) (fun i hi h9=>by omega);have R:=hZ'H.out (.returned (.tuple #[.agg #[.int .i64 3,.string d,.int .i64 (n':Nat),.int .i64 0,.slice none 0 0],.int .i64 0])) W9 ⟨A6,c6,(fun g hg=>(hvB7H.out g hg).imp id fun h=>by omega),rfl,hbT9,hkp9,hM9⟩;clear hgm hM9 hbT9 hkp9 hM8d hM8 hbT8 hkp8;obtain⟨hzm9H,hzdH,RH⟩:=hq2 hzm9 (hq2 hzd (Lib.hid R));clear hzm9 hzd R;refine startR (R:=Rk (fun _=>True) (fun V=>V.cell? ⟨ib,1,none⟩=some (.string d)∧V.cell? ⟨gP,2,none⟩=some (.slice A6 n' c6)) 99 99) (by kernel_rfl) ?_;have hC:w8.drew.cell? ⟨ib,1,none⟩=some (.string d)∧w8.drew.cell? ⟨gP,2,none⟩=some (.slice A6 n' c6):=⟨z1,z6⟩;refine takeC (i:=0) (d:=some 92) (v:=?_) rfl rfl (by kernel_rfl) (by kernel_rfl) (by kernel_rfl) (by kernel_rfl) (fun _ _ _ h=>h) (Or.inl ⟨by rfl,?_⟩) hC ?_
 rotate_left
 ·(intro w hSw;(try dsimp only at hSw);go_simp;(try with_reducible rfl))
 (try simp only[Act.put,List.setIfInBounds_toArray,List.set_cons_zero,List.set_cons_succ])
 refine takeC (i:=1) (d:=some 93) (v:=?_) rfl rfl (by kernel_rfl) (by kernel_rfl) (by kernel_rfl) (by kernel_rfl) (fun _ _ _ h=>h) (Or.inl ⟨by rfl,?_⟩) hC ?_
 rotate_left
 ·(intro w hSw;(try dsimp only at hSw);go_simp;(try with_reducible rfl))
 (try simp only[Act.put,List.setIfInBounds_toArray,List.set_cons_zero,List.set_cons_succ])
 refine takeC (i:=2) (d:=some 94) (v:=?_) rfl rfl (by kernel_rfl) (by kernel_rfl) (by kernel_rfl) (by kernel_rfl) (fun _ _ _ h=>h) (Or.inl ⟨by rfl,?_⟩) hC ?_
 rotate_left
 ·(intro w hSw;(try dsimp only at hSw);go_simp;(try with_reducible rfl))
 (try simp only[Act.put,List.setIfInBounds_toArray,List.set_cons_zero,List.set_cons_succ])
 refine takeC (i:=3) (d:=some 95) (v:=?_) rfl rfl (by kernel_rfl) (by kernel_rfl) (by kernel_rfl) (by kernel_rfl) (fun _ _ _ h=>h) (Or.inl ⟨by rfl,?_⟩) hC ?_
 rotate_left
 ·(intro w hSw;(try dsimp only at hSw);go_simp;(try with_reducible rfl))
 (try simp only[Act.put,List.setIfInBounds_toArray,List.set_cons_zero,List.set_cons_succ])
 refine takeC (i:=4) (d:=some 96) (v:=?_) rfl rfl (by kernel_rfl) (by kernel_rfl) (by kernel_rfl) (by kernel_rfl) (fun _ _ _ h=>h) (Or.inl ⟨by rfl,?_⟩) hC ?_
 rotate_left
 ·(intro w hSw;(try dsimp only at hSw);go_simp;(try with_reducible rfl))
 (try simp only[Act.put,List.setIfInBounds_toArray,List.set_cons_zero,List.set_cons_succ])
 refine takeC (i:=5) (d:=some 97) (v:=?_) rfl rfl (by kernel_rfl) (by kernel_rfl) (by kernel_rfl) (by kernel_rfl) (fun _ _ _ h=>h) (Or.inl ⟨by rfl,?_⟩) hC ?_
 rotate_left
 ·(intro w hSw;(try dsimp only at hSw);go_simp;(try with_reducible rfl))
 (try simp only[Act.put,List.setIfInBounds_toArray,List.set_cons_zero,List.set_cons_succ])
 refine takeC (i:=6) (d:=some 98) (v:=?_) rfl rfl (by kernel_rfl) (by kernel_rfl) (by kernel_rfl) (by kernel_rfl) (fun _ _ _ h=>h) (Or.inl ⟨by rfl,?_⟩) hC ?_
 rotate_left
 ·(intro w hSw;(try dsimp only at hSw);go_simp;(try with_reducible rfl))
 (try simp only[Act.put,List.setIfInBounds_toArray,List.set_cons_zero,List.set_cons_succ])
 refine takeC (i:=7) (d:=some 99) (v:=?_) rfl rfl (by kernel_rfl) (by kernel_rfl) (by kernel_rfl) (by kernel_rfl) (fun _ _ _ h=>h) (Or.inl ⟨by rfl,?_⟩) hC ?_
 rotate_left
 ·(intro w hSw;(try dsimp only at hSw);go_simp;(try with_reducible rfl))
 (try simp only[Act.put,List.setIfInBounds_toArray,List.set_cons_zero,List.set_cons_succ])
 refine oneR (i:=8) (by kernel_rfl) rfl (fun K hK=>?_);refine step_msg hzdH.out rfl (.tmp 6) (.tmp 99) rfl rfl (.int .i64 3) (.string d) (.int .i64 (n':Nat)) (.int .i64 0) (.slice none 0 0) rfl rfl rfl rfl rfl rfl ?_;rw[hW9];clear hW9;refine hK.out _ _ ⟨fun _ _ _=>trivial,fun _ _=>hC9⟩ ?_;clear hK K
 (try simp only[Act.put,List.setIfInBounds_toArray,List.set_cons_zero,List.set_cons_succ])
 clear hC;have hC:=hC9;refine takeC (i:=9) (d:=some 7) (v:=?_) rfl rfl (by kernel_rfl) (by kernel_rfl) (by kernel_rfl) (by kernel_rfl) (fun _ _ _ h=>h) (Or.inl ⟨by rfl,?_⟩) hC ?_
 rotate_left
 ·(intro w hSw;(try dsimp only at hSw);go_simp;(try with_reducible rfl))
 (try simp only[Act.put,List.setIfInBounds_toArray,List.set_cons_zero,List.set_cons_succ])
 refine doneR (by kernel_rfl) ?_ _;clear hC hC9;obtain⟨t0,-⟩:=hzm9H.out 0 _ rfl;obtain⟨t1,-⟩:=hzm9H.out 1 _ rfl;obtain⟨t2,-⟩:=hzm9H.out 2 _ rfl;obtain⟨t3,-⟩:=hzm9H.out 3 _ rfl;obtain⟨t4,-⟩:=hzm9H.out 4 _ rfl;go_wp2_with fail;exact bodyPost_ret (v:=.tuple #[.agg #[.int .i64 3,.string d,.int .i64 (n':Nat),.int .i64 0,.slice none 0 0],.int .i64 0]) (by simp[results,Tryz.results100,go_sem,t0,t1,t2,t3,t4]) rfl RH.out
theorem data_last (T sb:Nat) (rest:List Value) (vD vP:Value) (AB Ax:Option Addr) (nB cB nx cx:Nat) (D:List ObT) (d:ByteArray) (s:Nat) (bs l:List UInt8) (w:World) (hM:SnM T sb rest vD vP (.slice AB nB cB) D [⟨d,s,⟨AB,nB,cB,bs⟩⟩] bs w) (hx:(RSl RU8).ok w ⟨Ax,nx,cx,l⟩) (hnx:0<nx) (n':Nat) (hn':nB+nx=n') (hle0:n'≤s) (hs1:s≤100000) (heq':n'=s) (hd:digF (bs++l)=d) (hDl:D.length<4000) (hs:D.Pairwise fun a b=>cmpS a.dig b.dig = -1) (hno:∀ x∈D,x.dig≠d) :
  Calls Tryz.prog 100 #[.pointer (some ⟨sb,0,none⟩),.int .i64 0,msgV 2 d nB 0 (.slice Ax nx cx)] w (DlAns T sb rest vD vP (.slice AB nB cB) D d (bs++l) w):=by
 obtain⟨Z,hZ⟩:∃ Z,DlAns T sb rest vD vP (.slice AB nB cB) D d (bs++l) w=Z:=⟨_,rfl⟩;have hZ':∀ e W,DlAns T sb rest vD vP (.slice AB nB cB) D d (bs++l) w e W→Z e W:=fun e W h=>by rw[← hZ];exact h
 rw[hZ];clear hZ;obtain⟨hZ'H,hdH,hnoH,hsH,heq'H⟩:=hqb hZ' hd hno hs (Lib.hid heq');clear hZ' hd hno hs heq';unfold msgV;obtain⟨W2,hW2⟩:∃ W,(w.alloc (.cells #[.int .i64 2,.string d,.int .i64 nB,.int .i64 0,.slice Ax nx cx] 131)).alloc (.cells #[.int .i64 0,.string ⟨#[]⟩,.int .i64 0,.int .i64 0,.slice none 0 0] 131)=W:=⟨_,rfl⟩;have hb2:Below w.heap.size w W2:=by rw[← hW2];exact((Below.refl _ _).alloc (Nat.le_refl _) _).alloc (by simp) _
 have hzi:Blk W2 w.heap.size (msgL 2 d nB 0 (.slice Ax nx cx)):=by
  rw[← hW2];unfold msgL;exact blk_below (blk_new w [.int .i64 2,.string d,.int .i64 nB,.int .i64 0,.slice Ax nx cx] 131) (by simp) ((Below.refl _ _).alloc (Nat.le_refl _) _)
 have hzm:Blk W2 (w.heap.size+1) zmV:=by
  rw[← hW2];have:=blk_new (w.alloc (.cells #[.int .i64 2,.string d,.int .i64 nB,.int .i64 0,.slice Ax nx cx] 131)) [.int .i64 0,.string ⟨#[]⟩,.int .i64 0,.int .i64 0,.slice none 0 0] 131
  simpa[zmV]using this
 have hM2:=hM.below hb2;obtain⟨AP,cP,hvP⟩:=hM.oP.form;replace hvP:vP = .slice AP 1 cP:=hvP;subst hvP;obtain⟨gP,hAP⟩:=own_form hM.oP (by decide);subst hAP;obtain⟨vD0,hvD⟩:∃ v,vD=v:=⟨_,rfl⟩;obtain⟨ib,hib⟩:∃ b,w.heap.size=b:=⟨_,rfl⟩;have hfi:=hM.fresh (m:=ib) (by omega);have hfm:=hM.fresh (m:=ib+1) (by omega);rw[hib]at hzi hzm;obtain⟨i1,-⟩:=hzi 1 _ rfl;obtain⟨i2,-⟩:=hzi 2 _ rfl;obtain⟨i4,-⟩:=hzi 4 _ rfl;obtain⟨r1,-⟩:=hM2.blk 1 _ rfl;obtain⟨p0,p1,p2⟩:=cells_PaT hM2.oP.slAt (k:=0) rfl;have p1:W2.cell? ⟨gP,1,none⟩=some (.int .i64 (s:Nat)):=by simpa using p1
 have p2:W2.cell? ⟨gP,2,none⟩=some (.slice AB nB cB):=by simpa using p2
 clear p0;have hnc:nB≤cB:=hM.oB.cap_le;have hsz:∀ W,(sizeOf (Tryz.prog.elem 39)).run Tryz.prog W = .ok 1 W:=fun W=>by kernel_rfl
 have hsA:∀ W,(Instr.slice 39 (.slice Ax nx cx) none (some (.int .i64 0)) none).run Tryz.prog W = .ok (.slice Ax 0 cx) W:=fun W=>run_slTo 39 (by kernel_rfl) 1 hsz _ _ _ 0 (by omega) W;obtain⟨A5,hA5⟩:∃ A5,(if cB=nB then AB else Option.map (fun x=>x.add nB) AB)=A5:=⟨_,rfl⟩;have hwn:IntKind.i64.wrap (nB:Int)=(nB:Int):=by rw[IntKind.wrap_i64];omega
 have hw63:IntKind.i64.wrap ((nB:Int)+(nx:Int))=(nB:Int)+(nx:Int):=by rw[IntKind.wrap_i64];omega
 have hncI:(nB:Int)≤(cB:Int):=by omega
 have hsC:∀ W,(Instr.slice 39 (.slice Ax nx cx) (some (.int .i64 0)) none none).run Tryz.prog W = .ok (.slice Ax nx cx) W:=fun W=>by
  rw[run_slice_l (P:=Tryz.prog) W 39 Ax nx cx (by kernel_rfl) .i64 0 (by omega) (by omega),hsz W];have e:Ax.map (·.add 0)=Ax:=by cases Ax <;> simp[Addr.add]
  simp[Result.andThen,sliced,e]
 have hsl0:∀ (A:Option Addr) (W:World),SlAt RU8 W A 0 []:=fun A W=>⟨rfl,fun h=>absurd h (by decide),fun x h=>by cases h⟩;have heq:=fun W=>equalU_any Ax A5 0 cx (cB-nB) [] W (hsl0 _ _) (hsl0 _ _) (by decide);have hmin:min (nx:Int) (IntKind.i64.wrap 0)=0:=by rw[show IntKind.i64.wrap 0=0 from rfl];omega
 have hle:¬ (s:Int)<(nB:Int)+(nx:Int):=by omega
 have h63:¬ 9223372036854775807<(nB:Int)+(nx:Int):=by omega
 have hxs:SlAt RU8 W2 Ax nx l:=hx.1.below hb2;clear hsl0;obtain⟨hMH,hb2H,hziH,hzmH,hM2H,hfiH,hfmH,hvDH,heqH,hxsH,hxH⟩:=hq2 hM (hq2 hb2 (hqc hzi hzm hM2 hfi hfm hvD heq hxs (Lib.hid hx)));clear hM hb2 hzi hzm hM2 hfi hfm hvD heq hxs hx;go_enter Tryz.func100,Tryz.ntmps100;go_wp2_with fail;refine startR (R:=Rk (fun _=>True) (fun V=>V.cell? ⟨ib,1,none⟩=some (.string d)∧V.cell? ⟨ib,2,none⟩=some (.int .i64 (nB:Nat))∧V.cell? ⟨ib,4,none⟩=some (.slice Ax nx cx)∧V.cell? ⟨gP,1,none⟩=some (.int .i64 (s:Nat))∧V.cell? ⟨gP,2,none⟩=some (.slice AB nB cB)) 99 99) (by kernel_rfl) ?_;have hC:W2.drew.cell? ⟨ib,1,none⟩=some (.string d)∧W2.drew.cell? ⟨ib,2,none⟩=some (.int .i64 (nB:Nat))∧W2.drew.cell? ⟨ib,4,none⟩=some (.slice Ax nx cx)∧W2.drew.cell? ⟨gP,1,none⟩=some (.int .i64 (s:Nat))∧W2.drew.cell? ⟨gP,2,none⟩=some (.slice AB nB cB):=⟨i1,i2,i4,p1,p2⟩;refine takeC (i:=0) (d:=some 17) (v:=?_) rfl rfl (by kernel_rfl) (by kernel_rfl) (by kernel_rfl) (by kernel_rfl) (fun _ _ _ h=>h) (Or.inl ⟨by rfl,?_⟩) hC ?_
 rotate_left
 ·(intro w hSw;(try dsimp only at hSw);go_simp;(try with_reducible rfl))
 (try simp only[Act.put,List.setIfInBounds_toArray,List.set_cons_zero,List.set_cons_succ])
 refine takeC (i:=1) (d:=some 18) (v:=?_) rfl rfl (by kernel_rfl) (by kernel_rfl) (by kernel_rfl) (by kernel_rfl) (fun _ _ _ h=>h) (Or.inl ⟨by rfl,?_⟩) hC ?_
 rotate_left
 ·(intro w hSw;(try dsimp only at hSw);go_simp;(try with_reducible rfl))
 (try simp only[Act.put,List.setIfInBounds_toArray,List.set_cons_zero,List.set_cons_succ])
 refine takeC (i:=2) (d:=some 19) (v:=?_) rfl rfl (by kernel_rfl) (by kernel_rfl) (by kernel_rfl) (by kernel_rfl) (fun _ _ _ h=>h) (Or.inl ⟨by rfl,?_⟩) hC ?_
 rotate_left
 ·(intro w hSw;(try dsimp only at hSw);go_simp;(try with_reducible rfl))
 (try simp only[Act.put,List.setIfInBounds_toArray,List.set_cons_zero,List.set_cons_succ])
 refine takeC (i:=3) (d:=some 20) (v:=?_) rfl rfl (by kernel_rfl) (by kernel_rfl) (by kernel_rfl) (by kernel_rfl) (fun _ _ _ h=>h) (Or.inl ⟨by rfl,?_⟩) hC ?_
 rotate_left
 ·(intro w hSw;(try dsimp only at hSw);go_simp;(try with_reducible rfl))
 (try simp only[Act.put,List.setIfInBounds_toArray,List.set_cons_zero,List.set_cons_succ])
 refine takeC (i:=4) (d:=some 21) (v:=?_) rfl rfl (by kernel_rfl) (by kernel_rfl) (by kernel_rfl) (by kernel_rfl) (fun _ _ _ h=>h) (Or.inl ⟨by rfl,?_⟩) hC ?_
 rotate_left
 ·(intro w hSw;(try dsimp only at hSw);go_simp;(try with_reducible rfl))
 (try simp only[Act.put,List.setIfInBounds_toArray,List.set_cons_zero,List.set_cons_succ])
 refine takeC (i:=5) (d:=some 22) (v:=?_) rfl rfl (by kernel_rfl) (by kernel_rfl) (by kernel_rfl) (by kernel_rfl) (fun _ _ _ h=>h) (Or.inl ⟨by rfl,?_⟩) hC ?_
 rotate_left
 ·(intro w hSw;(try dsimp only at hSw);go_simp;(try with_reducible rfl))
 (try simp only[Act.put,List.setIfInBounds_toArray,List.set_cons_zero,List.set_cons_succ])
 refine takeC (i:=6) (d:=some 23) (v:=?_) rfl rfl (by kernel_rfl) (by kernel_rfl) (by kernel_rfl) (by kernel_rfl) (fun _ _ _ h=>h) (Or.inl ⟨by rfl,?_⟩) hC ?_
 rotate_left
 ·(intro w hSw;(try dsimp only at hSw);go_simp;(try with_reducible rfl))
 (try simp only[Act.put,List.setIfInBounds_toArray,List.set_cons_zero,List.set_cons_succ])
 refine takeC (i:=7) (d:=some 24) (v:=?_) rfl rfl (by kernel_rfl) (by kernel_rfl) (by kernel_rfl) (by kernel_rfl) (fun _ _ _ h=>h) (Or.inl ⟨by rfl,?_⟩) hC ?_
 rotate_left
 ·(intro w hSw;(try dsimp only at hSw);go_simp;(try with_reducible rfl))
 (try simp only[Act.put,List.setIfInBounds_toArray,List.set_cons_zero,List.set_cons_succ])
 refine doneR (by kernel_rfl) ?_ _;clear hC;go_wp2_with fail;refine startR (R:=Rk (fun _=>True) (fun V=>V.cell? ⟨ib,1,none⟩=some (.string d)∧V.cell? ⟨ib,2,none⟩=some (.int .i64 (nB:Nat))∧V.cell? ⟨ib,4,none⟩=some (.slice Ax nx cx)∧V.cell? ⟨gP,1,none⟩=some (.int .i64 (s:Nat))∧V.cell? ⟨gP,2,none⟩=some (.slice AB nB cB)) 99 99) (by kernel_rfl) ?_;have hC:W2.drew.drew.cell? ⟨ib,1,none⟩=some (.string d)∧W2.drew.drew.cell? ⟨ib,2,none⟩=some (.int .i64 (nB:Nat))∧W2.drew.drew.cell? ⟨ib,4,none⟩=some (.slice Ax nx cx)∧W2.drew.drew.cell? ⟨gP,1,none⟩=some (.int .i64 (s:Nat))∧W2.drew.drew.cell? ⟨gP,2,none⟩=some (.slice AB nB cB):=⟨i1,i2,i4,p1,p2⟩;refine takeC (i:=0) (d:=some 26) (v:=?_) rfl rfl (by kernel_rfl) (by kernel_rfl) (by kernel_rfl) (by kernel_rfl) (fun _ _ _ h=>h) (Or.inl ⟨by rfl,?_⟩) hC ?_
 rotate_left
 ·(intro w hSw;(try dsimp only at hSw);go_simp;(try with_reducible rfl))
 (try simp only[Act.put,List.setIfInBounds_toArray,List.set_cons_zero,List.set_cons_succ])
 refine takeC (i:=1) (d:=some 27) (v:=?_) rfl rfl (by kernel_rfl) (by kernel_rfl) (by kernel_rfl) (by kernel_rfl) (fun _ _ _ h=>h) (Or.inl ⟨by rfl,?_⟩) hC ?_
 rotate_left
 ·(intro w hSw;(try dsimp only at hSw);go_simp;(try with_reducible rfl))
 (try simp only[Act.put,List.setIfInBounds_toArray,List.set_cons_zero,List.set_cons_succ])
 refine takeC (i:=2) (d:=some 28) (v:=?_) rfl rfl (by kernel_rfl) (by kernel_rfl) (by kernel_rfl) (by kernel_rfl) (fun _ _ _ h=>h) (Or.inl ⟨by rfl,?_⟩) hC ?_
 rotate_left
 ·(intro w hSw;(try dsimp only at hSw);go_simp;(try with_reducible rfl))
 (try simp only[Act.put,List.setIfInBounds_toArray,List.set_cons_zero,List.set_cons_succ])
 refine takeC (i:=3) (d:=some 29) (v:=?_) rfl rfl (by kernel_rfl) (by kernel_rfl) (by kernel_rfl) (by kernel_rfl) (fun _ _ _ h=>h) (Or.inl ⟨by rfl,?_⟩) hC ?_
 rotate_left
 ·(intro w hSw;(try dsimp only at hSw);go_simp;(try with_reducible rfl))
 (try simp only[Act.put,List.setIfInBounds_toArray,List.set_cons_zero,List.set_cons_succ])
 refine takeC (i:=4) (d:=some 30) (v:=?_) rfl rfl (by kernel_rfl) (by kernel_rfl) (by kernel_rfl) (by kernel_rfl) (fun _ _ _ h=>h) (Or.inl ⟨by rfl,?_⟩) hC ?_
 rotate_left
 ·(intro w hSw;(try dsimp only at hSw);go_simp;(try with_reducible rfl))
 (try simp only[Act.put,List.setIfInBounds_toArray,List.set_cons_zero,List.set_cons_succ])
 refine takeC (i:=5) (d:=some 31) (v:=?_) rfl rfl (by kernel_rfl) (by kernel_rfl) (by kernel_rfl) (by kernel_rfl) (fun _ _ _ h=>h) (Or.inl ⟨by rfl,?_⟩) hC ?_
 rotate_left
 ·(intro w hSw;(try dsimp only at hSw);go_simp;(try with_reducible rfl))
 (try simp only[Act.put,List.setIfInBounds_toArray,List.set_cons_zero,List.set_cons_succ])
 refine takeC (i:=6) (d:=some 32) (v:=?_) rfl rfl (by kernel_rfl) (by kernel_rfl) (by kernel_rfl) (by kernel_rfl) (fun _ _ _ h=>h) (Or.inl ⟨by rfl,?_⟩) hC ?_
 rotate_left
 ·(intro w hSw;(try dsimp only at hSw);go_simp;(try with_reducible rfl))
 (try simp only[Act.put,List.setIfInBounds_toArray,List.set_cons_zero,List.set_cons_succ])
 refine takeC (i:=7) (d:=some 33) (v:=?_) rfl rfl (by kernel_rfl) (by kernel_rfl) (by kernel_rfl) (by kernel_rfl) (fun _ _ _ h=>h) (Or.inl ⟨by rfl,?_⟩) hC ?_
 rotate_left
 ·(intro w hSw;(try dsimp only at hSw);go_simp;(try with_reducible rfl))
 (try simp only[Act.put,List.setIfInBounds_toArray,List.set_cons_zero,List.set_cons_succ])
 refine takeC (i:=8) (d:=some 34) (v:=?_) rfl rfl (by kernel_rfl) (by kernel_rfl) (by kernel_rfl) (by kernel_rfl) (fun _ _ _ h=>h) (Or.inl ⟨by rfl,?_⟩) hC ?_
 rotate_left
 ·(intro w hSw;(try dsimp only at hSw);go_simp;(try with_reducible rfl))
 (try simp only[Act.put,List.setIfInBounds_toArray,List.set_cons_zero,List.set_cons_succ])
 refine takeC (i:=9) (d:=some 35) (v:=?_) rfl rfl (by kernel_rfl) (by kernel_rfl) (by kernel_rfl) (by kernel_rfl) (fun _ _ _ h=>h) (Or.inl ⟨by rfl,?_⟩) hC ?_
 rotate_left
 ·(intro w hSw;(try dsimp only at hSw);go_simp;(try with_reducible rfl))
 (try simp only[Act.put,List.setIfInBounds_toArray,List.set_cons_zero,List.set_cons_succ])
 refine takeC (i:=10) (d:=some 36) (v:=?_) rfl rfl (by kernel_rfl) (by kernel_rfl) (by kernel_rfl) (by kernel_rfl) (fun _ _ _ h=>h) (Or.inl ⟨by rfl,?_⟩) hC ?_
 rotate_left
 ·(intro w hSw;(try dsimp only at hSw);go_simp;(try with_reducible rfl))
 (try simp only[Act.put,List.setIfInBounds_toArray,List.set_cons_zero,List.set_cons_succ])
 refine takeC (i:=11) (d:=some 37) (v:=?_) rfl rfl (by kernel_rfl) (by kernel_rfl) (by kernel_rfl) (by kernel_rfl) (fun _ _ _ h=>h) (Or.inl ⟨by rfl,?_⟩) hC ?_
 rotate_left
 ·(intro w hSw;(try dsimp only at hSw);go_simp;(try with_reducible rfl))
 (try simp only[Act.put,List.setIfInBounds_toArray,List.set_cons_zero,List.set_cons_succ])
 refine takeC (i:=12) (d:=some 9) (v:=?_) rfl rfl (by kernel_rfl) (by kernel_rfl) (by kernel_rfl) (by kernel_rfl) (fun _ _ _ h=>h) (Or.inl ⟨by rfl,?_⟩) hC ?_
 rotate_left
 ·(intro w hSw;(try dsimp only at hSw);go_simp;(try with_reducible rfl))
 (try simp only[Act.put,List.setIfInBounds_toArray,List.set_cons_zero,List.set_cons_succ])
 refine doneR (by kernel_rfl) ?_ _;clear hC;go_wp2_with fail;refine startR (R:=Rk (fun _=>True) (fun V=>V.cell? ⟨ib,1,none⟩=some (.string d)∧V.cell? ⟨ib,2,none⟩=some (.int .i64 (nB:Nat))∧V.cell? ⟨ib,4,none⟩=some (.slice Ax nx cx)∧V.cell? ⟨gP,1,none⟩=some (.int .i64 (s:Nat))∧V.cell? ⟨gP,2,none⟩=some (.slice AB nB cB)) 99 99) (by kernel_rfl) ?_;have hC:W2.drew.drew.drew.cell? ⟨ib,1,none⟩=some (.string d)∧W2.drew.drew.drew.cell? ⟨ib,2,none⟩=some (.int .i64 (nB:Nat))∧W2.drew.drew.drew.cell? ⟨ib,4,none⟩=some (.slice Ax nx cx)∧W2.drew.drew.drew.cell? ⟨gP,1,none⟩=some (.int .i64 (s:Nat))∧W2.drew.drew.drew.cell? ⟨gP,2,none⟩=some (.slice AB nB cB):=⟨i1,i2,i4,p1,p2⟩;refine takeC (i:=0) (d:=some 39) (v:=?_) rfl rfl (by kernel_rfl) (by kernel_rfl) (by kernel_rfl) (by kernel_rfl) (fun _ _ _ h=>h) (Or.inl ⟨by rfl,?_⟩) hC ?_
 rotate_left
 ·(intro w hSw;(try dsimp only at hSw);go_simp;(try with_reducible rfl))
 (try simp only[Act.put,List.setIfInBounds_toArray,List.set_cons_zero,List.set_cons_succ])
 refine takeC (i:=1) (d:=some 40) (v:=?_) rfl rfl (by kernel_rfl) (by kernel_rfl) (by kernel_rfl) (by kernel_rfl) (fun _ _ _ h=>h) (Or.inl ⟨by rfl,?_⟩) hC ?_
 rotate_left
 ·(intro w hSw;(try dsimp only at hSw);go_simp;(try with_reducible rfl))
 (try simp only[Act.put,List.setIfInBounds_toArray,List.set_cons_zero,List.set_cons_succ])
 refine takeC (i:=2) (d:=some 41) (v:=?_) rfl rfl (by kernel_rfl) (by kernel_rfl) (by kernel_rfl) (by kernel_rfl) (fun _ _ _ h=>h) (Or.inl ⟨by rfl,?_⟩) hC ?_
 rotate_left
 ·(intro w hSw;(try dsimp only at hSw);go_simp;(try with_reducible rfl))
 (try simp only[Act.put,List.setIfInBounds_toArray,List.set_cons_zero,List.set_cons_succ])
 refine takeC (i:=3) (d:=some 42) (v:=?_) rfl rfl (by kernel_rfl) (by kernel_rfl) (by kernel_rfl) (by kernel_rfl) (fun _ _ _ h=>h) (Or.inl ⟨by rfl,?_⟩) hC ?_
 rotate_left
 ·(intro w hSw;(try dsimp only at hSw);go_simp;(try with_reducible rfl))
 (try simp only[Act.put,List.setIfInBounds_toArray,List.set_cons_zero,List.set_cons_succ])
 refine takeC (i:=4) (d:=some 43) (v:=?_) rfl rfl (by kernel_rfl) (by kernel_rfl) (by kernel_rfl) (by kernel_rfl) (fun _ _ _ h=>h) (Or.inl ⟨by rfl,?_⟩) hC ?_
 rotate_left
 ·(intro w hSw;(try dsimp only at hSw);go_simp;(try with_reducible rfl))
 (try simp only[Act.put,List.setIfInBounds_toArray,List.set_cons_zero,List.set_cons_succ])
 refine takeC (i:=5) (d:=some 44) (v:=?_) rfl rfl (by kernel_rfl) (by kernel_rfl) (by kernel_rfl) (by kernel_rfl) (fun _ _ _ h=>h) (Or.inl ⟨by rfl,?_⟩) hC ?_
 rotate_left
 ·(intro w hSw;(try dsimp only at hSw);go_simp;(try with_reducible rfl))
 (try simp only[Act.put,List.setIfInBounds_toArray,List.set_cons_zero,List.set_cons_succ])
 refine takeC (i:=6) (d:=some 45) (v:=?_) rfl rfl (by kernel_rfl) (by kernel_rfl) (by kernel_rfl) (by kernel_rfl) (fun _ _ _ h=>h) (Or.inl ⟨by rfl,?_⟩) hC ?_
 rotate_left
 ·(intro w hSw;(try dsimp only at hSw);go_simp;(try with_reducible rfl))
 (try simp only[Act.put,List.setIfInBounds_toArray,List.set_cons_zero,List.set_cons_succ])
 refine takeC (i:=7) (d:=some 46) (v:=?_) rfl rfl (by kernel_rfl) (by kernel_rfl) (by kernel_rfl) (by kernel_rfl) (fun _ _ _ h=>h) (Or.inl ⟨by rfl,?_⟩) hC ?_
 rotate_left
 ·(intro w hSw;(try dsimp only at hSw);go_simp;(try with_reducible rfl))
 (try simp only[Act.put,List.setIfInBounds_toArray,List.set_cons_zero,List.set_cons_succ])
 refine takeC (i:=8) (d:=some 47) (v:=?_) rfl rfl (by kernel_rfl) (by kernel_rfl) (by kernel_rfl) (by kernel_rfl) (fun _ _ _ h=>h) (Or.inl ⟨by rfl,?_⟩) hC ?_
 rotate_left
 ·(intro w hSw;(try dsimp only at hSw);go_simp;(try with_reducible rfl))
 (try simp only[Act.put,List.setIfInBounds_toArray,List.set_cons_zero,List.set_cons_succ])
 refine takeC (i:=9) (d:=some 48) (v:=?_) rfl rfl (by kernel_rfl) (by kernel_rfl) (by kernel_rfl) (by kernel_rfl) (fun _ _ _ h=>h) (Or.inl ⟨by rfl,?_⟩) hC ?_
 rotate_left
 ·(intro w hSw;(try dsimp only at hSw);go_simp;(try with_reducible rfl))
 (try simp only[Act.put,List.setIfInBounds_toArray,List.set_cons_zero,List.set_cons_succ])
 refine takeC (i:=10) (d:=some 49) (v:=?_) rfl rfl (by kernel_rfl) (by kernel_rfl) (by kernel_rfl) (by kernel_rfl) (fun _ _ _ h=>h) (Or.inl ⟨by rfl,?_⟩) hC ?_
 rotate_left
 ·(intro w hSw;(try dsimp only at hSw);go_simp;(try with_reducible rfl))
 (try simp only[Act.put,List.setIfInBounds_toArray,List.set_cons_zero,List.set_cons_succ])
 refine takeC (i:=11) (d:=some 50) (v:=?_) rfl rfl (by kernel_rfl) (by kernel_rfl) (by kernel_rfl) (by kernel_rfl) (fun _ _ _ h=>h) (Or.inl ⟨by rfl,?_⟩) hC ?_
 rotate_left
 ·(intro w hSw;(try dsimp only at hSw);go_simp;(try with_reducible rfl))
 (try simp only[Act.put,List.setIfInBounds_toArray,List.set_cons_zero,List.set_cons_succ])
 refine takeC (i:=12) (d:=some 51) (v:=?_) rfl rfl (by kernel_rfl) (by kernel_rfl) (by kernel_rfl) (by kernel_rfl) (fun _ _ _ h=>h) (Or.inl ⟨by rfl,?_⟩) hC ?_
 rotate_left
 ·(intro w hSw;(try dsimp only at hSw);go_simp;(try with_reducible rfl))
 (try simp only[Act.put,List.setIfInBounds_toArray,List.set_cons_zero,List.set_cons_succ])
 refine takeC (i:=13) (d:=some 52) (v:=?_) rfl rfl (by kernel_rfl) (by kernel_rfl) (by kernel_rfl) (by kernel_rfl) (fun _ _ _ h=>h) (Or.inl ⟨by rfl,?_⟩) hC ?_
 rotate_left
 ·(intro w hSw;(try dsimp only at hSw);go_simp;(try with_reducible rfl))
 (try simp only[Act.put,List.setIfInBounds_toArray,List.set_cons_zero,List.set_cons_succ])
 refine takeC (i:=14) (d:=some 53) (v:=?_) rfl rfl (by kernel_rfl) (by kernel_rfl) (by kernel_rfl) (by kernel_rfl) (fun _ _ _ h=>h) (Or.inl ⟨by rfl,?_⟩) hC ?_
 rotate_left
 ·(intro w hSw;(try dsimp only at hSw);go_simp;(try with_reducible rfl))
 (try simp only[Act.put,List.setIfInBounds_toArray,List.set_cons_zero,List.set_cons_succ])
 refine oneR (i:=15) (by kernel_rfl) rfl (fun K hK=>?_);go_simp;go_at_call 37;refine(heqH.out _).mono ?_;rintro e w3 ⟨rfl,hb3⟩;have hb23:Below W2.heap.size W2 w3:=(Below.refl _ _).drew.drew.drew.trans hb3;have hC3:w3.cell? ⟨ib,1,none⟩=some (.string d)∧w3.cell? ⟨ib,2,none⟩=some (.int .i64 (nB:Nat))∧w3.cell? ⟨ib,4,none⟩=some (.slice Ax nx cx)∧w3.cell? ⟨gP,1,none⟩=some (.int .i64 (s:Nat))∧w3.cell? ⟨gP,2,none⟩=some (.slice AB nB cB):=⟨keepC hb23 i1,keepC hb23 i2,keepC hb23 i4,keepC hb23 p1,keepC hb23 p2⟩;have r13:=keepC hb23 r1;have hM3:=hM2H.out.below hb23;have hzm3:=blk_below hzmH.out (by simp[zmV]) hb23;obtain⟨hb3H,hb23H,hM3H,hzm3H⟩:=hq2 hb3 (hq2 hb23 (hq2 hM3 (Lib.hid hzm3)));clear hb3 hb23 hM3 hzm3;refine hK.out _ _ ⟨fun _ _ _=>trivial,fun _ _=>hC3⟩ ?_;clear hK K
 (try simp only[Act.put,List.setIfInBounds_toArray,List.set_cons_zero,List.set_cons_succ])
 clear hC;have hC:=hC3;refine takeC (i:=16) (d:=some 55) (v:=?_) rfl rfl (by kernel_rfl) (by kernel_rfl) (by kernel_rfl) (by kernel_rfl) (fun _ _ _ h=>h) (Or.inl ⟨by rfl,?_⟩) hC ?_
 rotate_left
 ·(intro w hSw;(try dsimp only at hSw);go_simp;(try with_reducible rfl))
 (try simp only[Act.put,List.setIfInBounds_toArray,List.set_cons_zero,List.set_cons_succ])
 refine takeC (i:=17) (d:=some 38) (v:=?_) rfl rfl (by kernel_rfl) (by kernel_rfl) (by kernel_rfl) (by kernel_rfl) (fun _ _ _ h=>h) (Or.inl ⟨by rfl,?_⟩) hC ?_
 rotate_left
 ·(intro w hSw;(try dsimp only at hSw);go_simp;(try with_reducible rfl))
 (try simp only[Act.put,List.setIfInBounds_toArray,List.set_cons_zero,List.set_cons_succ])
 refine doneR (by kernel_rfl) ?_ _;clear hC i1 i2 i4 p1 p2 r1;go_wp2_with fail;refine startR (R:=Rk (fun _=>True) (fun V=>V.cell? ⟨ib,1,none⟩=some (.string d)∧V.cell? ⟨ib,2,none⟩=some (.int .i64 (nB:Nat))∧V.cell? ⟨ib,4,none⟩=some (.slice Ax nx cx)∧V.cell? ⟨gP,1,none⟩=some (.int .i64 (s:Nat))∧V.cell? ⟨gP,2,none⟩=some (.slice AB nB cB)) 99 99) (by kernel_rfl) ?_;have hC:w3.drew.cell? ⟨ib,1,none⟩=some (.string d)∧w3.drew.cell? ⟨ib,2,none⟩=some (.int .i64 (nB:Nat))∧w3.drew.cell? ⟨ib,4,none⟩=some (.slice Ax nx cx)∧w3.drew.cell? ⟨gP,1,none⟩=some (.int .i64 (s:Nat))∧w3.drew.cell? ⟨gP,2,none⟩=some (.slice AB nB cB):=hC3;refine takeC (i:=0) (d:=some 58) (v:=?_) rfl rfl (by kernel_rfl) (by kernel_rfl) (by kernel_rfl) (by kernel_rfl) (fun _ _ _ h=>h) (Or.inl ⟨by rfl,?_⟩) hC ?_
 rotate_left
 ·(intro w hSw;(try dsimp only at hSw);go_simp;(try with_reducible rfl))
 (try simp only[Act.put,List.setIfInBounds_toArray,List.set_cons_zero,List.set_cons_succ])
 refine takeC (i:=1) (d:=some 59) (v:=?_) rfl rfl (by kernel_rfl) (by kernel_rfl) (by kernel_rfl) (by kernel_rfl) (fun _ _ _ h=>h) (Or.inl ⟨by rfl,?_⟩) hC ?_
 rotate_left
 ·(intro w hSw;(try dsimp only at hSw);go_simp;(try with_reducible rfl))
 (try simp only[Act.put,List.setIfInBounds_toArray,List.set_cons_zero,List.set_cons_succ])
 refine takeC (i:=2) (d:=some 60) (v:=?_) rfl rfl (by kernel_rfl) (by kernel_rfl) (by kernel_rfl) (by kernel_rfl) (fun _ _ _ h=>h) (Or.inl ⟨by rfl,?_⟩) hC ?_
 rotate_left
 ·(intro w hSw;(try dsimp only at hSw);go_simp;(try with_reducible rfl))
 (try simp only[Act.put,List.setIfInBounds_toArray,List.set_cons_zero,List.set_cons_succ])
 refine takeC (i:=3) (d:=some 61) (v:=?_) rfl rfl (by kernel_rfl) (by kernel_rfl) (by kernel_rfl) (by kernel_rfl) (fun _ _ _ h=>h) (Or.inl ⟨by rfl,?_⟩) hC ?_
 rotate_left
 ·(intro w hSw;(try dsimp only at hSw);go_simp;(try with_reducible rfl))
 (try simp only[Act.put,List.setIfInBounds_toArray,List.set_cons_zero,List.set_cons_succ])
 refine takeC (i:=4) (d:=some 62) (v:=?_) rfl rfl (by kernel_rfl) (by kernel_rfl) (by kernel_rfl) (by kernel_rfl) (fun _ _ _ h=>h) (Or.inl ⟨by rfl,?_⟩) hC ?_
 rotate_left
 ·(intro w hSw;(try dsimp only at hSw);go_simp;(try with_reducible rfl))
 (try simp only[Act.put,List.setIfInBounds_toArray,List.set_cons_zero,List.set_cons_succ])
 refine takeC (i:=5) (d:=some 63) (v:=?_) rfl rfl (by kernel_rfl) (by kernel_rfl) (by kernel_rfl) (by kernel_rfl) (fun _ _ _ h=>h) (Or.inl ⟨by rfl,?_⟩) hC ?_
 rotate_left
 ·(intro w hSw;(try dsimp only at hSw);go_simp;(try with_reducible rfl))
 (try simp only[Act.put,List.setIfInBounds_toArray,List.set_cons_zero,List.set_cons_succ])
 refine takeC (i:=6) (d:=some 64) (v:=?_) rfl rfl (by kernel_rfl) (by kernel_rfl) (by kernel_rfl) (by kernel_rfl) (fun _ _ _ h=>h) (Or.inl ⟨by rfl,?_⟩) hC ?_
 rotate_left
 ·(intro w hSw;(try dsimp only at hSw);go_simp;(try with_reducible rfl))
 (try simp only[Act.put,List.setIfInBounds_toArray,List.set_cons_zero,List.set_cons_succ])
 refine takeC (i:=7) (d:=some 65) (v:=?_) rfl rfl (by kernel_rfl) (by kernel_rfl) (by kernel_rfl) (by kernel_rfl) (fun _ _ _ h=>h) (Or.inl ⟨by rfl,?_⟩) hC ?_
 rotate_left
 ·(intro w hSw;(try dsimp only at hSw);go_simp;(try with_reducible rfl))
 (try simp only[Act.put,List.setIfInBounds_toArray,List.set_cons_zero,List.set_cons_succ])
 refine takeC (i:=8) (d:=some 66) (v:=?_) rfl rfl (by kernel_rfl) (by kernel_rfl) (by kernel_rfl) (by kernel_rfl) (fun _ _ _ h=>h) (Or.inl ⟨by rfl,?_⟩) hC ?_
 rotate_left
 ·(intro w hSw;(try dsimp only at hSw);go_simp;(try with_reducible rfl))
 (try simp only[Act.put,List.setIfInBounds_toArray,List.set_cons_zero,List.set_cons_succ])
 refine takeC (i:=9) (d:=some 67) (v:=?_) rfl rfl (by kernel_rfl) (by kernel_rfl) (by kernel_rfl) (by kernel_rfl) (fun _ _ _ h=>h) (Or.inl ⟨by rfl,?_⟩) hC ?_
 rotate_left
 ·(intro w hSw;(try dsimp only at hSw);go_simp;(try with_reducible rfl))
 (try simp only[Act.put,List.setIfInBounds_toArray,List.set_cons_zero,List.set_cons_succ])
 refine takeC (i:=10) (d:=some 68) (v:=?_) rfl rfl (by kernel_rfl) (by kernel_rfl) (by kernel_rfl) (by kernel_rfl) (fun _ _ _ h=>h) (Or.inl ⟨by rfl,?_⟩) hC ?_
 rotate_left
 ·(intro w hSw;(try dsimp only at hSw);go_simp;(try with_reducible rfl))
 (try simp only[Act.put,List.setIfInBounds_toArray,List.set_cons_zero,List.set_cons_succ])
 refine takeC (i:=11) (d:=some 57) (v:=?_) rfl rfl (by kernel_rfl) (by kernel_rfl) (by kernel_rfl) (by kernel_rfl) (fun _ _ _ h=>h) (Or.inl ⟨by rfl,?_⟩) hC ?_
 rotate_left
 ·(intro w hSw;(try dsimp only at hSw);go_simp;(try with_reducible rfl))
 (try simp only[Act.put,List.setIfInBounds_toArray,List.set_cons_zero,List.set_cons_succ])
 refine doneR (by kernel_rfl) ?_ _;clear hC;go_wp2_with fail;obtain⟨w4,hw4⟩:∃ W,w3.drew.drew=W:=⟨_,rfl⟩;have hb34:Below w3.heap.size w3 w4:=by rw[← hw4];exact(Below.refl _ _).drew.drew
 have hb24:=hb23H.out.trans (hb34.mono hb23H.out.size);obtain⟨y1,y2,y4,y5,y6⟩:=hC3;replace y1:=keepC hb34 y1;replace y2:=keepC hb34 y2;replace y4:=keepC hb34 y4;replace y5:=keepC hb34 y5;replace y6:=keepC hb34 y6;replace r13:=keepC hb34 r13;have hM4:=hM3H.out.below hb34;have hzm4:=blk_below hzm3H.out (by simp[zmV]) hb34;have hx4:SlAt RU8 w4 Ax nx l:=hxsH.out.below hb24;clear hsA hmin hle hA5;obtain⟨hb34H,hb24H,hM4H,hzm4H,hx4H⟩:=hqb hb34 hb24 hM4 hzm4 (Lib.hid hx4);clear hb34 hb24 hM4 hzm4 hx4;refine startR (R:=Rk (fun V=>V.cell? ⟨gP,2,none⟩=some (.slice AB nB cB)) (fun V=>V.cell? ⟨ib,4,none⟩=some (.slice Ax nx cx)) 12 99) (by kernel_rfl) ?_;rw[hw4];clear hw4;have hF:w4.cell? ⟨gP,2,none⟩=some (.slice AB nB cB):=y6;have hC:w4.cell? ⟨ib,4,none⟩=some (.slice Ax nx cx):=y4;refine takeC (i:=0) (d:=some 70) (v:=?_) rfl rfl (by kernel_rfl) (by kernel_rfl) (by kernel_rfl) (by kernel_rfl) (fun _ _ _ h=>h) (Or.inl ⟨by rfl,?_⟩) hC ?_
 rotate_left
 ·(intro w hSw;(try dsimp only at hSw);go_simp;(try with_reducible rfl))
 (try simp only[Act.put,List.setIfInBounds_toArray,List.set_cons_zero,List.set_cons_succ])
 refine takeC (i:=1) (d:=some 71) (v:=?_) rfl rfl (by kernel_rfl) (by kernel_rfl) (by kernel_rfl) (by kernel_rfl) (fun _ _ _ h=>h) (Or.inl ⟨by rfl,?_⟩) hC ?_
 rotate_left
 ·(intro w hSw;(try dsimp only at hSw);go_simp;(try with_reducible rfl))
 (try simp only[Act.put,List.setIfInBounds_toArray,List.set_cons_zero,List.set_cons_succ])
 refine takeC (i:=2) (d:=some 72) (v:=?_) rfl rfl (by kernel_rfl) (by kernel_rfl) (by kernel_rfl) (by kernel_rfl) (fun _ _ _ h=>h) (Or.inl ⟨by rfl,?_⟩) hC ?_
 rotate_left
 ·(intro w hSw;(try dsimp only at hSw);go_simp;(try with_reducible rfl))
 (try simp only[Act.put,List.setIfInBounds_toArray,List.set_cons_zero,List.set_cons_succ])
 refine takeC (i:=3) (d:=some 73) (v:=?_) rfl rfl (by kernel_rfl) (by kernel_rfl) (by kernel_rfl) (by kernel_rfl) (fun _ _ _ h=>h) (Or.inl ⟨by rfl,?_⟩) hC ?_
 rotate_left
 ·(intro w hSw;(try dsimp only at hSw);go_simp;(try with_reducible rfl))
 (try simp only[Act.put,List.setIfInBounds_toArray,List.set_cons_zero,List.set_cons_succ])
 refine tfS [(4,74)] ?_;(iterate 1 (refine tfL (v:=?_) (hy:=Or.inl ⟨by rfl,?_⟩) (hS:=hF) (h:=?_);rotate_left;(· (intro w hSw;(try dsimp only at hSw);go_simp;(try with_reducible rfl)));(try simp only[Act.put,List.setIfInBounds_toArray,List.set_cons_zero,List.set_cons_succ])));refine tfE ?_;refine takeC (i:=5) (d:=some 75) (v:=?_) rfl rfl (by kernel_rfl) (by kernel_rfl) (by kernel_rfl) (by kernel_rfl) (fun _ _ _ h=>h) (Or.inl ⟨by rfl,?_⟩) hC ?_
 rotate_left
 ·(intro w hSw;(try dsimp only at hSw);go_simp;(try with_reducible rfl))
 (try simp only[Act.put,List.setIfInBounds_toArray,List.set_cons_zero,List.set_cons_succ])
 refine takeC (i:=6) (d:=some 76) (v:=?_) rfl rfl (by kernel_rfl) (by kernel_rfl) (by kernel_rfl) (by kernel_rfl) (fun _ _ _ h=>h) (Or.inl ⟨by rfl,?_⟩) hC ?_
 rotate_left
 ·(intro w hSw;(try dsimp only at hSw);go_simp;(try with_reducible rfl))
 (try simp only[Act.put,List.setIfInBounds_toArray,List.set_cons_zero,List.set_cons_succ])
 refine takeC (i:=7) (d:=some 77) (v:=?_) rfl rfl (by kernel_rfl) (by kernel_rfl) (by kernel_rfl) (by kernel_rfl) (fun _ _ _ h=>h) (Or.inl ⟨by rfl,?_⟩) hC ?_
 rotate_left
 ·(intro w hSw;(try dsimp only at hSw);go_simp;(try with_reducible rfl))
 (try simp only[Act.put,List.setIfInBounds_toArray,List.set_cons_zero,List.set_cons_succ])
 refine takeC (i:=8) (d:=some 78) (v:=?_) rfl rfl (by kernel_rfl) (by kernel_rfl) (by kernel_rfl) (by kernel_rfl) (fun _ _ _ h=>h) (Or.inl ⟨by rfl,?_⟩) hC ?_
 rotate_left
 ·(intro w hSw;(try dsimp only at hSw);go_simp;(try with_reducible rfl))
 (try simp only[Act.put,List.setIfInBounds_toArray,List.set_cons_zero,List.set_cons_succ])
 refine oneR (i:=9) (by kernel_rfl) rfl (fun K hK=>?_);refine step_appW (R:=RU8) (base:=T) rfl (.tmp 74) (.tmp 78) 39 rfl Tryz.underlying39 elem_U8 (by decide) rfl hM4H.out.oB Ax nx cx l rfl hx4H.out (fun h=>by omega) (fun _ _ _ _ h=>h) (by have:=hM4H.out.oB.len;simp only[maxLen];omega) (by have:=hM4H.out.oB.len;omega) (by have:=hM4H.out.lt;have:=hM4H.out.tb;omega) n' (by have:=hM4H.out.oB.len;omega) ?_;intro A6 c6 w6 ho6 hg6 hat6;have hgP4:=hM4H.out.oP.1.lt gP rfl;have hsb4:=hM4H.out.lt;have hgPsb:gP≠sb:=hM4H.out.nP gP rfl;have hnP:¬ some gP=(Value.slice AB nB cB).ownBlock:=fun e=>hM4H.out.dPB gP rfl e.symm;have hnsb:¬ some sb=(Value.slice AB nB cB).ownBlock:=fun e=>hM4H.out.nB sb e.symm rfl;have hni:¬ some ib=(Value.slice AB nB cB).ownBlock:=fun e=>hfiH.out.2.2.2.1 e.symm;have hnim:¬ some (ib+1)=(Value.slice AB nB cB).ownBlock:=fun e=>hfmH.out.2.2.2.1 e.symm;have hgPi:gP≠ib:=fun e=>hfiH.out.2.2.1 (by rw[← e];rfl);have hgPim:gP≠ib+1:=fun e=>hfmH.out.2.2.1 (by rw[← e];rfl);have him4:ib+1<w4.heap.size:=hzm4H.out.lt (by simp[zmV]);have hF6:w6.cell? ⟨gP,2,none⟩=some (.slice AB nB cB):=hg6.cell y6 hnP;have hC6:w6.cell? ⟨ib,4,none⟩=some (.slice Ax nx cx):=hg6.cell y4 hni;have hblk4:=own_block hM4H.out.oP (by decide);have hfz6:w6.frozen? ⟨gP,2,none⟩=false:=by
  obtain⟨g',cur,hg',_,hcur,_⟩:=hblk4;obtain rfl:gP=g':=by injection hg' with h;injection h
  exact frozen_of_row w6 gP _ cur _ ((hg6.block gP hgP4.2 hnP).trans hcur)
 have hM7:=hM4H.out.bytes ho6 hg6 hat6;have hgs:=grown_setc w6 ⟨gP,2,none⟩ (.slice A6 n' c6);have hsz6:=hg6.size;obtain⟨W7,hW7⟩:∃ W,w6.setCell ⟨gP,2,none⟩ (.slice A6 n' c6)=W:=⟨_,rfl⟩;rw[hW7]at hM7 hgs;have hgs':∀ {k:Nat},gP≠k→¬ some k=some gP:=fun h e=>h (by injection e with e;exact e.symm);have z1:W7.cell? ⟨ib,1,none⟩=some (.string d):=hgs.cell (hg6.cell y1 hni) (hgs' hgPi);have z4:W7.cell? ⟨ib,4,none⟩=some (.slice Ax nx cx):=hgs.cell hC6 (hgs' hgPi);have z5:W7.cell? ⟨gP,1,none⟩=some (.int .i64 (s:Nat)):=by
  obtain⟨_,t,_⟩:=cells_PaT hM7.oP.slAt (k:=0) rfl
  simpa using t
 have z6:W7.cell? ⟨gP,2,none⟩=some (.slice A6 n' c6):=by
  obtain⟨_,_,t⟩:=cells_PaT hM7.oP.slAt (k:=0) rfl
  simpa using t
 have z13:W7.cell? ⟨sb,1,none⟩=some (.slice (some ⟨gP,0,none⟩) 1 cP):=(hM7.blk 1 _ rfl).1;have hzm7:Blk W7 (ib+1) zmV:=(hzm4H.out.keep (hg6.block (ib+1) him4 hnim)).keep (hgs.block (ib+1) (by omega) (hgs' hgPim));have hkp7:Kp (SnS sb vD (.slice (some ⟨gP,0,none⟩) 1 cP) (.slice AB nB cB)) w W7:=by
  have k1:Kp (SnS sb vD (.slice (some ⟨gP,0,none⟩) 1 cP) (.slice AB nB cB)) w w4:=Kp.of_below (hb2H.out.trans (hb24H.out.mono hb2H.out.size));exact(k1.trans (Kp.of_grown (S:=SnS sb vD (.slice (some ⟨gP,0,none⟩) 1 cP) (.slice AB nB cB)) hg6 fun k hk=>.inr (.inr (.inr hk)))).trans (Kp.of_grown (S:=SnS sb vD (.slice (some ⟨gP,0,none⟩) 1 cP) (.slice AB nB cB)) hgs fun k hk=>.inr (.inr (.inl hk)))
 have hTw:T≤w.heap.size:=by have:=hMH.out.lt;have:=hMH.out.tb;omega
 have hsz2:=hb2H.out.size;have hbT7:Below T w W7:=(((hb2H.out.mono hTw).trans (hb24H.out.mono (by omega))).grown hg6 (by have:=hb24H.out.size;omega) fun g hg=>(hM4H.out.oB.1.lt g hg).1).grown hgs (by have:=hb24H.out.size;omega) fun g hg=>by injection hg with hg;have:=hgP4.1;have e2:gP=g:=hg;omega
 have hvB7:∀ g,(Value.slice A6 n' c6).ownBlock=some g→(Value.slice AB nB cB).ownBlock=some g∨ib≤g:=fun g hg=>by
  rcases hat6 with h | h
  ·exact .inl (h ▸ hg)
  ·rw[h]at hg;injection hg with hg;exact .inr (by omega)
 have hnB7:(Value.slice A6 n' c6).ownBlock≠some (ib+1):=fun e=>by
  rcases hat6 with h | h
  ·exact hfmH.out.2.2.2.1 (h ▸ e)
  ·rw[h]at e;injection e with e;omega
 clear ho6 hat6 hblk4 hgs' hgs;obtain⟨hM7H,hzm7H,hkp7H,hbT7H,hvB7H,hnB7H,hg6H⟩:=hq2 hM7 (hq2 hzm7 (hqb hkp7 hbT7 hvB7 hnB7 (Lib.hid hg6)));clear hM7 hzm7 hkp7 hbT7 hvB7 hnB7 hg6;refine hK.out _ _ ⟨fun _ _ _=>hF6,fun _ _=>hC6⟩ ?_;clear hK K
 (try simp only[Act.put,List.setIfInBounds_toArray,List.set_cons_zero,List.set_cons_succ])
 clear hC hF;have hC:=hC6;refine takeC (i:=10) (d:=some 80) (v:=?_) rfl rfl (by kernel_rfl) (by kernel_rfl) (by kernel_rfl) (by kernel_rfl) (fun _ _ _ h=>h) (Or.inl ⟨by rfl,?_⟩) hC ?_
 rotate_left
 ·(intro w hSw;(try dsimp only at hSw);go_simp;(try with_reducible rfl))
 (try simp only[Act.put,List.setIfInBounds_toArray,List.set_cons_zero,List.set_cons_succ])
 refine takeC (i:=11) (d:=some 81) (v:=?_) rfl rfl (by kernel_rfl) (by kernel_rfl) (by kernel_rfl) (by kernel_rfl) (fun _ _ _ h=>h) (Or.inl ⟨by rfl,?_⟩) hC ?_
 rotate_left
 ·(intro w hSw;(try dsimp only at hSw);go_simp;(try with_reducible rfl))
 (try simp only[Act.put,List.setIfInBounds_toArray,List.set_cons_zero,List.set_cons_succ])
 refine oneR (i:=12) (by kernel_rfl) rfl (fun K hK=>?_);go_simp
 try rw[hW7]
 refine hK.out _ _ ⟨fun _ h=>absurd rfl h,fun _ _=>z4⟩ ?_;clear hK K
 (try simp only[Act.put,List.setIfInBounds_toArray,List.set_cons_zero,List.set_cons_succ])
 refine doneR (by kernel_rfl) ?_ _;clear hC hC6 hF6 hfz6 hW7 y1 y2 y4 y5 y6;go_wp2_with fail;refine startR (R:=Rk (fun _=>True) (fun V=>V.cell? ⟨gP,1,none⟩=some (.int .i64 (s:Nat))∧V.cell? ⟨gP,2,none⟩=some (.slice A6 n' c6)) 99 99) (by kernel_rfl) ?_;have hC:W7.drew.cell? ⟨gP,1,none⟩=some (.int .i64 (s:Nat))∧W7.drew.cell? ⟨gP,2,none⟩=some (.slice A6 n' c6):=⟨z5,z6⟩;refine takeC (i:=0) (d:=some 82) (v:=?_) rfl rfl (by kernel_rfl) (by kernel_rfl) (by kernel_rfl) (by kernel_rfl) (fun _ _ _ h=>h) (Or.inl ⟨by rfl,?_⟩) hC ?_
 rotate_left
 ·(intro w hSw;(try dsimp only at hSw);go_simp;(try with_reducible rfl))
 (try simp only[Act.put,List.setIfInBounds_toArray,List.set_cons_zero,List.set_cons_succ])
 refine takeC (i:=1) (d:=some 83) (v:=?_) rfl rfl (by kernel_rfl) (by kernel_rfl) (by kernel_rfl) (by kernel_rfl) (fun _ _ _ h=>h) (Or.inl ⟨by rfl,?_⟩) hC ?_
 rotate_left
 ·(intro w hSw;(try dsimp only at hSw);go_simp;(try with_reducible rfl))
 (try simp only[Act.put,List.setIfInBounds_toArray,List.set_cons_zero,List.set_cons_succ])
 refine takeC (i:=2) (d:=some 84) (v:=?_) rfl rfl (by kernel_rfl) (by kernel_rfl) (by kernel_rfl) (by kernel_rfl) (fun _ _ _ h=>h) (Or.inl ⟨by rfl,?_⟩) hC ?_
 rotate_left
 ·(intro w hSw;(try dsimp only at hSw);go_simp;(try with_reducible rfl))
 (try simp only[Act.put,List.setIfInBounds_toArray,List.set_cons_zero,List.set_cons_succ])
 refine takeC (i:=3) (d:=some 85) (v:=?_) rfl rfl (by kernel_rfl) (by kernel_rfl) (by kernel_rfl) (by kernel_rfl) (fun _ _ _ h=>h) (Or.inl ⟨by rfl,?_⟩) hC ?_
 rotate_left
 ·(intro w hSw;(try dsimp only at hSw);go_simp;(try with_reducible rfl))
 (try simp only[Act.put,List.setIfInBounds_toArray,List.set_cons_zero,List.set_cons_succ])
 refine takeC (i:=4) (d:=some 86) (v:=?_) rfl rfl (by kernel_rfl) (by kernel_rfl) (by kernel_rfl) (by kernel_rfl) (fun _ _ _ h=>h) (Or.inl ⟨by rfl,?_⟩) hC ?_
 rotate_left
 ·(intro w hSw;(try dsimp only at hSw);go_simp;(try with_reducible rfl))
 (try simp only[Act.put,List.setIfInBounds_toArray,List.set_cons_zero,List.set_cons_succ])
 refine takeC (i:=5) (d:=some 87) (v:=?_) rfl rfl (by kernel_rfl) (by kernel_rfl) (by kernel_rfl) (by kernel_rfl) (fun _ _ _ h=>h) (Or.inl ⟨by rfl,?_⟩) hC ?_
 rotate_left
 ·(intro w hSw;(try dsimp only at hSw);go_simp;(try with_reducible rfl))
 (try simp only[Act.put,List.setIfInBounds_toArray,List.set_cons_zero,List.set_cons_succ])
 refine takeC (i:=6) (d:=some 88) (v:=?_) rfl rfl (by kernel_rfl) (by kernel_rfl) (by kernel_rfl) (by kernel_rfl) (fun _ _ _ h=>h) (Or.inl ⟨by rfl,?_⟩) hC ?_
 rotate_left
 ·(intro w hSw;(try dsimp only at hSw);go_simp;(try with_reducible rfl))
 (try simp only[Act.put,List.setIfInBounds_toArray,List.set_cons_zero,List.set_cons_succ])
 refine takeC (i:=7) (d:=some 89) (v:=?_) rfl rfl (by kernel_rfl) (by kernel_rfl) (by kernel_rfl) (by kernel_rfl) (fun _ _ _ h=>h) (Or.inl ⟨by rfl,?_⟩) hC ?_
 rotate_left
 ·(intro w hSw;(try dsimp only at hSw);go_simp;(try with_reducible rfl))
 (try simp only[Act.put,List.setIfInBounds_toArray,List.set_cons_zero,List.set_cons_succ])
 refine takeC (i:=8) (d:=some 90) (v:=?_) rfl rfl (by kernel_rfl) (by kernel_rfl) (by kernel_rfl) (by kernel_rfl) (fun _ _ _ h=>h) (Or.inl ⟨by rfl,?_⟩) hC ?_
 rotate_left
 ·(intro w hSw;(try dsimp only at hSw);go_simp;(try with_reducible rfl))
 (try simp only[Act.put,List.setIfInBounds_toArray,List.set_cons_zero,List.set_cons_succ])
 refine takeC (i:=9) (d:=some 91) (v:=?_) rfl rfl (by kernel_rfl) (by kernel_rfl) (by kernel_rfl) (by kernel_rfl) (fun _ _ _ h=>h) (Or.inl ⟨by rfl,?_⟩) hC ?_
 rotate_left
 ·(intro w hSw;(try dsimp only at hSw);go_simp;(try with_reducible rfl))
 (try simp only[Act.put,List.setIfInBounds_toArray,List.set_cons_zero,List.set_cons_succ])
 refine doneR (by kernel_rfl) ?_ _;clear hC;have hlt9:¬ (n':Int)<(s:Int):=by have:=heq'H.out;omega
 obtain⟨w8,hw8⟩:∃ W,W7.drew=W:=⟨_,rfl⟩;have hb78:Below W7.heap.size W7 w8:=by rw[← hw8];exact(Below.refl _ _).drew
 rw[hw8];have hM8:=hM7H.out.below hb78;have hzm8:Blk w8 (ib+1) zmV:=blk_below hzm7H.out (by simp[zmV]) hb78;have hbT8:Below T w w8:=hbT7H.out.trans (hb78.mono (by have:=hM7H.out.lt;have:=hM7H.out.tb;omega));have hkp8:Kp (SnS sb vD (.slice (some ⟨gP,0,none⟩) 1 cP) (.slice AB nB cB)) w w8:=hkp7H.out.trans (Kp.of_below hb78);replace z1:=keepC hb78 z1;replace z6:=keepC hb78 z6;replace z13:=keepC hb78 z13;clear z4 z5 hw8;have hde:=fun W (ho:Own RPv 125 W T (.slice (some ⟨gP,0,none⟩) 1 cP) [⟨d,s,⟨A6,n',c6,bs++l⟩⟩])=>del_one T gP cP _ W ho;have hiw:(0:Int)+1=1:=rfl;obtain⟨hb78H,hM8H,hzm8H,hbT8H,hkp8H,hdeH⟩:=hq2 hb78 (hqb hM8 hzm8 hbT8 hkp8 (Lib.hid hde));clear hb78 hM8 hzm8 hbT8 hkp8 hde;go_wp2_with fail;refine(hdeH.out _ hM8H.out.oP).mono ?_;rintro e w9 ⟨rfl,ho9,hg9⟩;have hM10:=hM8H.out.gone ho9 hg9;have hsb8:=hM8H.out.lt;have him8:=hzm8H.out.lt (by simp[zmV]);have q1:w9.cell? ⟨ib,1,none⟩=some (.string d):=hg9.cell z1 fun e=>hgPi (by injection e with e;exact e.symm);have q13:w9.frozen? ⟨sb,1,none⟩=false:=(World.frozen?_of_block (a:=⟨sb,1,none⟩) (hg9.block sb hsb8 fun e=>hgPsb (by injection e with e;exact e.symm))).trans (hM8H.out.blk 1 _ rfl).2;have q14:w9.cell? ⟨sb,1,none⟩=some (.slice (some ⟨gP,0,none⟩) 1 cP):=hg9.cell z13 fun e=>hgPsb (by injection e with e;exact e.symm);have hgs:=grown_setc w9 ⟨sb,1,none⟩ (.slice (some ⟨gP,0,none⟩) 0 cP);obtain⟨W10,hW10⟩:∃ W,w9.setCell ⟨sb,1,none⟩ (.slice (some ⟨gP,0,none⟩) 0 cP)=W:=⟨_,rfl⟩;rw[hW10]at hM10 hgs;have hsz9:=hg9.size
 have hsz10:=hgs.size;have q10:W10.cell? ⟨ib,1,none⟩=some (.string d):=hgs.cell q1 fun e=>hfiH.out.1 (by injection e);have hzm10:Blk W10 (ib+1) zmV:=(hzm8H.out.keep (hg9.block (ib+1) him8 fun e=>hgPim (by injection e with e;exact e.symm))).keep (hgs.block (ib+1) (by omega) fun e=>hfmH.out.1 (by injection e));have hkp10:Kp (SnS sb vD (.slice (some ⟨gP,0,none⟩) 1 cP) (.slice AB nB cB)) w W10:=(hkp8H.out.trans (Kp.of_grown (S:=SnS sb vD (.slice (some ⟨gP,0,none⟩) 1 cP) (.slice AB nB cB)) hg9 fun k hk=>.inr (.inr (.inl hk)))).trans (Kp.of_grown (S:=SnS sb vD (.slice (some ⟨gP,0,none⟩) 1 cP) (.slice AB nB cB)) hgs fun k hk=>by injection hk with hk;exact .inl hk.symm);have hbT10:Below T w W10:=((hbT8H.out.grown hg9 (by have:=hM8H.out.tb;omega) fun g hg=>by injection hg with hg;have:=hgP4.1;omega)).grown hgs (by have:=hM8H.out.tb;omega) fun g hg=>by injection hg with hg;have:=hM8H.out.tb;have e2:sb=g:=hg;omega
 have hlen10:(bs++l).length=n':=hM10.oB.len;have hwh:=whole_any T sb rest vD (.slice (some ⟨gP,0,none⟩) 0 cP) D d A6 n' c6 (bs++l) W10 hM10 hdH.out (by omega) hDl hsH.out hnoH.out;clear ho9 hgs;obtain⟨hM10H,hzm10H,hkp10H,hbT10H,hwhH,hg9H⟩:=hq2 hM10 (hqb hzm10 hkp10 hbT10 hwh (Lib.hid hg9));clear hM10 hzm10 hkp10 hbT10 hwh hg9;go_wp2_with fail
 try rw[hW10]
 refine hwhH.out.mono ?_;rintro e w11 ⟨rfl,hb11,hk11,vD',D',hM11,hvD11,hput,hsrt⟩;have hnS:¬ SnS sb vD (.slice (some ⟨gP,0,none⟩) 0 cP) (.slice A6 n' c6) (ib+1):=fun h=>by
  rcases h with h | h | h | h
  ·exact hfmH.out.1 h
  ·exact hfmH.out.2.1 h
  ·exact hfmH.out.2.2.1 h
  ·exact hnB7H.out h
 have hzm11:Blk w11 (ib+1) zmV:=hk11.blk hzm10H.out (by simp[zmV]) hnS;have him10:ib+1<W10.heap.size:=hzm10H.out.lt (by simp[zmV]);obtain⟨y0,z0⟩:=hzm11 0 _ rfl;obtain⟨y1,z1⟩:=hzm11 1 _ rfl;obtain⟨y2,z2⟩:=hzm11 2 _ rfl;obtain⟨y3,z3⟩:=hzm11 3 _ rfl;obtain⟨y4,z4⟩:=hzm11 4 _ rfl;have hgm:=msg_grown w11 (ib+1) (.int .i64 4) (.string d) (.int .i64 0) (.int .i64 0) (.slice none 0 0);have hzm12:=msg_set hzm11 (.int .i64 4) (.string d) (.int .i64 0) (.int .i64 0) (.slice none 0 0);obtain⟨W12,hW12⟩:∃ W,(((((w11.setCell ⟨ib+1,0,none⟩ (.int .i64 4)).setCell ⟨ib+1,1,none⟩ (.string d)).setCell ⟨ib+1,2,none⟩ (.int .i64 0)).setCell ⟨ib+1,3,none⟩ (.int .i64 0)).setCell ⟨ib+1,4,none⟩ (.slice none 0 0))=W:=⟨_,rfl⟩;rw[hW12]at hgm hzm12;have hM12:=hM11.grown hgm hfmH.out.1 (fun e=>by
  rcases hvD11 _ e with h | h
  ·exact hfmH.out.2.1 h
  ·omega) hfmH.out.2.2.1 (fun e=>by cases e) (fun x hx hn ad hA=>by
  obtain⟨k,hk⟩:=hput;rw[hk]at hx
  rcases List.mem_append.1 hx with h | h
  ·exact hfmH.out.2.2.2.2 x (List.mem_of_mem_take h) hn ad hA
  ·rcases List.mem_cons.1 h with h | h
   ·subst h;intro e;have hA:A6=some ad:=hA;exact hnB7H.out (by rw[hA];show some ad.block=_;rw[e])
   ·exact hfmH.out.2.2.2.2 x (List.mem_of_mem_drop h) hn ad hA)
 have hkw:Kp (SnS sb vD (.slice (some ⟨gP,0,none⟩) 1 cP) (.slice AB nB cB)) w W12:=(hkp10H.out.old hk11 (fun i hi h9=>by
  rcases h9 with h | h | h | h
  ·exact .inl h
  ·exact .inr (.inl h)
  ·exact .inr (.inr (.inl h))
  ·exact .inr (.inr (.inr ((hvB7H.out i h).resolve_right (by omega)))))).old (Kp.of_grown (S:=fun k=>k=ib+1) hgm fun k hk=>by injection hk with hk;exact hk.symm) (fun i hi h9=>by omega)
 have hbT12:Below T w W12:=(hbT10H.out.trans hb11).grown hgm (by have:=hM11.lt;have:=hM11.tb;omega) fun g hg=>by injection hg with hg;omega
 have hsz10w:=hkp10H.out.size;have R:=hZ'H.out (.returned (.tuple #[msgV 4 d 0 0 (.slice none 0 0),.int .i64 0])) W12 ⟨rfl,hbT12,hkw,vD',_,D',⟨d,⟨A6,n',c6,bs++l⟩⟩,hM12,(fun g hg=>(hvD11 g hg).imp id fun h=>by omega),(fun g hg=>.inl hg),(fun ad hA=>by
  have hA:A6=some ad:=hA;exact(hvB7H.out ad.block (by rw[hA];rfl)).imp id fun h=>by omega),rfl,rfl,hput,hsrt⟩
 clear hM11 hM12 hkw hbT12 hput hsrt hvD11 hgm hnS hk11 hb11;obtain⟨hzm11H,hzm12H,RH⟩:=hq2 hzm11 (hq2 hzm12 (Lib.hid R));clear hzm11 hzm12 R
 try unfold msgV
 go_wp2_with fail
 try rw[hW12]
 obtain⟨t0,-⟩:=hzm12H.out 0 _ rfl;obtain⟨t1,-⟩:=hzm12H.out 1 _ rfl;obtain⟨t2,-⟩:=hzm12H.out 2 _ rfl;obtain⟨t3,-⟩:=hzm12H.out 3 _ rfl;obtain⟨t4,-⟩:=hzm12H.out 4 _ rfl;exact bodyPost_ret (v:=.tuple #[msgV 4 d 0 0 (.slice none 0 0),.int .i64 0]) (by simp[results,Tryz.results100,go_sem,t0,t1,t2,t3,t4,msgV]) rfl RH.out
end Go.Proofs.YtpdjjjiknijpkaaGreatDoor.C10