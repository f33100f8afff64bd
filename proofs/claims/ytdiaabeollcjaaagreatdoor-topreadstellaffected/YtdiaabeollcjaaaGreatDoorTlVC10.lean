/-
 Several texts of mine as one, without what is not wanted here: XLawTel, XLawTop.
-/
import Derived.Test.YtdiaabeollcjaaaGreatDoorTlUC10
set_option linter.unusedVariables false
set_option linter.unusedSimpArgs false
set_option maxRecDepth 100000
set_option maxHeartbeats 8000000
namespace Go.Proofs.YtdiaabeollcjaaaGreatDoor.C10
open Go.ChangeShapes Go.WideShapes Go.Deep Go.RowKit Go.Lib Go.Maps
theorem blk_of {w:World} (l:List Value) (t:TypeId) {W:World} (h:w.alloc (.cells l.toArray t)=W):Blk W w.heap.size l:=by rw[← h];exact blk_new w l t
theorem bel_of {w:World} {o:Obj} {W:World} (h:w.alloc o=W):Below w.heap.size w W:=by rw[← h];exact(Below.refl _ _).alloc (Nat.le_refl _) _
theorem siz_of {w:World} {o:Obj} {W:World} (h:w.alloc o=W):W.heap.size=w.heap.size+1:=by rw[← h];simp
def RtRel (ls:List Lk) (tb B:Nat) (W:World) (i:Value) (wr:World):Prop :=
 ∃ (k:Nat) (A1:Option Addr) (n1 c1:Nat) (A2:Option Addr) (n2 c2:Nat),k≤ls.length∧i = .int .i64 k∧Rd2 tb B (ls.take k) A1 n1 c1 A2 n2 c2 W wr
theorem ExInfo.path {x:Action} {l:List File} {r:Rs} (h:ExInfo x l r) (hn:NoList x):∀ y∈r.ls,y.path.size≤maxLen:=by
 obtain⟨R,fp,lp,hok,h1,h2,h3,h4,h5,h6,h7,h8,h9,h10,h11,hrun⟩:=h;intro y hy;rw[h4]at hy;obtain⟨p,hp,rfl⟩:=List.mem_map.1 hy;have hl:=run_looks (cmds x) (cmds_P hok hn) (inpF l);rw[hrun hn]at hl;obtain⟨v,hv⟩:=Option.isSome_iff_exists.1 ((h9 p (h8 p hp)).1 hp);obtain⟨_,b⟩:=hl p v hv;unfold lkE;rw[hv,Option.getD_some,b,look_path];exact h8 p hp
def CmRel (x:Action) (W:World) (i:Value) (wr:World):Prop:=W=wr∧∃ k:Nat,k≤x.commands.l.length∧i = .int .i64 k∧∀ (j:Nat) c,j<k→x.commands.l[j]? = some c→wd c.l 0≠wList
theorem law_tell (x:Action) (a1 a2:SlD File) (w:World) (hmx:MaxLenAt w) (hpw:PowJ w) (hx:RAction.ok w x) (h1:(RSl RFile).ok w a1) (h2:(RSl RFile).ok w a2) :
  Calls Tryz.prog 3 #[actV x,.slice a1.A a1.n a1.cap,.slice a2.A a2.n a2.cap] w fun e w'=>e = .returned (.bool true)∧Below w.heap.size w w':=by
 obtain⟨A1,m1,c1,l1⟩:=a1;obtain⟨A2,m2,c2,l2⟩:=a2;simp only;obtain⟨Z,hZ⟩:∃ Z,(fun (e:Ending) (w':World)=>e = .returned (.bool true)∧Below w.heap.size w w')=Z:=⟨_,rfl⟩;rw[hZ];have RZ:∀ W,Below w.heap.size w W→Z (.returned (.bool true)) W:=fun W h=>by rw[← hZ];exact⟨rfl,h⟩
 obtain⟨W0,hW0⟩:∃ W,w.alloc (.cells #[.string x.tool,.slice x.commands.A x.commands.n x.commands.cap,.slice x.vars.A x.vars.n x.vars.cap,.slice x.outputs.A x.outputs.n x.outputs.cap,.slice x.needs.A x.needs.n x.needs.cap,.int .i64 x.time] 26)=W:=⟨_,rfl⟩;have hb0:=bel_of hW0;have hz0:=blk_of [.string x.tool,.slice x.commands.A x.commands.n x.commands.cap,.slice x.vars.A x.vars.n x.vars.cap,.slice x.outputs.A x.outputs.n x.outputs.cap,.slice x.needs.A x.needs.n x.needs.cap,.int .i64 x.time] _ hW0;have hs0:=siz_of hW0;have hx0:=RAction.mono _ _ _ hb0 hx;have hE:=execute_rs x A1 m1 c1 l1 W0 (hmx.below hb0) (hpw.below hb0) hx0 ((RSl RFile).mono _ _ _ hb0 h1);unfold actV at hE ⊢;have cnn:x.commands.l.length=x.commands.n:=hx.2.1.1.1;obtain⟨d0,-⟩:=hz0 0 _ rfl;obtain⟨d1,-⟩:=hz0 1 _ rfl;obtain⟨d2,-⟩:=hz0 2 _ rfl;obtain⟨d3,-⟩:=hz0 3 _ rfl;obtain⟨d4,-⟩:=hz0 4 _ rfl;obtain⟨d5,-⟩:=hz0 5 _ rfl;clear hZ;obtain⟨RZH,hmxH,hpwH,hxH,h1H,h2H,hb0H,hz0H,hx0H,hEH⟩:=hq2 RZ (hqc hmx hpw hx h1 h2 hb0 hz0 hx0 (Lib.hid hE));clear RZ hmx hpw hx h1 h2 hb0 hz0 hx0 hE;go_enter Tryz.func3,Tryz.ntmps3;go_wp2_with fail;refine hEH.out.mono ?_;rintro e w1 ⟨f,r,rfl,hro,hrl,hrc,hri,hb1⟩;have hb01:=hb0H.out.trans (hb1.mono hb0H.out.size);obtain⟨rc,rt,FA,Fn,Fc,LA,Ln,Lc,rk,fs,ls⟩:=r;simp only[Rs.cells]at hrl hrc ⊢;obtain⟨xb,hxb⟩:∃ b,w1.heap.size=b:=⟨_,rfl⟩;obtain⟨W1,hW1⟩:∃ W,w1.alloc (.cells #[.int .i64 rc,.string rt,.slice FA Fn Fc,.slice LA Ln Lc,.int .i64 rk] 30)=W:=⟨_,rfl⟩
 have hbW1:=bel_of hW1;have hzx:=blk_of [.int .i64 rc,.string rt,.slice FA Fn Fc,.slice LA Ln Lc,.int .i64 rk] _ hW1;have hsW1:=siz_of hW1;rw[hxb]at hzx;have hb1W:=hb1.trans (hbW1.mono hb1.size);have hz1:=blk_below hz0H.out (by simp) hb1W;have hb02:=hb01.trans (hbW1.mono hb01.size);have hx1:=RAction.mono _ _ _ hb02 hxH.out;have hE2:=execute_rs x A2 m2 c2 l2 W1 (hmxH.out.below hb02) (hpwH.out.below hb02) hx1 ((RSl RFile).mono _ _ _ hb02 h2H.out);unfold actV at hE2;have hro1:=hro.below hbW1;clear d0 d1 d2 d3 d4 d5 hro;obtain⟨d0,-⟩:=hz1 0 _ rfl;obtain⟨d1,-⟩:=hz1 1 _ rfl;obtain⟨d2,-⟩:=hz1 2 _ rfl;obtain⟨d3,-⟩:=hz1 3 _ rfl;obtain⟨d4,-⟩:=hz1 4 _ rfl;obtain⟨d5,-⟩:=hz1 5 _ rfl;obtain⟨hrcH,hriH,hb1H,hb01H,hbW1H,hzxH,hb1WH,hz1H,hb02H,hx1H,hE2H,hro1H,hW0H⟩:=hqb hrc hri hb1 hb01 (hqc hbW1 hzx hb1W hz1 hb02 hx1 hE2 hro1 (Lib.hid hW0));clear hrc hri hb1 hb01 hbW1 hzx hb1W hz1 hb02 hx1 hE2 hro1 hW0;go_wp2_with fail;refine hE2H.out.mono ?_;rintro e w3 ⟨g,r2,rfl,hro2,hrl2,hrc2,hri2,hb3⟩;obtain⟨rc2,rt2,FA2,Fn2,Fc2,LA2,Ln2,Lc2,rk2,fs2,ls2⟩:=r2;simp only[Rs.cells]at hrl2 hrc2 ⊢;clear hrl2 hrc2;obtain⟨yb,hyb⟩:∃ b,w3.heap.size=b:=⟨_,rfl⟩;obtain⟨W3,hW3⟩:∃ W,w3.alloc (.cells #[.int .i64 rc2,.string rt2,.slice FA2 Fn2 Fc2,.slice LA2 Ln2 Lc2,.int .i64 rk2] 30)=W:=⟨_,rfl⟩;have hbW3:=bel_of hW3;have hzy:=blk_of [.int .i64 rc2,.string rt2,.slice FA2 Fn2 Fc2,.slice LA2 Ln2 Lc2,.int .i64 rk2] _ hW3;have hsW3:=siz_of hW3;rw[hyb]at hzy;have hb13:=hb3.trans (hbW3.mono hb3.size);have hb03:=hb02H.out.trans (hb13.mono hb02H.out.size)
 have hz3:=blk_below hz1H.out (by simp) hb13;have hx3:=blk_below hzxH.out (by simp) hb13;have hro3:=hro1H.out.below hb13;have hro23:=hro2.below hbW3;have hxa:=RAction.mono _ _ _ hb03 hxH.out;clear d0 d1 d2 d3 d4 d5 hro2 hbW3;obtain⟨d1,-⟩:=hz3 1 _ rfl;obtain⟨e3,-⟩:=hx3 3 _ rfl;obtain⟨hri2H,hb3H,hzyH,hb13H,hb03H,hz3H,hx3H,hro3H,hro23H,hxaH,hW1H⟩:=hq2 hri2 (hq2 hb3 (hqc hzy hb13 hb03 hz3 hx3 hro3 hro23 hxa (Lib.hid hW1)));clear hri2 hb3 hzy hb13 hb03 hz3 hx3 hro3 hro23 hxa hW1
 by_cases hf:f=0
 ·subst hf
  by_cases hg:g=0
  ·subst hg;go_wp2_with fail;have hW3H:=Lib.hid hW3;clear hW3;have hst:CmRel x W3 (.int .i64 0) W3:=⟨rfl,0,Nat.zero_le _,rfl,fun j c h=>absurd h (by omega)⟩;obtain⟨CA,hCA⟩:∃ A,x.commands.A=A:=⟨_,rfl⟩;obtain⟨Cn,hCn⟩:∃ A,x.commands.n=A:=⟨_,rfl⟩;obtain⟨Cc,hCc⟩:∃ A,x.commands.cap=A:=⟨_,rfl⟩;have hsl0:SlAt RWords W3 x.commands.A x.commands.n x.commands.l:=hxaH.out.2.1.1;rw[hCA,hCn]at hsl0;rw[hCA,hCn,hCc]at d1;rw[hCA,hCn,hCc];rw[hCn]at cnn;have hok1:=hriH.out trivial;have hok2:=hri2H.out trivial;clear hCA hCn hCc;obtain⟨hstH,hsl0H,cnnH,hok1H,hok2H⟩:=hqb hst hsl0 cnn hok1 (Lib.hid hok2);clear hst hsl0 cnn hok1 hok2
   go_loopw [11] (fun i wr=>CmRel x W3 i wr) (fun i _=>Cn-(intOf i).toNat)
   case atStart=>exact hstH.out
   case round =>
    clear hstH;obtain⟨rfl,k,hk,rfl,hall⟩:=hrel;have hcnn:=cnnH.out;have hC50:Cn≤50:=by
     obtain⟨R,fp,lp,hbo,_⟩:=hok1H.out;have:=hbo.cmds.1;omega
    by_cases hlt:k<Cn
    ·obtain⟨y,hy⟩:∃ y,x.commands.l[k]? = some y:=⟨x.commands.l[k]'(by omega),List.getElem?_eq_getElem _⟩;have hsl:=hsl0H.out;obtain⟨bl,ol,hAL,-⟩:=hsl.2.1 (by omega);subst hAL;have cy:=cell_Words hsl hy;have hym:=List.mem_of_getElem? hy;have hyw:SlAt RStr W3 y.A y.n y.l:=(hsl.2.2 y hym).1;have hpos:1≤y.l.length:=by
      obtain⟨R,fp,lp,hbo,_⟩:=hok1H.out;exact(hbo.cmds.2 y hym).pos
     have hyn:y.l.length=y.n:=hyw.1;obtain⟨bw,ow,hAW,-⟩:=hyw.2.1 (by omega);have hyw2:=hyw;rw[hAW]at hyw2;have cw:=cell_Str hyw2 (wd_get (c:=y.l) (k:=0) (by omega));obtain⟨yA,yn,yc,yl⟩:=y;simp only at cy cw hyn hAW hpos;subst hAW;obtain⟨s0,hs0w⟩:∃ s,wd yl 0=s:=⟨_,rfl⟩;rw[hs0w,Nat.add_zero]at cw;have hwl:wList.toList = [108,105,115,116]:=by rw[ByteArray.toList_eq];rfl
     by_cases hsw:s0=wList
     ·subst hsw;clear hyw hyw2 hall;obtain⟨hslH,hyH,hymH,hs0wH⟩:=hq2 hsl (hq2 hy (hq2 hym (Lib.hid hs0w)));clear hsl hy hym hs0w;go_wp2_with fail;refine(lives_any _).mono ?_;rintro e w9 ⟨rfl,hb9⟩;have R:=RZH.out w9 (hb03H.out.trans (hb9.mono hb03H.out.size));obtain⟨hb9H,RH⟩:=hq2 hb9 (Lib.hid R);clear hb9 R;go_wp2_with fail;exact RH.out
     ·have hne:(s0.toList == [108,105,115,116])=false:=by rw[← hwl,beq_data];exact decide_eq_false hsw
      have R:∃ k_1:Nat,k_1≤x.commands.l.length∧Value.int .i64 ((k:Int)+1)=Value.int .i64 k_1∧∀ (j:Nat) c,j<k_1→x.commands.l[j]? = some c→wd c.l 0≠wList:=⟨k+1,by omega,by go_num,fun j c hj hc=>by
       rcases Nat.lt_or_ge j k with h | h
       ·exact hall j c h hc
       ·obtain rfl:j=k:=by omega
        rw[hy]at hc;injection hc with hc;subst hc;show wd yl 0≠wList;rw[hs0w];exact hsw⟩
      clear hyw hyw2 hall;obtain⟨hslH,hyH,hymH,hs0wH,RH⟩:=hqb hsl hy hym hs0w (Lib.hid R);clear hsl hy hym hs0w R;go_wp2_with fail;exact⟨⟨rfl,RH.out⟩,by simp[intOf];omega⟩
    ·obtain rfl:k=Cn:=by omega
     have hnl:NoList x:=fun c hc=>by
      obtain⟨j,hj,rfl⟩:=List.mem_iff_getElem.1 hc;exact hall j _ (by omega) (List.getElem?_eq_getElem hj)
     clear hall;obtain⟨tb,htb⟩:∃ b,W3.heap.size=b:=⟨_,rfl⟩;obtain⟨W5,hW5⟩:∃ W,W3.alloc (.cells #[.string ⟨#[116]⟩,.slice none 0 0,.slice none 0 0] 36)=W:=⟨_,rfl⟩;have hb5:=bel_of hW5;have hz5:=blk_of [.string wT,.slice none 0 0,.slice none 0 0] _ hW5;have hs5:=siz_of hW5;rw[htb]at hz5 hb5;have hxt:xb<tb:=by have:=hb3H.out.size;omega
     have hyt:yb<tb:=by omega
     have hst2:RtRel ls tb W5.heap.size W5 (.int .i64 0) W5:=⟨0,none,0,0,none,0,0,Nat.zero_le _,rfl,Rd2.start hz5 (by omega)⟩;have hx5:=blk_below hx3H.out (by simp) (htb ▸ hb5);obtain⟨hnlH,hb5H,hz5H,hst2H,hx5H,hW5H,htbH,hsW3H⟩:=hq2 hnl (hq2 hb5 (hq2 hz5 (hqb hst2 hx5 hW5 htb (Lib.hid hsW3))));clear hnl hb5 hz5 hst2 hx5 hW5 htb hsW3;go_wp2_with fail;rw[hW5H.out,htbH.out]
     go_loopw [13] (fun i wr=>RtRel ls tb W5.heap.size W5 i wr) (fun i _=>Ln-(intOf i).toNat)
     case atStart=>exact hst2H.out
     case round =>
      clear hst2H;obtain⟨k,AH,nH,cH,AM,nM,cM,hk,rfl,hRd⟩:=hrel;have hLn:ls.length=Ln:=hro3H.out.l.1.1;have hsW5:W5.heap.size=tb+1:=by rw[hs5,htbH.out]
      have hnx:¬ QS tb W5.heap.size xb:=fun e=>by rcases e with e | e <;> omega
      have hxr:=hRd.kp.blk hx5H.out (by simp) hnx;have hleR:=hRd.le;have hny:¬ QS tb W5.heap.size yb:=fun e=>by rcases e with e | e <;> omega
      obtain⟨x3,-⟩:=hxr 3 _ rfl;obtain⟨t1,-⟩:=hRd.blk 1 _ rfl;obtain⟨t2,-⟩:=hRd.blk 2 _ rfl;have hnH:nH≤k:=by
       have h1:=hRd.hit.len;have h2:=hitL_len (ls.take k);rw[List.length_take]at h2;omega
      have hnM:nM≤k:=by
       have h1:=hRd.miss.len;have h2:=missL_len (ls.take k);rw[List.length_take]at h2;omega
      by_cases hlt:k<Ln
      ·obtain⟨y,hy⟩:∃ y,ls[k]? = some y:=⟨ls[k]'(by omega),List.getElem?_eq_getElem _⟩;have hsl:SlAt RLk W3 LA Ln ls:=hro3H.out.l.1;obtain⟨bl,ol,hA,-⟩:=hsl.2.1 (by omega);subst hA;have hblt:bl<W3.heap.size:=slAt_lt hsl (by omega) (by decide);have hblt2:bl<tb:=by rw[← htbH.out];exact hblt
       have hsl5:SlAt RLk W5 (some ⟨bl,ol,none⟩) Ln ls:=hsl.below (htbH.out ▸ hb5H.out);have hslr:=hRd.kp.slAt hsl5 (fun h0 ad hA hs=>by injection hA with hA;subst hA;rcases hs with hs | hs <;> simp at hs <;> omega) (fun _ h=>h);have hypz:=hok1H.out.path hnlH.out y (List.mem_of_getElem? hy);obtain⟨y0,y1,-⟩:=cells_Lk hslr hy;obtain⟨yp,yd,yr⟩:=y;simp only at y0 y1 hypz
       by_cases hdg:yd=⟨#[]⟩
       ·subst hdg;clear hsl hsl5 hslr hxr;obtain⟨hRdH,hyH⟩:=hq2 hRd (Lib.hid hy);clear hRd hy;go_wp2_with fail;refine startR (R:=Rk (fun _=>True) (fun w'=>w'.cell? ⟨tb,2,none⟩=some (.slice AM nM cM)∧w'.cell? ⟨xb,3,none⟩=some (.slice (some ⟨bl,ol,none⟩) Ln Lc)∧w'.cell? ⟨bl,ol+k*3,none⟩=some (.string yp)) 11 11) (by kernel_rfl) ?_;have hC:wr.drew.cell? ⟨tb,2,none⟩=some (.slice AM nM cM)∧wr.drew.cell? ⟨xb,3,none⟩=some (.slice (some ⟨bl,ol,none⟩) Ln Lc)∧wr.drew.cell? ⟨bl,ol+k*3,none⟩=some (.string yp):=⟨t2,x3,y0⟩;refine takeC (i:=0) (d:=some 76) (v:=?_) rfl rfl (by kernel_rfl) (by kernel_rfl) (by kernel_rfl) (by kernel_rfl) (fun _ _ _ h=>h) (Or.inl ⟨by rfl,?_⟩) hC ?_
        rotate_left
        ·(intro w hSw;(try dsimp only at hSw);go_simp;(try with_reducible rfl))
        (try simp only[Act.put,List.setIfInBounds_toArray,List.set_cons_zero,List.set_cons_succ])
        refine takeC (i:=1) (d:=some 77) (v:=?_) rfl rfl (by kernel_rfl) (by kernel_rfl) (by kernel_rfl) (by kernel_rfl) (fun _ _ _ h=>h) (Or.inl ⟨by rfl,?_⟩) hC ?_
        rotate_left
        ·(intro w hSw;(try dsimp only at hSw);go_simp;(try with_reducible rfl))
        (try simp only[Act.put,List.setIfInBounds_toArray,List.set_cons_zero,List.set_cons_succ])
        refine takeC (i:=2) (d:=some 78) (v:=?_) rfl rfl (by kernel_rfl) (by kernel_rfl) (by kernel_rfl) (by kernel_rfl) (fun _ _ _ h=>h) (Or.inl ⟨by rfl,?_⟩) hC ?_
        rotate_left
        ·(intro w hSw;(try dsimp only at hSw);go_simp;(try with_reducible rfl))
        (try simp only[Act.put,List.setIfInBounds_toArray,List.set_cons_zero,List.set_cons_succ])
        refine takeC (i:=3) (d:=some 79) (v:=?_) rfl rfl (by kernel_rfl) (by kernel_rfl) (by kernel_rfl) (by kernel_rfl) (fun _ _ _ h=>h) (Or.inl ⟨by rfl,?_⟩) hC ?_
        rotate_left
        ·(intro w hSw;(try dsimp only at hSw);go_simp;(try with_reducible rfl))
        (try simp only[Act.put,List.setIfInBounds_toArray,List.set_cons_zero,List.set_cons_succ])
        refine takeC (i:=4) (d:=some 80) (v:=?_) rfl rfl (by kernel_rfl) (by kernel_rfl) (by kernel_rfl) (by kernel_rfl) (fun _ _ _ h=>h) (Or.inl ⟨by rfl,?_⟩) hC ?_
        rotate_left
        ·(intro w hSw;(try dsimp only at hSw);go_simp;(try with_reducible rfl))
        (try simp only[Act.put,List.setIfInBounds_toArray,List.set_cons_zero,List.set_cons_succ])
        refine takeC (i:=5) (d:=some 81) (v:=?_) rfl rfl (by kernel_rfl) (by kernel_rfl) (by kernel_rfl) (by kernel_rfl) (fun _ _ _ h=>h) (Or.inl ⟨by rfl,?_⟩) hC ?_
        rotate_left
        ·(intro w hSw;(try dsimp only at hSw);go_simp;(try with_reducible rfl))
        (try simp only[Act.put,List.setIfInBounds_toArray,List.set_cons_zero,List.set_cons_succ])
        refine takeC (i:=6) (d:=some 82) (v:=?_) rfl rfl (by kernel_rfl) (by kernel_rfl) (by kernel_rfl) (by kernel_rfl) (fun _ _ _ h=>h) (Or.inl ⟨by rfl,?_⟩) hC ?_
        rotate_left
        ·(intro w hSw;(try dsimp only at hSw);go_simp;(try with_reducible rfl))
        (try simp only[Act.put,List.setIfInBounds_toArray,List.set_cons_zero,List.set_cons_succ])
        refine takeC (i:=7) (d:=some 83) (v:=?_) rfl rfl (by kernel_rfl) (by kernel_rfl) (by kernel_rfl) (by kernel_rfl) (fun _ _ _ h=>h) (Or.inl ⟨by rfl,?_⟩) hC ?_
        rotate_left
        ·(intro w hSw;(try dsimp only at hSw);go_simp;(try with_reducible rfl))
        (try simp only[Act.put,List.setIfInBounds_toArray,List.set_cons_zero,List.set_cons_succ])
        refine oneR (i:=8) (by kernel_rfl) rfl (fun K hK=>?_);go_simp;have hb8:Below wr.heap.size wr (wr.drew.alloc (.cells #[.string yp] 9)):=((Below.refl _ _).drew).alloc (Nat.le_refl _) _;have h8:=hRdH.out.below hb8;have hC8:(wr.drew.alloc (.cells #[.string yp] 9)).cell? ⟨tb,2,none⟩=some (.slice AM nM cM)∧(wr.drew.alloc (.cells #[.string yp] 9)).cell? ⟨xb,3,none⟩=some (.slice (some ⟨bl,ol,none⟩) Ln Lc)∧(wr.drew.alloc (.cells #[.string yp] 9)).cell? ⟨bl,ol+k*3,none⟩=some (.string yp):=⟨keepC hb8 t2,keepC hb8 x3,keepC hb8 y0⟩;refine hK.out _ _ ⟨fun _ _ _=>trivial,fun _ _=>hC8⟩ ?_;clear hK K
        (try simp only[Act.put,List.setIfInBounds_toArray,List.set_cons_zero,List.set_cons_succ])
        have hown8:=h8.miss;have hlen8:=hown8.len;have hnew:=slAt_new (R:=RStr) wr.drew 9 yp hypz;have hszb:=hb8.size;have hle8:=hRdH.out.le;obtain⟨hown8H,hnewH,h8H,hb8H,hlen8H⟩:=hqb hown8 hnew h8 hb8 (Lib.hid hlen8);clear hown8 hnew h8 hb8 hlen8;refine oneR (i:=9) (by kernel_rfl) rfl (fun K hK=>?_);refine step_app1g (R:=RStr) (base:=W5.heap.size) (v:=.slice AM nM cM) (l:=missL (ls.take k)) ?g1 (.tmp 77) (.tmp 84) 24 ?g2 Tryz.underlying24 elem_Str (by decide) ?g3 hown8H.out wr.heap.size yp ?g4 hnewH.out (fun _ _ _ _ h=>h) ?a4 ?a5 ?a6 (nM+1) ?a7 ?_
        case g1=>rfl
        case g2=>rfl
        case g3=>rfl
        case g4=>rfl
        case a4=>rw[hlen8H.out];unfold maxLen;omega
        case a5=>rw[hlen8H.out];omega
        case a6=>exact Nat.le_trans hle8 hszb
        case a7=>rw[hlen8H.out]
        intro A9 c9 w9 hown9 hg9 hd9;obtain⟨hz9,h9⟩:=h8H.out.putM (y:=⟨yp,⟨#[]⟩,yr⟩) rfl hown9 hg9 (fun b hb=>(hd9 b hb).imp id fun h=>by simpa using h);have hkg:Kp (QS tb W5.heap.size) (wr.drew.alloc (.cells #[.string yp] 9)) w9:=Kp.of_grown hg9 fun b hb=>.inr ((hown8H.out.1.lt b hb).1);have hC9:w9.cell? ⟨tb,2,none⟩=some (.slice AM nM cM)∧w9.cell? ⟨xb,3,none⟩=some (.slice (some ⟨bl,ol,none⟩) Ln Lc)∧w9.cell? ⟨bl,ol+k*3,none⟩=some (.string yp):=⟨(hz9 2 _ rfl).1,hkg.cell hC8.2.1 (fun e=>by rcases e with e | e <;> simp at e <;> omega),hkg.cell hC8.2.2 (fun e=>by rcases e with e | e <;> simp at e <;> omega)⟩;have f9:=(hz9 2 _ rfl).2;have R:RtRel ls tb W5.heap.size W5 (.int .i64 ((k:Int)+1)) (w9.setCell ⟨tb,2,none⟩ (.slice A9 (nM+1) c9)):=by
         have htk:ls.take (k+1)=ls.take k ++ [⟨yp,⟨#[]⟩,yr⟩]:=by rw[List.take_add_one,hyH.out];rfl
         refine⟨k+1,AH,nH,cH,A9,nM+1,c9,by omega,by go_num,?_⟩;rw[htk];exact h9
        clear hkg hown9 hg9 hd9 h9;obtain⟨RH,hz9H⟩:=hq2 R (Lib.hid hz9);clear R hz9;refine hK.out _ _ ⟨fun _ _ _=>trivial,fun _ _=>hC9⟩ ?_;clear hK K
        (try simp only[Act.put,List.setIfInBounds_toArray,List.set_cons_zero,List.set_cons_succ])
        clear hC hC8;have hC:=hC9;refine takeC (i:=10) (d:=some 86) (v:=?_) rfl rfl (by kernel_rfl) (by kernel_rfl) (by kernel_rfl) (by kernel_rfl) (fun _ _ _ h=>h) (Or.inl ⟨by rfl,?_⟩) hC ?_
        rotate_left
        ·(intro w hSw;(try dsimp only at hSw);go_simp;(try with_reducible rfl))
        (try simp only[Act.put,List.setIfInBounds_toArray,List.set_cons_zero,List.set_cons_succ])
        refine oneR (i:=11) (by kernel_rfl) rfl (fun K hK=>?_);go_simp;refine hK.out _ _ ⟨fun h=>absurd rfl h,fun h=>absurd rfl h⟩ ?_;clear hK K
        (try simp only[Act.put,List.setIfInBounds_toArray,List.set_cons_zero,List.set_cons_succ])
        refine doneR (by kernel_rfl) ?_ _;clear hC hC9 t2 x3 y0;go_wp2;refine⟨?rel,?measure⟩
        case measure=>(simp[intOf];omega)
        case rel=>first | exact RH.out | exact⟨rfl,RH.out⟩
       ·have hde:yd.toList.isEmpty=false:=by
         have h2:=beq_data yd ⟨#[]⟩;rw[decide_eq_false hdg,show (⟨#[]⟩:ByteArray).toList = [] from by rw[ByteArray.toList_eq]]at h2
         cases he:yd.toList with
         | nil=>rw[he]at h2;cases h2
         | cons a l=>rfl
        clear hsl hsl5 hslr hxr;obtain⟨hRdH,hyH⟩:=hq2 hRd (Lib.hid hy);clear hRd hy;go_wp2_with fail;refine startR (R:=Rk (fun _=>True) (fun w'=>w'.cell? ⟨tb,1,none⟩=some (.slice AH nH cH)∧w'.cell? ⟨xb,3,none⟩=some (.slice (some ⟨bl,ol,none⟩) Ln Lc)∧w'.cell? ⟨bl,ol+k*3,none⟩=some (.string yp)) 11 11) (by kernel_rfl) ?_;have hC:wr.drew.cell? ⟨tb,1,none⟩=some (.slice AH nH cH)∧wr.drew.cell? ⟨xb,3,none⟩=some (.slice (some ⟨bl,ol,none⟩) Ln Lc)∧wr.drew.cell? ⟨bl,ol+k*3,none⟩=some (.string yp):=⟨t1,x3,y0⟩;refine takeC (i:=0) (d:=some 87) (v:=?_) rfl rfl (by kernel_rfl) (by kernel_rfl) (by kernel_rfl) (by kernel_rfl) (fun _ _ _ h=>h) (Or.inl ⟨by rfl,?_⟩) hC ?_
        rotate_left
        ·(intro w hSw;(try dsimp only at hSw);go_simp;(try with_reducible rfl))
        (try simp only[Act.put,List.setIfInBounds_toArray,List.set_cons_zero,List.set_cons_succ])
        refine takeC (i:=1) (d:=some 88) (v:=?_) rfl rfl (by kernel_rfl) (by kernel_rfl) (by kernel_rfl) (by kernel_rfl) (fun _ _ _ h=>h) (Or.inl ⟨by rfl,?_⟩) hC ?_
        rotate_left
        ·(intro w hSw;(try dsimp only at hSw);go_simp;(try with_reducible rfl))
        (try simp only[Act.put,List.setIfInBounds_toArray,List.set_cons_zero,List.set_cons_succ])
        refine takeC (i:=2) (d:=some 89) (v:=?_) rfl rfl (by kernel_rfl) (by kernel_rfl) (by kernel_rfl) (by kernel_rfl) (fun _ _ _ h=>h) (Or.inl ⟨by rfl,?_⟩) hC ?_
        rotate_left
        ·(intro w hSw;(try dsimp only at hSw);go_simp;(try with_reducible rfl))
        (try simp only[Act.put,List.setIfInBounds_toArray,List.set_cons_zero,List.set_cons_succ])
        refine takeC (i:=3) (d:=some 90) (v:=?_) rfl rfl (by kernel_rfl) (by kernel_rfl) (by kernel_rfl) (by kernel_rfl) (fun _ _ _ h=>h) (Or.inl ⟨by rfl,?_⟩) hC ?_
        rotate_left
        ·(intro w hSw;(try dsimp only at hSw);go_simp;(try with_reducible rfl))
        (try simp only[Act.put,List.setIfInBounds_toArray,List.set_cons_zero,List.set_cons_succ])
        refine takeC (i:=4) (d:=some 91) (v:=?_) rfl rfl (by kernel_rfl) (by kernel_rfl) (by kernel_rfl) (by kernel_rfl) (fun _ _ _ h=>h) (Or.inl ⟨by rfl,?_⟩) hC ?_
        rotate_left
        ·(intro w hSw;(try dsimp only at hSw);go_simp;(try with_reducible rfl))
        (try simp only[Act.put,List.setIfInBounds_toArray,List.set_cons_zero,List.set_cons_succ])
        refine takeC (i:=5) (d:=some 92) (v:=?_) rfl rfl (by kernel_rfl) (by kernel_rfl) (by kernel_rfl) (by kernel_rfl) (fun _ _ _ h=>h) (Or.inl ⟨by rfl,?_⟩) hC ?_
        rotate_left
        ·(intro w hSw;(try dsimp only at hSw);go_simp;(try with_reducible rfl))
        (try simp only[Act.put,List.setIfInBounds_toArray,List.set_cons_zero,List.set_cons_succ])
        refine takeC (i:=6) (d:=some 93) (v:=?_) rfl rfl (by kernel_rfl) (by kernel_rfl) (by kernel_rfl) (by kernel_rfl) (fun _ _ _ h=>h) (Or.inl ⟨by rfl,?_⟩) hC ?_
        rotate_left
        ·(intro w hSw;(try dsimp only at hSw);go_simp;(try with_reducible rfl))
        (try simp only[Act.put,List.setIfInBounds_toArray,List.set_cons_zero,List.set_cons_succ])
        refine takeC (i:=7) (d:=some 94) (v:=?_) rfl rfl (by kernel_rfl) (by kernel_rfl) (by kernel_rfl) (by kernel_rfl) (fun _ _ _ h=>h) (Or.inl ⟨by rfl,?_⟩) hC ?_
        rotate_left
        ·(intro w hSw;(try dsimp only at hSw);go_simp;(try with_reducible rfl))
        (try simp only[Act.put,List.setIfInBounds_toArray,List.set_cons_zero,List.set_cons_succ])
        refine oneR (i:=8) (by kernel_rfl) rfl (fun K hK=>?_);go_simp;have hb8:Below wr.heap.size wr (wr.drew.alloc (.cells #[.string yp] 9)):=((Below.refl _ _).drew).alloc (Nat.le_refl _) _;have h8:=hRdH.out.below hb8;have hC8:(wr.drew.alloc (.cells #[.string yp] 9)).cell? ⟨tb,1,none⟩=some (.slice AH nH cH)∧(wr.drew.alloc (.cells #[.string yp] 9)).cell? ⟨xb,3,none⟩=some (.slice (some ⟨bl,ol,none⟩) Ln Lc)∧(wr.drew.alloc (.cells #[.string yp] 9)).cell? ⟨bl,ol+k*3,none⟩=some (.string yp):=⟨keepC hb8 t1,keepC hb8 x3,keepC hb8 y0⟩;refine hK.out _ _ ⟨fun _ _ _=>trivial,fun _ _=>hC8⟩ ?_;clear hK K
        (try simp only[Act.put,List.setIfInBounds_toArray,List.set_cons_zero,List.set_cons_succ])
        have hown8:=h8.hit;have hlen8:=hown8.len;have hnew:=slAt_new (R:=RStr) wr.drew 9 yp hypz;have hszb:=hb8.size;have hle8:=hRdH.out.le;obtain⟨hown8H,hnewH,h8H,hb8H,hlen8H⟩:=hqb hown8 hnew h8 hb8 (Lib.hid hlen8);clear hown8 hnew h8 hb8 hlen8;refine oneR (i:=9) (by kernel_rfl) rfl (fun K hK=>?_);refine step_app1g (R:=RStr) (base:=W5.heap.size) (v:=.slice AH nH cH) (l:=hitL (ls.take k)) ?g1 (.tmp 88) (.tmp 95) 24 ?g2 Tryz.underlying24 elem_Str (by decide) ?g3 hown8H.out wr.heap.size yp ?g4 hnewH.out (fun _ _ _ _ h=>h) ?a4 ?a5 ?a6 (nH+1) ?a7 ?_
        case g1=>rfl
        case g2=>rfl
        case g3=>rfl
        case g4=>rfl
        case a4=>rw[hlen8H.out];unfold maxLen;omega
        case a5=>rw[hlen8H.out];omega
        case a6=>exact Nat.le_trans hle8 hszb
        case a7=>rw[hlen8H.out]
        intro A9 c9 w9 hown9 hg9 hd9;obtain⟨hz9,h9⟩:=h8H.out.putH (y:=⟨yp,yd,yr⟩) hdg hown9 hg9 (fun b hb=>(hd9 b hb).imp id fun h=>by simpa using h);have hkg:Kp (QS tb W5.heap.size) (wr.drew.alloc (.cells #[.string yp] 9)) w9:=Kp.of_grown hg9 fun b hb=>.inr ((hown8H.out.1.lt b hb).1);have hC9:w9.cell? ⟨tb,1,none⟩=some (.slice AH nH cH)∧w9.cell? ⟨xb,3,none⟩=some (.slice (some ⟨bl,ol,none⟩) Ln Lc)∧w9.cell? ⟨bl,ol+k*3,none⟩=some (.string yp):=⟨(hz9 1 _ rfl).1,hkg.cell hC8.2.1 (fun e=>by rcases e with e | e <;> simp at e <;> omega),hkg.cell hC8.2.2 (fun e=>by rcases e with e | e <;> simp at e <;> omega)⟩;have f9:=(hz9 1 _ rfl).2;have R:RtRel ls tb W5.heap.size W5 (.int .i64 ((k:Int)+1)) (w9.setCell ⟨tb,1,none⟩ (.slice A9 (nH+1) c9)):=by
         have htk:ls.take (k+1)=ls.take k ++ [⟨yp,yd,yr⟩]:=by rw[List.take_add_one,hyH.out];rfl
         refine⟨k+1,A9,nH+1,c9,AM,nM,cM,by omega,by go_num,?_⟩;rw[htk];exact h9
        clear hkg hown9 hg9 hd9 h9;obtain⟨RH,hz9H⟩:=hq2 R (Lib.hid hz9);clear R hz9;refine hK.out _ _ ⟨fun _ _ _=>trivial,fun _ _=>hC9⟩ ?_;clear hK K
        (try simp only[Act.put,List.setIfInBounds_toArray,List.set_cons_zero,List.set_cons_succ])
        clear hC hC8;have hC:=hC9;refine takeC (i:=10) (d:=some 97) (v:=?_) rfl rfl (by kernel_rfl) (by kernel_rfl) (by kernel_rfl) (by kernel_rfl) (fun _ _ _ h=>h) (Or.inl ⟨by rfl,?_⟩) hC ?_
        rotate_left
        ·(intro w hSw;(try dsimp only at hSw);go_simp;(try with_reducible rfl))
        (try simp only[Act.put,List.setIfInBounds_toArray,List.set_cons_zero,List.set_cons_succ])
        refine oneR (i:=11) (by kernel_rfl) rfl (fun K hK=>?_);go_simp;refine hK.out _ _ ⟨fun h=>absurd rfl h,fun h=>absurd rfl h⟩ ?_;clear hK K
        (try simp only[Act.put,List.setIfInBounds_toArray,List.set_cons_zero,List.set_cons_succ])
        refine doneR (by kernel_rfl) ?_ _;clear hC hC9 t1 x3 y0;go_wp2;refine⟨?rel,?measure⟩
        case measure=>(simp[intOf];omega)
        case rel=>first | exact RH.out | exact⟨rfl,RH.out⟩
      ·obtain rfl:k=Ln:=by omega
       rw[List.take_of_length_le (by omega)]at hRd;have hbt:Below tb W5 wr:=hRd.kp.below (by omega) (fun b hb=>by rcases hb with hb | hb <;> omega);have hb3r:Below W3.heap.size W3 wr:=by rw[htbH.out];exact hb5H.out.trans hbt
       have hbR:Below w.heap.size w wr:=hb03H.out.trans (hb3r.mono hb03H.out.size);have hCg:=changes_any A1 m1 c1 l1 A2 m2 c2 l2 wr (hmxH.out.below hbR) ((RSl RFile).mono _ _ _ hbR h1H.out) ((RSl RFile).mono _ _ _ hbR h2H.out);have hroR:=hro3H.out.below hb3r;have hro2R:=hro23H.out.below hb3r;have hyr:=blk_below hzyH.out (by simp) hb3r;clear hbt t1 t2;obtain⟨hRdH,hbRH,hCgH,hxrH,hyrH,hroRH,hro2RH,hb3rH⟩:=hq2 hRd (hq2 hbR (hq2 hCg (hqb hxr hyr hroR hro2R (Lib.hid hb3r))));clear hRd hbR hCg hxr hyr hroR hro2R hb3r;go_wp2_with fail;refine hCgH.out.mono ?_;rintro e w7 (⟨c,hc,hnx,rfl,hb7⟩ | ⟨A7,n7,c7,L,rfl,hfx1,hfx2,hLr,hLz,hLm,hown7,hb7⟩)
       ·exfalso;obtain⟨R,fp,lp,hbo,_⟩:=hok1H.out;obtain⟨R2,fp2,lp2,hbo2,_⟩:=hok2H.out;exact hnx ⟨hbo.fx,hbo2.fx⟩
       ·have hRd7:=hRdH.out.below hb7;have hbR7:=hbRH.out.trans (hb7.mono hbRH.out.size);have hro7:=hroRH.out.below hb7;have hro27:=hro2RH.out.below hb7;have hx7:=blk_below hxrH.out (by simp) hb7;have hy7:=blk_below hyrH.out (by simp) hb7;obtain⟨t0,-⟩:=hRd7.blk 0 _ rfl;obtain⟨t1,-⟩:=hRd7.blk 1 _ rfl;obtain⟨t2,-⟩:=hRd7.blk 2 _ rfl;have hn7:=hown7.len;obtain⟨ch,hch⟩:∃ ch,L.filterMap (chOf (inpF l1) (inpF l2))=ch:=⟨_,rfl⟩;rw[hch]at hown7 hn7;have hn7z:n7≤maxLen:=Nat.le_trans hown7.cap_le (own_capx hown7).2.1;unfold maxLen at hn7z;clear x3 hfx1 hfx2;obtain⟨hLrH,hLzH,hLmH,hown7H,hb7H,hRd7H,hbR7H,hro7H,hro27H,hx7H,hy7H,hchH⟩:=hq2 hLr (hq2 hLz (hq2 hLm (hqc hown7 hb7 hRd7 hbR7 hro7 hro27 hx7 hy7 (Lib.hid hch))));clear hLr hLz hLm hown7 hb7 hRd7 hbR7 hro7 hro27 hx7 hy7 hch;have fin:∀ W,Below w7.heap.size w7 W→Calls Tryz.prog 6 #[] W fun e w'=>e = .returned (.bool true)∧Z (.returned (.bool true)) w':=fun W hW=>(lives_any W).mono fun e w9 ⟨h1,h2⟩=>⟨h1,RZH.out w9 (hbR7H.out.trans ((hW.trans (h2.mono hW.size)).mono hbR7H.out.size))⟩;have finH:=Lib.hid fin;clear fin
        by_cases hq1:nM≤1000
        ·by_cases hqw2:n7≤1000
         ·have i1:¬ (1000:Int)<(nM:Int):=by omega
          have i2:¬ (1000:Int)<(n7:Int):=by omega
          obtain⟨W8,hW8⟩:∃ W,w7.alloc (.cells #[.string wT,.slice AH nH cH,.slice AM nM cM] 36)=W:=⟨_,rfl⟩;have hb8:=bel_of hW8;obtain⟨T,hT⟩:∃ T:TestReads,T=⟨wT,⟨AH,nH,cH,hitL ls⟩,⟨AM,nM,cM,missL ls⟩⟩:=⟨_,rfl⟩;have hTok:RTestReads.ok w7 T:=by
           rw[hT];exact⟨by show wT.size≤maxLen;decide,⟨hRd7H.out.hit.slAt,hRd7H.out.hit.cap_le,(own_capx hRd7H.out.hit).2.1,(own_capx hRd7H.out.hit).1⟩,⟨hRd7H.out.miss.slAt,hRd7H.out.miss.cap_le,(own_capx hRd7H.out.miss).2.1,(own_capx hRd7H.out.miss).1⟩⟩
          have hl8:SlAt RTestReads W8 (some ⟨w7.heap.size,0,none⟩) 1 [T]:=by
           have:=slAt_new (R:=RTestReads) w7 36 T hTok;rw[← hW8];rw[hT]at this ⊢;exact this
          have hAf:=affected_any (some ⟨w7.heap.size,0,none⟩) 1 1 [T] A7 n7 c7 ch W8 (hmxH.out.below (hbR7H.out.trans (hb8.mono hbR7H.out.size))) hl8 (hown7H.out.slAt.below hb8) _ rfl;obtain⟨-,hta2,hta3⟩:=tell_all hok1H.out hok2H.out hnlH.out T (by rw[hT]) (by rw[hT]) (by rw[hT]) (by rw[hT];exact hRd7H.out.hit.len) L hLrH.out hLzH.out hLmH.out ch hchH.out.symm;have h0:=hta2 (by rw[hT];exact hq1) (by omega);have hta:=hta3 h0;clear hta2 hta3 hTok;obtain⟨a,ha⟩:∃ a,affF [T] ch=a:=⟨_,rfl⟩;rw[ha]at hAf h0 hta;obtain⟨La,fa⟩:=a;simp only at h0 hta;subst h0;obtain⟨hTH,haH,htaH,hAfH,hb8H,hl8H⟩:=hq2 hT (hqb ha hta hAf hb8 (Lib.hid hl8));clear hT ha hta hAf hb8 hl8;go_wp2_with fail
          try rw[hW8]
          refine hAfH.out.mono ?_;rintro e w9 ⟨AL,mL,cL,rfl,hsL,⟨hmL,_⟩,hb9⟩;simp only at hsL ⊢;have hb79:=hb8H.out.trans (hb9.mono hb8H.out.size);have hx9:=blk_below hx7H.out (by simp) hb79;have hy9:=blk_below hy7H.out (by simp) hb79;obtain⟨x0,-⟩:=hx9 0 _ rfl;obtain⟨x1,-⟩:=hx9 1 _ rfl;obtain⟨x2,-⟩:=hx9 2 _ rfl;obtain⟨x3,-⟩:=hx9 3 _ rfl;obtain⟨x4,-⟩:=hx9 4 _ rfl;obtain⟨y0,-⟩:=hy9 0 _ rfl;obtain⟨y1,-⟩:=hy9 1 _ rfl;obtain⟨y2,-⟩:=hy9 2 _ rfl;obtain⟨y3,-⟩:=hy9 3 _ rfl;obtain⟨y4,-⟩:=hy9 4 _ rfl;have hSr:=sameResult_any _ _ w9 (hro7H.out.below hb79) (hro27H.out.below hb79);simp only[Rs.cells]at hSr;clear t0 t1 t2 hW8;obtain⟨hsLH,hb9H,hb79H,hx9H,hy9H,hSrH⟩:=hq2 hsL (hqb hb9 hb79 hx9 hy9 (Lib.hid hSr));clear hsL hb9 hb79 hx9 hy9 hSr;go_wp2_with fail;refine hSrH.out.mono ?_;rintro e w10 ⟨b,rfl,hbs,hb10⟩;have hb710:=hb79H.out.trans (hb10.mono hb79H.out.size);clear x0 x1 x2 x3 x4 y0 y1 y2 y3 y4
          cases b
          ·have hLa:La = [wT]:=by
            rcases htaH.out with h | ⟨_,h⟩
            ·exact h
            ·exact absurd (hbs h) (by decide)
           subst hLa;have hmL1:1=mL:=hsLH.out.1;subst hmL1;have hs10:=hsLH.out.below hb10;obtain⟨bq,oq,hAq,_⟩:=hs10.2.1 (by decide);subst hAq;obtain⟨W11,hW11⟩:∃ W,w10.alloc (.cells #[.string ⟨#[116]⟩] 9)=W:=⟨_,rfl⟩;have hb11:=bel_of hW11;have hs11:=hs10.below hb11;have hEq:=Tryz.slices_Equal_string bq oq 1 cL w10.heap.size 0 1 1 [wT] [wT] W11 (by decide) (by decide) (by decide) (by decide) (fun j hj=>by
            obtain rfl:j=0:=by simp at hj;omega
            exact cell_Str hs11 (k:=0) rfl) (fun j hj=>by
            obtain rfl:j=0:=by simp at hj;omega
            rw[← hW11];exact cell_new w10 _ _ 0)
           clear hbs;obtain⟨hb10H,hb710H,hs10H,hb11H,hs11H,hEqH⟩:=hq2 hb10 (hqb hb710 hs10 hb11 hs11 (Lib.hid hEq));clear hb10 hb710 hs10 hb11 hs11 hEq;go_wp2_with fail
           try rw[hW11]
           refine hEqH.out.mono ?_;rintro e w12 ⟨rfl,q,rfl⟩;have hbq:=hb11H.out.trans (bel_drewN (Below.refl _ _) q |>.mono hb11H.out.size);have hF:=finH.out _ (hb710H.out.trans (hbq.mono hb710H.out.size));clear hbq;have hFH:=Lib.hid hF;clear hF;go_wp2_with fail;refine hFH.out.mono ?_;rintro e w13 ⟨rfl,R⟩;have RH:=Lib.hid R;clear R;go_wp2_with fail;exact RH.out
          ·have hF:=finH.out _ hb710;clear hbs;obtain⟨hb10H,hb710H,hFH⟩:=hq2 hb10 (hq2 hb710 (Lib.hid hF));clear hb10 hb710 hF;go_wp2_with fail;refine hFH.out.mono ?_;rintro e w13 ⟨rfl,R⟩;have RH:=Lib.hid R;clear R;go_wp2_with fail;exact RH.out
         ·have i1:¬ (1000:Int)<(nM:Int):=by omega
          have i2:(1000:Int)<(n7:Int):=by omega
          go_wp2_with fail;refine(finH.out _ (Below.refl _ _)).mono ?_;rintro e w9 ⟨rfl,R⟩;have RH:=Lib.hid R;clear R;go_wp2_with fail;exact RH.out
        ·have i1:(1000:Int)<(nM:Int):=by omega
         go_wp2_with fail;refine(finH.out _ (Below.refl _ _)).mono ?_;rintro e w9 ⟨rfl,R⟩;have RH:=Lib.hid R;clear R;go_wp2_with fail;exact RH.out
  ·have hne:(g==0)=false:=by simpa using hg
   have hne2:(g != 0)=true:=by simpa using hg
   clear hg;go_wp2_with fail;refine(lives_any _).mono ?_;rintro e w9 ⟨rfl,hb9⟩;have R:=RZH.out w9 (hb03H.out.trans (hb9.mono hb03H.out.size));obtain⟨hb9H,RH⟩:=hq2 hb9 (Lib.hid R);clear hb9 R;go_wp2_with fail;exact RH.out
 ·have hne:(f==0)=false:=by simpa using hf
  have hne2:(f != 0)=true:=by simpa using hf
  obtain rfl:Ln=0:=hrcH.out hf;clear hf;go_wp2_with fail;refine(lives_any _).mono ?_;rintro e w9 ⟨rfl,hb9⟩;have R:=RZH.out w9 (hb03H.out.trans (hb9.mono hb03H.out.size));obtain⟨hb9H,RH⟩:=hq2 hb9 (Lib.hid R);clear hb9 R;go_wp2_with fail;exact RH.out
end Go.Proofs.YtdiaabeollcjaaaGreatDoor.C10
namespace Go.Proofs.YtdiaabeollcjaaaGreatDoor.C10
open Go.ChangeShapes Go.WideShapes Go.Deep Go.RowKit
theorem law_tell_w (x:Action) (a1 a2:SlD File) (w:World) (hx:RAction.ok w x) (h1:(RSl RFile).ok w a1) (h2:(RSl RFile).ok w a2) (hmx:MaxLenAt w) (hpw:PowJ w) :
  Calls Tryz.prog 3 #[.agg (RAction.vals x).toArray,.slice a1.A a1.n a1.cap,.slice a2.A a2.n a2.cap] w fun e w'=>e = .returned (.bool true)∧Below w.heap.size w w' :=
 law_tell x a1 a2 w hmx hpw hx h1 h2
end Go.Proofs.YtdiaabeollcjaaaGreatDoor.C10