/-
 Several texts of mine as one, without what is not wanted here: XChB, XCgA, XCgB.
-/
import Derived.Test.YtdiaabeollcjaaaGreatDoorTlOC10
set_option linter.unusedVariables false
set_option linter.unusedSimpArgs false
set_option maxRecDepth 100000
set_option maxHeartbeats 8000000
namespace Go.Proofs.YtdiaabeollcjaaaGreatDoor.C10
open Go.ChangeShapes Go.WideShapes Go.Deep Go.RowKit Go.Lib Go.Maps
def tcB (p q:ByteArray):Bool:=(p.toList==q.toList)||wiB p q||wiB q p
theorem touch_any (p q:ByteArray) (hp:p.size≤1000) (hq:q.size≤1000) (w:World) (b:Bool) (hb:tcB p q=b):Calls Tryz.prog 32 #[.string p,.string q] w fun e w'=>e = .returned (.bool b)∧w=w':=by
 unfold tcB at hb;have h1:=withinS_any p q w (by omega);have h2:=withinS_any q p w (by omega);obtain⟨b0,hb0⟩:∃ b,(p.toList==q.toList)=b:=⟨_,rfl⟩;obtain⟨b1,hb1⟩:∃ b,wiB p q=b:=⟨_,rfl⟩;obtain⟨b2,hb2⟩:∃ b,wiB q p=b:=⟨_,rfl⟩;rw[hb0,hb1,hb2]at hb;unfold wiB at hb1 hb2;rw[hb1]at h1;rw[hb2]at h2;clear hb1 hb2;obtain⟨h1H,h2H⟩:=hq2 h1 (Lib.hid h2);clear h1 h2
 cases b0
 ·go_enter Tryz.func32,Tryz.ntmps32;go_wp2_with fail;refine h1H.out.mono ?_;rintro e w1 ⟨rfl,rfl⟩
  cases b1
  ·go_wp2_with fail;refine h2H.out.mono ?_;rintro e w1 ⟨rfl,rfl⟩;go_wp2_with fail;go_ret;exact⟨ret_bool (by simpa using hb),rfl⟩
  ·go_wp2_with fail;go_ret;exact⟨ret_bool (by simpa using hb),rfl⟩
 ·go_enter Tryz.func32,Tryz.ntmps32;go_wp2_with fail;go_ret;exact⟨ret_bool (by simpa using hb),rfl⟩
theorem both_fn (t:ByteArray) (ht:t.size≤1000) (b:Nat) (w:World) (hc:w.cell? ⟨b,0,none⟩=some (.string t)):PredAt Tryz.prog 31 #[.pointer (some ⟨b,0,none⟩)] encK (fun s:Sk=>tcB s.1 t) w:=fun W r hb=>by
 obtain⟨s,hs⟩:=r;show Calls Tryz.prog 31 #[.string s,.pointer (some ⟨b,0,none⟩)] W (fun e w'=>e = .returned (.bool (tcB s t))∧∃ q,w'=W.drewN q);have hcW:=keepC hb hc;obtain⟨v,hv⟩:∃ v,tcB s t=v:=⟨_,rfl⟩;have hto:=touch_any s t hs ht W v hv;rw[hv];have htoH:=Lib.hid hto;clear hto;go_enter Tryz.func31,Tryz.ntmps31;go_wp2_with fail;refine htoH.out.mono ?_;rintro e w1 ⟨rfl,rfl⟩;go_wp2_with fail;go_ret;exact⟨rfl,0,rfl⟩
def CbRel (l:List File) (w0:World) (i:Value) (wr:World):Prop:=∃ k:Nat,k≤l.length∧i = .int .i64 k∧Below w0.heap.size w0 wr
theorem checkBoth_any (x:Action) (A:Option Addr) (m c:Nat) (l:List File) (w:World) (hm:MaxLenAt w) (hx:RAction.ok w x) (hl:SlAt RFile w A m l) :
  Calls Tryz.prog 14 #[actV x,.slice A m c] w (ChkAns x l w):=by
 obtain⟨Z,hZ⟩:∃ Z,ChkAns x l w=Z:=⟨_,rfl⟩;have hZ':∀ e W,ChkAns x l w e W→Z e W:=fun e W h=>by rw[← hZ];exact h
 rw[hZ];clear hZ;obtain⟨w0,hw0⟩:∃ W,w.alloc (.cells #[.string x.tool,.slice x.commands.A x.commands.n x.commands.cap,.slice x.vars.A x.vars.n x.vars.cap,.slice x.outputs.A x.outputs.n x.outputs.cap,.slice x.needs.A x.needs.n x.needs.cap,.int .i64 x.time] 26)=W:=⟨_,rfl⟩;have hb0:Below w.heap.size w w0:=by rw[← hw0];exact(Below.refl _ _).alloc (Nat.le_refl _) _
 have hz0:Blk w0 w.heap.size [.string x.tool,.slice x.commands.A x.commands.n x.commands.cap,.slice x.vars.A x.vars.n x.vars.cap,.slice x.outputs.A x.outputs.n x.outputs.cap,.slice x.needs.A x.needs.n x.needs.cap,.int .i64 x.time]:=by
  rw[← hw0];exact blk_new w [.string x.tool,.slice x.commands.A x.commands.n x.commands.cap,.slice x.vars.A x.vars.n x.vars.cap,.slice x.outputs.A x.outputs.n x.outputs.cap,.slice x.needs.A x.needs.n x.needs.cap,.int .i64 x.time] 26
 have hs0:w0.heap.size=w.heap.size+1:=by rw[← hw0];simp
 have hln:=hl.1;have R0:∀ (k:Int) W,k≠0→Below w0.heap.size w0 W→Z (.returned (.int .i64 k)) W:=fun k W hk h=>hZ' _ _ ⟨k,rfl,fun e=>absurd e hk,hb0.trans (h.mono (by omega))⟩;have hcell:∀ W,Below w0.heap.size w0 W→Blk W w.heap.size [.string x.tool,.slice x.commands.A x.commands.n x.commands.cap,.slice x.vars.A x.vars.n x.vars.cap,.slice x.outputs.A x.outputs.n x.outputs.cap,.slice x.needs.A x.needs.n x.needs.cap,.int .i64 x.time]:=fun W h=>blk_below hz0 (by simp) h;have hx0:=RAction.mono _ _ _ hb0 hx;have hm0:=hm.below hb0;have hl0:=hl.below hb0;obtain⟨d0,_⟩:=hz0 0 _ rfl;obtain⟨d1,_⟩:=hz0 1 _ rfl;obtain⟨d2,_⟩:=hz0 2 _ rfl;obtain⟨d3,_⟩:=hz0 3 _ rfl;obtain⟨d4,_⟩:=hz0 4 _ rfl;obtain⟨d5,_⟩:=hz0 5 _ rfl;have hca:=checkAction_any x w0 hm0 hx0 (fun W=>(dig_any x.tool W _ rfl).mono fun e w' h=>⟨_,h⟩);obtain⟨hZ'H,hmH,hxH,hlH,hb0H,hz0H,R0H,hcellH,hx0H,hm0H,hl0H,hcaH⟩:=hq2 hZ' (hq2 hm (hq2 hx (hqc hl hb0 hz0 R0 hcell hx0 hm0 hl0 (Lib.hid hca))));clear hZ' hm hx hl hb0 hz0 R0 hcell hx0 hm0 hl0 hca;unfold actV;go_enter Tryz.func14,Tryz.ntmps14;go_wp2_with fail;refine hcaH.out.mono ?_;rintro e w1 ⟨z,rfl,hb1,hz⟩
 by_cases hzz:z=0
 ·have hok:=hz hzz;subst hzz;clear hz d0 d1 d2 d3 d4 d5;have hcf:=checkFiles_x A m c l w1 (hm0H.out.below hb1) (hl0H.out.below hb1);have hw1s:=hb1.size;obtain⟨hb1H,hokH,hcfH⟩:=hq2 hb1 (hq2 hok (Lib.hid hcf));clear hb1 hok hcf;go_wp2_with fail;refine hcfH.out.mono ?_;rintro e w2 ⟨z,rfl,hb2,hz⟩;have hb02:=hb1H.out.trans (hb2.mono hw1s)
  by_cases hzz:z=0
  ·have hfx:=hz.1 hzz;have hfo:=hfx.ok;subst hzz;have hst:CbRel l w0 (.int .i64 0) w2:=⟨0,Nat.zero_le _,rfl,hb02⟩;clear hz;obtain⟨hb2H,hb02H,hfoH,hfxH,hstH⟩:=hqb hb2 hb02 hfo hfx (Lib.hid hst);clear hb2 hb02 hfo hfx hst;go_wp2_with fail
   go_loopw [21] (fun i wr=>CbRel l w0 i wr) (fun i _=>m-(intOf i).toNat)
   case atStart=>exact hstH.out
   case round =>
    clear hstH;obtain⟨k,hk,rfl,hb⟩:=hrel;have hm1000:m≤1000:=by have:=hfoH.out.1;omega
    by_cases hlt:k<m
    ·obtain⟨y,hy⟩:∃ y,l[k]? = some y:=⟨l[k]'(by omega),List.getElem?_eq_getElem _⟩;have hsl:=hl0H.out.below hb;obtain⟨b1,o1,hA1,_⟩:=hsl.2.1 (by omega);subst hA1;obtain⟨c0,c1,c2⟩:=cells_File hsl hy;have hyp:=(hfoH.out.2 y (List.mem_of_getElem? hy)).1;obtain⟨yp,yr,⟨yA,yn,yc,yl⟩⟩:=y;simp only at c0 c1 c2 hyp;have hps:=pathB_le hyp;have hba:=(Below.refl wr.heap.size wr).alloc (Nat.le_refl _) (.cells #[.string yp,.bool yr,.slice yA yn yc] 58);have hzq:Blk (wr.alloc (.cells #[.string yp,.bool yr,.slice yA yn yc] 58)) wr.heap.size [.string yp,.bool yr,.slice yA yn yc]:=blk_new wr [.string yp,.bool yr,.slice yA yn yc] 58;have hwrs:=hb.size;have hb03:=hb.trans (hba.mono hwrs);obtain⟨z0,_⟩:=hzq 0 _ rfl;obtain⟨e3,_⟩:=hcellH.out _ hb03 3 _ rfl;have houts:=(RAction.mono _ _ _ hb03 hx0H.out).2.2.2.1.1;have hon:x.outputs.l.length=x.outputs.n:=houts.1;have hou:=hokH.out.2.2;have hcont:=contK_any x.outputs.A x.outputs.n x.outputs.cap x.outputs.l 31 #[.pointer (some ⟨wr.heap.size,0,none⟩)] (fun args w=>enters_of Tryz.func31 (by kernel_rfl) rfl args w) (fun s=>tcB s yp) _ houts (fun s hs=>by have:=pathB_le (hou.2 s hs);omega) (by have:=hou.1;omega) (both_fn yp (by omega) wr.heap.size _ z0);obtain⟨bd,hbd⟩:∃ b,x.outputs.l.any (fun s=>tcB s yp)=b:=⟨_,rfl⟩;rw[hbd]at hcont;clear hbd hou hon;obtain⟨hbH,hslH,hyH,hbaH,hzqH,hb03H,hcontH,houtsH⟩:=hq2 hb (hq2 hsl (hq2 hy (hqb hba hzq hb03 hcont (Lib.hid houts))));clear hb hsl hy hba hzq hb03 hcont houts
     go_wp2_with fail;refine hcontH.out.mono ?_;rintro e w3 ⟨rfl,hb3⟩;have hb04:=hb03H.out.trans (hb3.mono hb03H.out.size)
     cases bd
     ·have R:CbRel l w0 (.int .i64 ((k:Int)+1)) w3:=⟨k+1,by omega,by go_num,hb04⟩;obtain⟨hb3H,hb04H,RH⟩:=hq2 hb3 (hq2 hb04 (Lib.hid R));clear hb3 hb04 R;go_wp2_with fail;exact⟨RH.out,by simp[intOf];omega⟩
     ·have R:=R0H.out 12 w3 (by decide) hb04;obtain⟨hb3H,hb04H,RH⟩:=hq2 hb3 (hq2 hb04 (Lib.hid R));clear hb3 hb04 R;go_wp2_with fail;exact RH.out
    ·have R:=hZ'H.out (.returned (.int .i64 0)) wr ⟨0,rfl,fun _=>⟨hokH.out.1,hokH.out.2.1,hokH.out.2.2.1,hokH.out.2.2.2,hfoH.out.1,hfoH.out.2,hfxH.out⟩,hb0H.out.trans (hb.mono (by omega))⟩;obtain⟨hbH,RH⟩:=hq2 hb (Lib.hid R);clear hb R;go_wp2_with fail;exact RH.out
  ·have hne:(z==0)=false:=by simpa using hzz
   have R:=R0H.out z w2 hzz hb02;clear hz;obtain⟨hb2H,hb02H,RH⟩:=hq2 hb2 (hq2 hb02 (Lib.hid R));clear hb2 hb02 R;go_wp2_with fail;exact RH.out
 ·have hne:(z==0)=false:=by simpa using hzz
  have R:=R0H.out z w1 hzz hb1;clear hz d0 d1 d2 d3 d4 d5;obtain⟨hb1H,RH⟩:=hq2 hb1 (Lib.hid R);clear hb1 R;go_wp2_with fail;exact RH.out
theorem execute_all (x:Action) (A:Option Addr) (m c:Nat) (l:List File) (w:World) (hmx:MaxLenAt w) (hpw:PowJ w) (hx:RAction.ok w x) (hl:(RSl RFile).ok w ⟨A,m,c,l⟩) :
  Calls Tryz.prog 5 #[actV x,.slice A m c] w (ExAns x l w) :=
 execute_any x A m c l w hmx hpw hx hl fun W hb=>checkBoth_any x A m c l W (hmx.below hb) (RAction.mono _ _ _ hb hx) (hl.1.below hb)
def AbS (B:Nat):Nat→Prop:=fun k=>B≤k
def BpRel (l:List File) (w:World) (i:Value) (wr:World):Prop :=
 ∃ (k c:Nat) (g:ByteArray→Option FV),k≤l.length∧i = .int .i64 k∧c≤k∧TMap KS valF wr w.heap.size g c∧FilesAt (AbS w.heap.size) wr g (inpF (l.take k))∧Below w.heap.size w wr
def BpAns (l:List File) (w:World) (e:Ending) (w':World):Prop :=
 ∃ (c:Nat) (g:ByteArray→Option FV),e = .returned (.map (some w.heap.size))∧c≤l.length∧TMap KS valF w' w.heap.size g c∧FilesAt (AbS w.heap.size) w' g (inpF l)∧Below w.heap.size w w'
theorem FilesAt.below {B:Nat} {w w':World} {f:ByteArray→Option FV} {g:ByteArray→Option PF} (h:FilesAt (AbS B) w f g) (hb:Below B w w'):FilesAt (AbS B) w' f g :=
 h.kp ⟨hb.os,hb.tape,hb.output,hb.size,fun k _ hn=>hb.block k (by unfold AbS at hn;omega)⟩
theorem bts_ab {w:World} {d:SlD UInt8} (h:(RSl RU8).ok w d):Bts (AbS w.heap.size) w d.A d.n d.cap d.l:=by
 refine⟨h,fun h0 ad hA hs=>?_⟩;have hsl:=h.1;rw[hA]at hsl;have hlt:=slAt_lt hsl h0 (by decide);have hs:w.heap.size≤ad.block:=hs;omega
theorem byPath_any (A:Option Addr) (m c:Nat) (l:List File) (w:World) (hl:SlAt RFile w A m l) (hok:FilesOk l) :
  Calls Tryz.prog 21 #[.slice A m c] w (BpAns l w):=by
 obtain⟨Z,hZ⟩:∃ Z,BpAns l w=Z:=⟨_,rfl⟩;have hZ':∀ e W,BpAns l w e W→Z e W:=fun e W h=>by rw[← hZ];exact h
 rw[hZ];clear hZ;have hln:=hl.1;have hm1000:=hok.1;have hmk:=@run_makeMap Tryz.prog;have hst:BpRel l w (.int .i64 0) (w.alloc (.map #[] 0)):=⟨0,0,_,Nat.zero_le _,rfl,Nat.le_refl _,TMap.made w KS valF,fun p=>.inl ⟨rfl,rfl⟩,(Below.refl _ _).alloc (Nat.le_refl _) _⟩;obtain⟨hZ'H,hlH,hokH,hstH⟩:=hq2 hZ' (hq2 hl (hq2 hok (Lib.hid hst)));clear hZ' hl hok hst;go_enter Tryz.func21,Tryz.ntmps21;go_wp2_with fail
 go_loopw [9] (fun i wr=>BpRel l w i wr) (fun i _=>m-(intOf i).toNat)
 case atStart=>exact hstH.out
 case round =>
  clear hstH;obtain⟨k,cc,g,hk,rfl,hcc,hmp,hfa,hb⟩:=hrel
  by_cases hlt:k<m
  ·obtain⟨y,hy⟩:∃ y,l[k]? = some y:=⟨l[k]'(by omega),List.getElem?_eq_getElem _⟩;have hsl:=hlH.out.below hb;obtain⟨b1,o1,hA1,_⟩:=hsl.2.1 (by omega);subst hA1;obtain⟨d0,d1,d2⟩:=cells_File hsl hy;have hym:=List.mem_of_getElem? hy;obtain⟨hyz,_,hyb⟩:=hlH.out.2.2 y hym;have hyl:=(hokH.out.2 y hym).2;have hbt:=bts_ab hyb;have htk:l.take (k+1)=l.take k ++ [y]:=by rw[List.take_add_one,hy];rfl
   obtain⟨yp,yr,⟨yA,yn,yc,yl⟩⟩:=y;simp only at d0 d1 d2 hbt hyl;have hyz:yp.size≤maxLen:=hyz;have hba:=(Below.refl wr.heap.size wr).alloc (Nat.le_refl _) (.cells #[.string yp,.bool yr,.slice yA yn yc] 58);have hzq:Blk (wr.alloc (.cells #[.string yp,.bool yr,.slice yA yn yc] 58)) wr.heap.size [.string yp,.bool yr,.slice yA yn yc]:=blk_new wr [.string yp,.bool yr,.slice yA yn yc] 58;have hmp1:=hmp.alloc (.cells #[.string yp,.bool yr,.slice yA yn yc] 58);have hwrs:=hb.size;have hmlt:=hmp.lt;have hb01:=hb.trans (hba.mono hwrs);have hfa1:=hfa.below (hba.mono hwrs);obtain⟨z0,_⟩:=hzq 0 _ rfl;obtain⟨z1,_⟩:=hzq 1 _ rfl;obtain⟨z2,_⟩:=hzq 2 _ rfl;obtain⟨hbH,hslH,hyH,hybH,hbaH,hzqH,hb01H,hmpH,hmp1H,hfaH,hfa1H,hbtH,htkH⟩:=hqb hb hsl hy hyb (hqc hba hzq hb01 hmp hmp1 hfa hfa1 hbt (Lib.hid htk));clear hb hsl hy hyb hba hzq hb01 hmp hmp1 hfa hfa1 hbt htk;go_wp2_with (at_mapUpdate;go_loud (refine wpList_tstore rfl (.tmp 13) (.tmp 15) (.tmp 16) 52 rfl Tryz.underlying52 injF rfl hmp1H.out (by simp only[maxLen];omega) yp rfl hyz (⟨yp,yr,yA,yn,yc⟩:FV) rfl ?_);intro w6 hm6 hg6;have hm6H:=Lib.hid hm6;clear hm6;have hg6H:=Lib.hid hg6;clear hg6);have hbg:Below w.heap.size (wr.alloc (.cells #[.string yp,.bool yr,.slice yA yn yc] 58)) w6:=grown_below hg6H.out (Nat.le_refl _) hb01H.out.size;have hb06:=hb01H.out.trans hbg;have R:BpRel l w (.int .i64 ((k:Int)+1)) w6:=by
    refine⟨k+1,_,_,by omega,by go_num,Nat.le_trans (ite_le_succ _ _) (by omega),hm6H.out,?_,hb06⟩;rw[htkH.out,inpF_snoc];have hf6:=hfa1H.out.below hbg;intro p;unfold upd updE
    by_cases e:p=yp
    ·rw[if_pos e,if_pos e];refine .inr ⟨_,_,rfl,rfl,e.symm,rfl,?_,hyl⟩;exact hbtH.out.kp ⟨hb06.os,hb06.tape,hb06.output,hb06.size,fun k _ hn=>hb06.block k (by unfold AbS at hn;omega)⟩
    ·rw[if_neg e,if_neg e];exact hf6 p
   clear hm6H hg6H hbg hb06;have RH:=Lib.hid R;clear R;go_wp2;exact⟨RH.out,by simp[intOf];omega⟩
  ·obtain rfl:k=m:=by omega
   rw[List.take_of_length_le (by omega)]at hfa;have R:=hZ'H.out (.returned (.map (some w.heap.size))) wr ⟨cc,g,rfl,by omega,hmp,hfa,hb⟩;obtain⟨hbH,hmpH,hfaH,RH⟩:=hq2 hb (hq2 hmp (hq2 hfa (Lib.hid R)));clear hb hmp hfa R;go_wp2_with fail;exact RH.out
def ptsL (LS:List (SlD File)):List ByteArray:=LS.flatMap fun d=>d.l.map (·.path)
theorem cell_Files {w:World} {b off m k:Nat} {l:List (SlD File)} {x:SlD File} (h:SlAt (RSl RFile) w (some ⟨b,off,none⟩) m l) (hx:l[k]? = some x):w.cell? ⟨b,off+k,none⟩=some (.slice x.A x.n x.cap):=by
 have hk:=(List.getElem?_eq_some_iff.1 hx).1;have hl:=h.1;obtain⟨b',o',hA,hc⟩:=h.2.1 (by omega);obtain⟨rfl,rfl⟩:b=b'∧off=o':=by simpa using hA
 have:=hc k x hx 0 _ rfl
 simpa[RSl]using this
def PtRel (LS:List (SlD File)) (w:World) (i:Value) (wr:World):Prop :=
 ∃ (j c:Nat) (g:ByteArray→Option Bool),j≤LS.length∧i = .int .i64 j∧TMap KB valB wr w.heap.size g c∧Below w.heap.size w wr∧∀ p,(g p).isSome=true↔p∈ptsL (LS.take j)
def PtRel2 (LS:List (SlD File)) (j:Nat) (d:SlD File) (w:World) (i:Value) (wr:World):Prop :=
 ∃ (k c:Nat) (g:ByteArray→Option Bool),k≤d.l.length∧i = .int .i64 k∧TMap KB valB wr w.heap.size g c∧Below w.heap.size w wr∧∀ p,(g p).isSome=true↔p∈ptsL (LS.take j)++(d.l.take k).map (·.path)
def PtAns (LS:List (SlD File)) (w:World) (e:Ending) (w':World):Prop :=
 ∃ A n cap L,e = .returned (.slice A n cap)∧Own RStr 9 w' w.heap.size (.slice A n cap) L∧Rising L∧(∀ p,p.size≤maxLen→(p∈L↔p∈ptsL LS))∧L.length≤(ptsL LS).length∧Below w.heap.size w w'
theorem bpaths_any (A:Option Addr) (m c:Nat) (LS:List (SlD File)) (w:World) (hl:SlAt (RSl RFile) w A m LS) (hm2:m≤2) (hok:∀ d∈LS,d.l.length≤1000) (hpt:(ptsL LS).length≤3000) :
  Calls Tryz.prog 22 #[.slice A m c] w (PtAns LS w):=by
 obtain⟨Z,hZ⟩:∃ Z,PtAns LS w=Z:=⟨_,rfl⟩;have hZ':∀ e W,PtAns LS w e W→Z e W:=fun e W h=>by rw[← hZ];exact h
 rw[hZ];clear hZ;have hln:=hl.1;have hmk:=@run_makeMap Tryz.prog;have hst:PtRel LS w (.int .i64 0) (w.alloc (.map #[] 0)):=⟨0,0,_,Nat.zero_le _,rfl,TMap.made w KB valB,(Below.refl _ _).alloc (Nat.le_refl _) _,fun p=>⟨(fun h=>by cases h),(fun h=>by cases h)⟩⟩;obtain⟨hZ'H,hlH,hokH,hstH⟩:=hq2 hZ' (hq2 hl (hq2 hok (Lib.hid hst)));clear hZ' hl hok hst;go_enter Tryz.func22,Tryz.ntmps22;go_wp2_with fail
 go_loopw [11] (fun i wr=>PtRel LS w i wr) (fun i _=>m-(intOf i).toNat)
 case atStart=>exact hstH.out
 case round =>
  clear hstH;obtain⟨j,cc,g,hj,rfl,hmp,hb,hg⟩:=hrel
  by_cases hlt:j<m
  ·obtain⟨d,hd⟩:∃ d,LS[j]? = some d:=⟨LS[j]'(by omega),List.getElem?_eq_getElem _⟩;have hsl:=hlH.out.below hb;obtain⟨b1,o1,hA1,_⟩:=hsl.2.1 (by omega);subst hA1;have cy:=cell_Files hsl hd;have hdm:=List.mem_of_getElem? hd;have hdok:=hokH.out d hdm;have hdl:SlAt RFile w d.A d.n d.l:=(hlH.out.2.2 d hdm).1;have hdn:=hdl.1;have htk:LS.take (j+1)=LS.take j ++ [d]:=by rw[List.take_add_one,hd];rfl
   have hpl:(ptsL (LS.take (j+1))).length≤3000:=by
    have:ptsL LS=ptsL (LS.take (j+1))++ptsL (LS.drop (j+1)):=by unfold ptsL;rw[← List.flatMap_append,List.take_append_drop]
    rw[this,List.length_append]at hpt;omega
   have hst2:PtRel2 LS j d w (.int .i64 0) wr:=⟨0,cc,g,Nat.zero_le _,rfl,hmp,hb,fun p=>by rw[hg p];simp⟩;obtain⟨dA,dn,dc,dl⟩:=d;simp only at cy hdok hdl hdn;clear hg;obtain⟨hbH,hslH,hdH,hdlH,hmpH,htkH,hst2H,hdmH⟩:=hq2 hb (hq2 hsl (hq2 hd (hqb hdl hmp htk hst2 (Lib.hid hdm))));clear hb hsl hd hdl hmp htk hst2 hdm;go_wp2_with fail
   go_loopw [17] (fun i wr=>PtRel2 LS j ⟨dA,dn,dc,dl⟩ w i wr) (fun i _=>dn-(intOf i).toNat)
   case atStart=>exact hst2H.out
   case round =>
    clear hst2H;obtain⟨k,c2,g2,hk,rfl,hmp2,hb2,hg2⟩:=hrel;simp only at hk hg2
    by_cases hlt2:k<dn
    ·obtain⟨y,hy⟩:∃ y,dl[k]? = some y:=⟨dl[k]'(by omega),List.getElem?_eq_getElem _⟩;have hsl2:=hdlH.out.below hb2;obtain⟨b2,o2,hA2,_⟩:=hsl2.2.1 (by omega);subst hA2;obtain⟨d0,d1,d2⟩:=cells_File hsl2 hy;obtain⟨hyz,_,_⟩:=hdlH.out.2.2 y (List.mem_of_getElem? hy);have htk2:dl.take (k+1)=dl.take k ++ [y]:=by rw[List.take_add_one,hy];rfl
     obtain⟨yp,yr,⟨yA,yn,yc,yl⟩⟩:=y;simp only at d0 d1 d2;have hyz:yp.size≤maxLen:=hyz;have hba:=(Below.refl wr.heap.size wr).alloc (Nat.le_refl _) (.cells #[.string yp,.bool yr,.slice yA yn yc] 58);have hzq:Blk (wr.alloc (.cells #[.string yp,.bool yr,.slice yA yn yc] 58)) wr.heap.size [.string yp,.bool yr,.slice yA yn yc]:=blk_new wr [.string yp,.bool yr,.slice yA yn yc] 58;have hmp3:=hmp2.alloc (.cells #[.string yp,.bool yr,.slice yA yn yc] 58);have hwrs:=hb2.size;have hmlt:=hmp2.lt;have hb03:=hb2.trans (hba.mono hwrs);have hc2:c2≤10000:=by
      have h1:=kB_count hmp2 (L:=ptsL (LS.take j)++(dl.take k).map (·.path)) fun p hp=>(hg2 p).1 hp;rw[List.length_append,List.length_map,List.length_take]at h1;have h2:(ptsL (LS.take j)).length≤3000:=by
       have:=hpl;rw[htkH.out]at this;unfold ptsL at this ⊢;rw[List.flatMap_append,List.length_append]at this;omega
      omega
     obtain⟨z0,_⟩:=hzq 0 _ rfl;have hup:∀ p,(upd g2 yp true p).isSome=true↔p∈ptsL (LS.take j)++(dl.take (k+1)).map (·.path):=fun p=>by
      unfold upd;rw[htk2,List.map_append,← List.append_assoc,List.mem_append]
      by_cases e:p=yp
      ·rw[if_pos e];exact⟨fun _=>.inr (by rw[e];simp),fun _=>rfl⟩
      ·rw[if_neg e,hg2 p]
       constructor
       ·exact fun h=>.inl h
       ·rintro(h | h)
        ·exact h
        ·simp at h;exact absurd h e
     clear hg2 htk2;obtain⟨hb2H,hsl2H,hyH,hbaH,hzqH,hmp2H,hmp3H,hb03H,hupH⟩:=hqc hb2 hsl2 hy hba hzq hmp2 hmp3 hb03 (Lib.hid hup);clear hb2 hsl2 hy hba hzq hmp2 hmp3 hb03 hup;go_wp2_with (at_mapUpdate;go_loud (refine wpList_tstore rfl (.tmp 21) (.tmp 23) (.const (.bool true)) 74 rfl Tryz.underlying74 injB rfl hmp3H.out (by simp only[maxLen];omega) yp rfl hyz true rfl ?_);intro w6 hm6 hg6;have hm6H:=Lib.hid hm6;clear hm6;have hg6H:=Lib.hid hg6;clear hg6);have hb06:=hb03H.out.trans (grown_below hg6H.out (Nat.le_refl _) hb03H.out.size);have R:PtRel2 LS j ⟨some ⟨b2,o2,none⟩,dn,dc,dl⟩ w (.int .i64 ((k:Int)+1)) w6:=⟨k+1,_,_,by show k+1≤dl.length;omega,by go_num,hm6H.out,hb06,hupH.out⟩;clear hm6H hg6H hb06;have RH:=Lib.hid R;clear R;go_wp2;exact⟨RH.out,by simp[intOf];omega⟩
    ·obtain rfl:k=dn:=by omega
     have R:PtRel LS w (.int .i64 ((j:Int)+1)) wr:=⟨j+1,c2,g2,by omega,by go_num,hmp2,hb2,fun p=>by
      have e2:dl.take k=dl:=List.take_of_length_le (by omega);rw[hg2 p,e2,htkH.out];unfold ptsL;rw[List.flatMap_append];simp⟩
     clear hg2;obtain⟨hb2H,hmp2H,RH⟩:=hq2 hb2 (hq2 hmp2 (Lib.hid R));clear hb2 hmp2 R;go_wp2;refine⟨?rel,?measure⟩
     case measure=>(simp[intOf];omega)
     case rel=>first | exact RH.out | exact⟨rfl,RH.out⟩
  ·obtain rfl:j=m:=by omega
   rw[List.take_of_length_le (by omega)]at hg;have hcc:=kB_count hmp (L:=ptsL LS) fun p hp=>(hg p).1 hp;have hwrs:=hb.size;obtain⟨hbH,hgH,hmpH⟩:=hq2 hb (hq2 hg (Lib.hid hmp));clear hb hg hmp;go_wp2_with fail;refine(keys_b (some w.heap.size) wr).mono ?_;rintro e w5 ⟨rfl,rfl⟩;go_wp2_with fail;refine(sorted_b w.heap.size cc wr hmpH.out (by omega)).mono ?_;rintro e w6 ⟨A6,k6,c6,S,rfl,hown6,hri,hmem,hSl,hb6⟩;have hoB:Own RStr 9 w6 w.heap.size (.slice A6 k6 c6) S:=⟨ownsRow_base_a hown6.1 hwrs,hown6.2⟩;have R:=hZ'H.out (.returned (.slice A6 k6 c6)) w6 ⟨A6,k6,c6,S,rfl,hoB,hri,fun p hp=>(hmem p hp).trans (hgH.out p),by omega,hbH.out.trans (hb6.mono hwrs)⟩;clear hown6 hri hmem hb6 hoB;have RH:=Lib.hid R;clear R;go_wp2_with fail;exact RH.out
end Go.Proofs.YtdiaabeollcjaaaGreatDoor.C10