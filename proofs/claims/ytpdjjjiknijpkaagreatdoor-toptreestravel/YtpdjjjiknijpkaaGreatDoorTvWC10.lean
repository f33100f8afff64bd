/-
 Several texts of mine as one, without what is not wanted here: XWrR.
-/
import Derived.Test.YtpdjjjiknijpkaaGreatDoorTvVC10
set_option linter.unusedVariables false
set_option linter.unusedSimpArgs false
set_option maxRecDepth 100000
set_option maxHeartbeats 8000000
namespace Go.Proofs.YtpdjjjiknijpkaaGreatDoor.C10
open Go.ChangeShapes Go.WideShapes Go.Deep Go.RowKit Go.Lib
theorem step_two {w:World} {mb:Nat} {a0 a1:Value} (h:Blk w mb [a0,a1]) {ops:Array Oper} {o:Oper} {a:Act} {K:Act→World→Prop} {Q:Exit→Act→World→Prop} {E:Prop} (hgd:o.guard=none) (x y:Operand) (ho:o.op = .store 32 x y)
  (hx:a.eval x = .pointer (some ⟨mb,0,none⟩)) (b0 b1:Value) (hy:a.eval y = .agg #[b0,b1]) (h1:b0.oneCell'=true) (h2:b1.oneCell'=true)
  (hK:K (a.put o.dst undef) ((w.setCell ⟨mb,0,none⟩ b0).setCell ⟨mb,1,none⟩ b1)) :
  if Region.wanted o (yielded ops a.tmps)=true then Oper.wp Tryz.prog o a w K Q else E:=by
 have hw:Region.wanted o (yielded ops a.tmps)=true:=by simp[Region.wanted,hgd]
 rw[if_pos hw];have ht:w.there mb 0 2:=fun j hj=>by
  have hj':j < [a0,a1].length:=hj;obtain⟨h1,h2⟩:=h j _ (List.getElem?_eq_getElem hj');rw[Nat.zero_add];exact⟨by rw[h1];rfl,h2⟩
 exact wp_store_mid 32 x y ho mb 0 #[b0,b1] hx hy ht (by kernel_rfl) (by simp[h1,h2]) hK
theorem two_set {w:World} {mb:Nat} {a0 a1:Value} (h:Blk w mb [a0,a1]) (b0 b1:Value):Blk ((w.setCell ⟨mb,0,none⟩ b0).setCell ⟨mb,1,none⟩ b1) mb [b0,b1]:=(h.set (k:=0) (by simp) b0).set (k:=1) (by simp) b1
theorem two_grown (w:World) (mb:Nat) (b0 b1:Value):w.grownBy ((w.setCell ⟨mb,0,none⟩ b0).setCell ⟨mb,1,none⟩ b1) (some mb):=grown_trans (grown_setc w ⟨mb,0,none⟩ b0) (grown_setc _ ⟨mb,1,none⟩ b1)
def nilR:List Value:=[.slice none 0 0,.slice none 0 0]
def DvAns (D:List ObT) (d:ByteArray) (b:List UInt8) (w:World) (e:Ending) (w':World):Prop :=
 Below w.heap.size w w'∧((∃ k:Int,(k=1∨k=2)∧e = .returned (.tuple #[.agg #[.slice none 0 0,.slice none 0 0],.int .i64 0,.bool false,.int .i64 k])) ∨
  ∃ (AD AP:Option Addr) (cD cP:Nat) (sent:Int) (D1 D':List ObT) (x:ObT),e = .returned (.tuple #[.agg #[.slice AD D'.length cD,.slice AP 0 cP],.int .i64 sent,.bool true,.int .i64 0])∧SameO D D1∧PutO D1 x D'∧x.dig=d∧x.bytes.l=b∧Store w' AD D'.length D'∧(AD=none→cD=0)∧(AP=none→cP=0))
theorem DvAns.bad {D:List ObT} {d:ByteArray} {b:List UInt8} {w W:World} {rz:Nat} (hz:w.heap.size≤rz) (hb:Below w.heap.size w W) (k:Int) (hk:k=1∨k=2):DvAns D d b w (.returned (.tuple #[.agg #[.slice none 0 0,.slice none 0 0],.int .i64 0,.bool false,.int .i64 k])) ((W.setCell ⟨rz,0,none⟩ (.slice none 0 0)).setCell ⟨rz,1,none⟩ (.slice none 0 0)) :=
 ⟨(hb.setCell (p:=⟨rz,0,none⟩) hz _).setCell (p:=⟨rz,1,none⟩) hz _,.inl ⟨k,hk,rfl⟩⟩
theorem own_noneC {α:Type} {R:Rd α} {e:TypeId} {w:World} {base:Nat} {l:List α} {A:Option Addr} {n cap:Nat} (h:Own R e w base (.slice A n cap) l):A=none→cap=0:=by
 intro hA
 rcases h.1.2 with ⟨hv,_⟩ | ⟨g,cap',cur,hv,_⟩
 ·injection hv with _ _ h3
 ·injection hv with h1 _ _;rw[hA]at h1;cases h1
theorem OwM.sender {D D':List ObT} {T0 B:Nat} {AD AP:Option Addr} {cD cP:Nat} {w:World} (h:OwM D T0 B AD AP cD cP D' w) (hT:T0≤B) (hw:T0≤w.heap.size) (r0 r1 r2 r3:Value) (ty:TypeId) :
  SnM T0 w.heap.size [r0,r1,r2,r3] (.slice AD D.length cD) (.slice AP 0 cP) (.slice none 0 0) D' [] [] (w.alloc (.cells #[.slice AD D.length cD,.slice AP 0 cP,r0,r1,r2,r3] ty)):=by
 have hb:Below w.heap.size w (w.alloc (.cells #[.slice AD D.length cD,.slice AP 0 cP,r0,r1,r2,r3] ty)):=(Below.refl _ _).alloc (Nat.le_refl _) _;refine⟨blk_new w [.slice AD D.length cD,.slice AP 0 cP,r0,r1,r2,r3] ty,(own_lower h.oD hT).below hb,(own_lower h.oP hT).below hb,Own.nil _ _,h.dj,(fun g _ e=>by cases e),(fun g _ e=>by cases e),fun g hg=>by have:=(h.oD.1.lt g hg).2;omega,fun g hg=>by have:=(h.oP.1.lt g hg).2;omega,(fun g hg=>by cases hg),fun x hx=>?_,hw⟩;obtain⟨h1,h2,h3⟩:=h.el x hx;refine⟨(RSl RU8).mono _ _ _ hb h1,fun hn ad hA=>⟨?_,fun e=>?_,fun e=>?_,fun e=>by cases e⟩⟩
 ·have:=sl_lt h1 hn hA;omega
 ·exact h2.ne (fun g hg=>by have:=(h.oD.1.lt g hg).1;omega) hn ad hA e.symm
 ·exact h3.ne (fun g hg=>by have:=(h.oP.1.lt g hg).1;omega) hn ad hA e.symm
theorem OwM.apart {D D':List ObT} {T0 B m sb:Nat} {AD AP:Option Addr} {cD cP:Nat} {w:World} (h:OwM D T0 B AD AP cD cP D' w) (h0:T0≤m) (h1:m<B) (h2:m<sb):Fr m sb (.slice AD D.length cD) (.slice AP 0 cP) (.slice none 0 0) D':=by
 refine⟨by omega,fun e=>?_,fun e=>?_,(fun e=>by cases e),fun x hx hn ad hA e=>?_⟩
 ·have:=(h.oD.1.lt m e).1;omega
 ·have:=(h.oP.1.lt m e).1;omega
 ·rcases(h.el x hx).2.1 hn ad hA with q | q <;> omega
def DlRel (sb gr rz n nBr:Nat) (r0 r1 r2:Value) (d:ByteArray) (b:List UInt8) (D1:List ObT) (BR:List Int) (w0:World) (i:Value) (wr:World):Prop :=
 ∃ (k:Nat) (s5:Int) (vD vP vB:Value) (P:List PaT) (bs:List UInt8),i = .int .i64 k∧k≤nBr∧Below w0.heap.size w0 wr∧SnM w0.heap.size sb [r0,r1,r2,.int .i64 s5] vD vP vB D1 P bs wr∧Fr gr sb vD vP vB D1∧Fr rz sb vD vP vB D1∧Blk wr rz nilR∧(∀ (j:Nat) x,(BR ++ [-1])[j]? = some x→wr.cell? ⟨gr,j,none⟩=some (.int .i64 x))∧gr<wr.heap.size∧Part d b n vB P bs
theorem SnM.store {T sb:Nat} {rest:List Value} {vP vB:Value} {AD:Option Addr} {cD:Nat} {D D1 D':List ObT} {x:ObT} {w0 w:World} {A0:Option Addr} (h:SnM T sb rest (.slice AD D'.length cD) vP vB D' [] [] w) (hst:Store w0 A0 D.length D) (hsm:SameO D D1) (hp:PutO D1 x D') (hs:D'.Pairwise fun a b=>cmpS a.dig b.dig = -1) (hDl:D.length<4000) (hx:x.dig=digF x.bytes.l) (hxl:x.bytes.l.length≤2000000):Store w AD D'.length D':=by
 have hl:=hp.len;have hl1:=hsm.1;refine⟨⟨h.oD.slAt.1,h.oD.slAt.2.1,fun y hy=>(h.el y hy).1⟩,hs,by omega,fun y hy=>?_,fun y hy=>?_⟩
 ·rcases puto_mem hp y hy with q | q
  ·obtain⟨z,hz,e1,e2⟩:=hsm.mem q;rw[e1,e2];exact hst.dig z hz
  ·rw[q];exact hx
 ·rcases puto_mem hp y hy with q | q
  ·obtain⟨z,hz,e1,e2⟩:=hsm.mem q;rw[e2];exact hst.big z hz
  ·rw[q];exact hxl
theorem deliver_any (AD0 AP0 A ABr:Option Addr) (cD0 cP0 n c nBr cBr:Nat) (D:List ObT) (d:ByteArray) (hdB:digB d=true) (b:List UInt8) (hn:b.length=n) (hd:digF b=d) (most:Int) (BR:List Int) (hDl:D.length<4000) (hno:∀ x∈D,x.dig≠d) (w:World) (hst:Store w AD0 D.length D) (hc1:AD0=none→cD0=0) (hc2:AP0=none→cP0=0) (hx:(RSl RU8).ok w ⟨A,n,c,b⟩) (hbr:SlAt RInt w ABr nBr BR) (hbc:ABr=none→cBr=0) :
  Calls Tryz.prog 9 #[.agg #[.slice AD0 D.length cD0,.slice AP0 0 cP0],.string d,.slice A n c,.int .i64 most,.slice ABr nBr cBr] w (DvAns D d b w):=by
 obtain⟨Z,hZ⟩:∃ Z,DvAns D d b w=Z:=⟨_,rfl⟩;have hZ':∀ e W,DvAns D d b w e W→Z e W:=fun e W h=>by rw[← hZ];exact h
 rw[hZ];clear hZ;obtain⟨W0,hW0⟩:∃ W,((w.alloc (.cells #[.slice AD0 D.length cD0,.slice AP0 0 cP0] 32)).alloc (.cells #[.slice none 0 0,.slice none 0 0] 32)).alloc (.cells #[.slice none 0 0,.slice none 0 0] 32)=W:=⟨_,rfl⟩;have hb0:Below w.heap.size w W0:=by rw[← hW0];exact(((Below.refl _ _).alloc (Nat.le_refl _) _).alloc (by simp) _).alloc (by simp;omega) _
 have hs0:W0.heap.size=w.heap.size+3:=by rw[← hW0];simp
 have hrr0:Blk W0 w.heap.size [.slice AD0 D.length cD0,.slice AP0 0 cP0]:=by
  rw[← hW0];exact blk_below (blk_below (blk_new w _ _) (by simp) ((Below.refl _ _).alloc (Nat.le_refl _) _)) (by simp) ((Below.refl _ _).alloc (Nat.le_refl _) _)
 have hrz0:Blk W0 (w.heap.size+1) nilR:=by
  rw[← hW0];have:=blk_new (w.alloc (.cells #[.slice AD0 D.length cD0,.slice AP0 0 cP0] 32)) nilR 32;exact blk_below (by simpa[nilR]using this) (by simp[nilR]) ((Below.refl _ _).alloc (Nat.le_refl _) _)
 have hnz0:Blk W0 (w.heap.size+2) nilR:=by
  rw[← hW0];have:=blk_new ((w.alloc (.cells #[.slice AD0 D.length cD0,.slice AP0 0 cP0] 32)).alloc (.cells #[.slice none 0 0,.slice none 0 0] 32)) nilR 32
  simpa[nilR]using this
 obtain⟨n0,z0⟩:=hnz0 0 _ rfl;obtain⟨n1,z1⟩:=hnz0 1 _ rfl;have hgn:=two_grown W0 (w.heap.size+2) (.slice none 0 0) (.slice none 0 0);have hnz:=two_set hnz0 (.slice none 0 0) (.slice none 0 0);have hb3:Below w.heap.size w ((W0.setCell ⟨w.heap.size+2,0,none⟩ (.slice none 0 0)).setCell ⟨w.heap.size+2,1,none⟩ (.slice none 0 0)):=(hb0.setCell (p:=⟨w.heap.size+2,0,none⟩) (by show w.heap.size≤w.heap.size+2;omega) _).setCell (p:=⟨w.heap.size+2,1,none⟩) (by show w.heap.size≤w.heap.size+2;omega) _;have hrr:=hrr0.keep (hgn.block w.heap.size (by omega) fun e=>by injection e with e;omega);have hrz:=hrz0.keep (hgn.block (w.heap.size+1) (by omega) fun e=>by injection e with e;omega);obtain⟨W3,hW3⟩:∃ W,(W0.setCell ⟨w.heap.size+2,0,none⟩ (.slice none 0 0)).setCell ⟨w.heap.size+2,1,none⟩ (.slice none 0 0)=W:=⟨_,rfl⟩;rw[hW3]at hgn hnz hb3 hrr hrz;have hs3:w.heap.size+3≤W3.heap.size:=by have:=hgn.size;omega
 replace hnz:Blk W3 (w.heap.size+2) nilR:=hnz;obtain⟨rb,hrb⟩:∃ b,w.heap.size=b:=⟨_,rfl⟩;rw[hrb]at hrr hrz hnz hs3 n0 n1 z0 z1 hW3;clear hnz0 hrz0 hrr0 hgn hs0 hb0;obtain⟨r0,-⟩:=hrr 0 _ rfl;obtain⟨r1,-⟩:=hrr 1 _ rfl;have hck:=checkReceiver_any AD0 AP0 D.length cD0 cP0 D W3 (hst.below hb3);obtain⟨hZ'H,hstH,hb3H,hrrH,hrzH,hnzH,hckH,hxH,hbrH,hdH,hnoH,hc1H,hc2H,hbcH⟩:=hq2 hZ' (hqb hst hb3 hrr hrz (hqc hnz hck hx hbr hd hno hc1 hc2 (Lib.hid hbc)));clear hZ' hst hb3 hrr hrz hnz hck hx hbr hd hno hc1 hc2 hbc;go_enter Tryz.func9,Tryz.ntmps9;go_wp2_with fail
 try rw[hW3]
 refine hckH.out.mono ?_;rintro e w4 ⟨rfl,hb4⟩;have hb04:Below w.heap.size w w4:=hb3H.out.trans (hb4.mono hb3H.out.size);have hcc:=checkContent_any d hdB A n c w4;obtain⟨hb4H,hb04H,hccH⟩:=hq2 hb4 (hq2 hb04 (Lib.hid hcc));clear hb4 hb04 hcc;go_wp2_with fail;refine hccH.out.mono ?_;rintro e w5 ⟨hb5,hcc5⟩;have hb35:=hb4H.out.trans (hb5.mono hb4H.out.size);have hb05:Below w.heap.size w w5:=hb3H.out.trans (hb35.mono hb3H.out.size);have hrr5:=blk_below hrrH.out (by simp) hb35;have hrz5:=blk_below hrzH.out (by simp[nilR]) hb35;have hnz5:=blk_below hnzH.out (by simp[nilR]) hb35;clear r0 r1 hW3 n0 n1 z0 z1 hW0
 rcases hcc5 with ⟨hn1,rfl⟩ | ⟨hn1,rfl⟩
 rotate_left
 ·have hrz:=hrz5;have hnz:=hnz5;have hbw:=hb05;clear hb5 hb35 hb05 hrr5 hrz5 hnz5;have hzs:=two_set hrz (.slice none 0 0) (.slice none 0 0);obtain⟨t0,-⟩:=hzs 0 _ rfl;obtain⟨t1,-⟩:=hzs 1 _ rfl;obtain⟨p0,f0⟩:=hrz 0 _ rfl;obtain⟨p1,f1⟩:=hrz 1 _ rfl;obtain⟨n0,-⟩:=hnz 0 _ rfl;obtain⟨n1,-⟩:=hnz 1 _ rfl;have R:=hZ'H.out _ _ (DvAns.bad (D:=D) (d:=d) (b:=b) (W:=w5) (rz:=rb+1) (by omega) hbw 2 (by decide));clear hrz hnz hbw;obtain⟨RH,hzsH⟩:=hq2 R (Lib.hid hzs);clear R hzs;go_wp2_with fail;exact bodyPost_ret (v:=.tuple #[.agg #[.slice none 0 0,.slice none 0 0],.int .i64 0,.bool false,.int .i64 2]) (by simp[results,Tryz.results9,go_sem,t0,t1]) rfl RH.out
 obtain⟨hb5H,hb35H,hb05H,hrr5H,hrz5H,hnz5H⟩:=hq2 hb5 (hqb hb35 hb05 hrr5 hrz5 (Lib.hid hnz5));clear hb5 hb35 hb05 hrr5 hrz5 hnz5
 by_cases hmo:1≤most∧most≤65536
 rotate_left
 ·have hwi:=within_w most 1 65536 w5 false (by
   by_cases h1:1≤most
   ·have h2:¬ most≤65536:=fun h=>hmo ⟨h1,h⟩;simp[h2]
   ·simp[h1])
  have hrz:=hrz5H.out;have hnz:=hnz5H.out;have hbw:=hb05H.out;clear hmo;have hwiH:=Lib.hid hwi;clear hwi;go_wp2_with fail;refine hwiH.out.mono ?_;rintro e w6 ⟨rfl,hw6⟩;rw[hw6];clear hw6 w6;have hzs:=two_set hrz (.slice none 0 0) (.slice none 0 0);obtain⟨t0,-⟩:=hzs 0 _ rfl;obtain⟨t1,-⟩:=hzs 1 _ rfl;obtain⟨p0,f0⟩:=hrz 0 _ rfl;obtain⟨p1,f1⟩:=hrz 1 _ rfl;obtain⟨n0,-⟩:=hnz 0 _ rfl;obtain⟨n1,-⟩:=hnz 1 _ rfl;have R:=hZ'H.out _ _ (DvAns.bad (D:=D) (d:=d) (b:=b) (W:=w5) (rz:=rb+1) (by omega) hbw 1 (by decide));clear hrz hnz hbw;obtain⟨RH,hzsH⟩:=hq2 R (Lib.hid hzs);clear R hzs;go_wp2_with fail;exact bodyPost_ret (v:=.tuple #[.agg #[.slice none 0 0,.slice none 0 0],.int .i64 0,.bool false,.int .i64 1]) (by simp[results,Tryz.results9,go_sem,t0,t1]) rfl RH.out
 obtain⟨mo,rfl⟩:∃ m:Nat,most=m:=⟨most.toNat,by omega⟩;have hwi:=within_w (mo:Int) 1 65536 w5 true (by simp;omega);have hmo1:0<mo:=by omega
 have hmo2:mo≤65536:=by omega
 clear hmo;have hwiH:=Lib.hid hwi;clear hwi;go_wp2_with fail;refine hwiH.out.mono ?_;rintro e w6 ⟨rfl,hw6⟩;rw[hw6];clear hw6 w6
 by_cases hnb:nBr≤100
 rotate_left
 ·have i1:(100:Int)<(nBr:Int):=by omega
  have hrz:=hrz5H.out;have hnz:=hnz5H.out;have hbw:=hb05H.out;have hzs:=two_set hrz (.slice none 0 0) (.slice none 0 0);obtain⟨t0,-⟩:=hzs 0 _ rfl;obtain⟨t1,-⟩:=hzs 1 _ rfl;obtain⟨p0,f0⟩:=hrz 0 _ rfl;obtain⟨p1,f1⟩:=hrz 1 _ rfl;obtain⟨n0,-⟩:=hnz 0 _ rfl;obtain⟨n1,-⟩:=hnz 1 _ rfl;have R:=hZ'H.out _ _ (DvAns.bad (D:=D) (d:=d) (b:=b) (W:=w5) (rz:=rb+1) (by omega) hbw 2 (by decide));clear hrz hnz hbw;obtain⟨RH,hzsH⟩:=hq2 R (Lib.hid hzs);clear R hzs;go_wp2_with fail;exact bodyPost_ret (v:=.tuple #[.agg #[.slice none 0 0,.slice none 0 0],.int .i64 0,.bool false,.int .i64 2]) (by simp[results,Tryz.results9,go_sem,t0,t1]) rfl RH.out
 have i1:¬ (100:Int)<(nBr:Int):=by omega
 have hbr5:=hbrH.out.below hb05H.out;have hct:=cont_ints ABr nBr cBr BR w5 hbr5 (by omega);obtain⟨bb,hbb⟩:∃ x,BR.any badB=x:=⟨_,rfl⟩;rw[hbb]at hct;obtain⟨hctH,hbr5H,hbbH⟩:=hq2 hct (hq2 hbr5 (Lib.hid hbb));clear hct hbr5 hbb;go_wp2_with fail;refine hctH.out.mono ?_;rintro e w6 ⟨rfl,hb6⟩;have hrr6:=blk_below hrr5H.out (by simp) hb6;have hrz6:=blk_below hrz5H.out (by simp[nilR]) hb6;have hnz6:=blk_below hnz5H.out (by simp[nilR]) hb6;have hb06:=hb05H.out.trans (hb6.mono hb05H.out.size);have hlt6:rb+2<w6.heap.size:=hnz6.lt (by simp[nilR])
 cases bb
 rotate_left
 ·have hrz:=hrz6;have hnz:=hnz6;have hbw:=hb06;clear hb6 hrr6 hrz6 hnz6 hb06;have hzs:=two_set hrz (.slice none 0 0) (.slice none 0 0);obtain⟨t0,-⟩:=hzs 0 _ rfl;obtain⟨t1,-⟩:=hzs 1 _ rfl;obtain⟨p0,f0⟩:=hrz 0 _ rfl;obtain⟨p1,f1⟩:=hrz 1 _ rfl;obtain⟨n0,-⟩:=hnz 0 _ rfl;obtain⟨n1,-⟩:=hnz 1 _ rfl;have R:=hZ'H.out _ _ (DvAns.bad (D:=D) (d:=d) (b:=b) (W:=w6) (rz:=rb+1) (by omega) hbw 1 (by decide));clear hrz hnz hbw;obtain⟨RH,hzsH⟩:=hq2 R (Lib.hid hzs);clear R hzs;go_wp2_with fail;exact bodyPost_ret (v:=.tuple #[.agg #[.slice none 0 0,.slice none 0 0],.int .i64 0,.bool false,.int .i64 1]) (by simp[results,Tryz.results9,go_sem,t0,t1]) rfl RH.out
 have hgood:∀ v∈BR,0≤v∧v≤20000:=fun v hv=>by
  have h1:=hbbH.out;rw[List.any_eq_false]at h1;have h2:=h1 v hv;unfold badB at h2
  simpa using h2
 obtain⟨r0,-⟩:=hrr6 0 _ rfl;obtain⟨r1,-⟩:=hrr6 1 _ rfl;have hst6:=hstH.out.below hb06;have how:=own_any AD0 AP0 cD0 cP0 D w6 hst6 hc1H.out hc2H.out w.heap.size hb06.size fun x hx hn ad hA=>sl_lt (hstH.out.sl.2.2 x hx) hn hA;obtain⟨hgoodH,hst6H,howH,hb6H,hrr6H,hrz6H,hnz6H,hb06H⟩:=hq2 hgood (hq2 hst6 (hq2 how (hqb hb6 hrr6 hrz6 hnz6 (Lib.hid hb06))));clear hgood hst6 how hb6 hrr6 hrz6 hnz6 hb06;go_wp2_with fail;refine howH.out.mono ?_;rintro e w7 ⟨hb7,AD1,AP1,cD1,cP1,D1,rfl,hO⟩;obtain⟨W8,hW8⟩:∃ W,w7.alloc (.cells #[.slice AD1 D.length cD1,.slice AP1 0 cP1,.string d,.slice A n c,.int .i64 mo,.int .i64 0] 83)=W:=⟨_,rfl⟩;have hb78:Below w7.heap.size w7 W8:=by rw[← hW8];exact(Below.refl _ _).alloc (Nat.le_refl _) _
 have hb07:=hb06H.out.trans (hb7.mono hb06H.out.size);have hb08:=hb07.trans (hb78.mono hb07.size);have hM8:=hO.sender (by have:=hb06H.out.size;omega) hb07.size (.string d) (.slice A n c) (.int .i64 mo) (.int .i64 0) 83;rw[hW8]at hM8;have hs78:=hb78.size;have hs67:=hb7.size;have hrz8:=blk_below (blk_below hrz6H.out (by simp[nilR]) hb7) (by simp[nilR]) hb78;have hfrz:=hO.apart (m:=rb+1) (sb:=w7.heap.size) (by omega) (by omega) (by omega);have hcl:=clone_ints ABr nBr cBr BR W8 (hbrH.out.below hb08) hbcH.out (by omega);obtain⟨sb,hsb⟩:∃ s,w7.heap.size=s:=⟨_,rfl⟩;rw[hsb]at hM8 hfrz;have hlt8:=hM8.lt;clear r0 r1 i1;have hsame:=hO.same;clear hO;obtain⟨hb7H,hb78H,hb07H,hb08H,hM8H,hrz8H,hfrzH,hclH,hsameH⟩:=hqc hb7 hb78 hb07 hb08 hM8 hrz8 hfrz hcl (Lib.hid hsame);clear hb7 hb78 hb07 hb08 hM8 hrz8 hfrz hcl hsame;go_wp2_with fail
 try rw[hW8]
 refine hclH.out.mono ?_;rintro e w9 ⟨A9,c9,rfl,ho9,hb9⟩;have hba:Below w9.heap.size w9 (w9.alloc (.cells #[.int .i64 (-1)] 3)):=(Below.refl _ _).alloc (Nat.le_refl _) _;have ho10:=ho9.below hba;have hrow:SlAt RInt (w9.alloc (.cells #[.int .i64 (-1)] 3)) (some ⟨w9.heap.size,0,none⟩) 1 [-1]:=slAt_new (R:=RInt) w9 3 (-1) (by show I64 (-1);exact⟨by decide,by decide⟩);have hs9:=hb9.size;clear hW8;obtain⟨ho9H,hb9H,hbaH,ho10H,hrowH⟩:=hqb ho9 hb9 hba ho10 (Lib.hid hrow);clear ho9 hb9 hba ho10 hrow;go_wp2_with (at_builtin;go_loud (refine wpList_app rfl (.tmp 57) (.tmp 58) 23 rfl Tryz.underlying23 elem_Int1 (by decide) rfl ho10H.out (some ⟨w9.heap.size,0,none⟩) 1 1 [-1] rfl hrowH.out ?nn ?ok ?c1 ?c2 ?c3 (nBr+1) ?c4 ?_))
 case nn=>intro h;cases h
 case ok=>exact fun _ _ _ _ h=>h
 case c1=>have:=ho9H.out.len;unfold maxLen;omega
 case c2=>have:=ho9H.out.len;omega
 case c3=>simp;omega
 case c4=>have:=ho9H.out.len;omega
 intro A10 c10 w10 ho11 hg11 hat11 hb11;obtain⟨gr,hA10⟩:=own_form ho11 (by omega);subst hA10;have hgr:=ho11.1.lt gr rfl;have hfgr:=hM8H.out.fresh (m:=gr) hgr.1;have hb80:Below W8.heap.size W8 w10:=(hb9H.out.trans (hbaH.out.mono hs9)).trans hb11;have hcl10:∀ (j:Nat) x,(BR ++ [-1])[j]? = some x→w10.cell? ⟨gr,j,none⟩=some (.int .i64 x):=fun j x hx=>by have:=cell_IntP ho11.slAt hx;rwa [Nat.zero_add]at this
 have hBRl:BR.length=nBr:=hbrH.out.1;have hst0:DlRel sb gr (rb+1) n nBr (.string d) (.slice A n c) (.int .i64 mo) d b D1 BR w (.int .i64 0) w10:=⟨0,0,_,_,_,[],[],rfl,Nat.zero_le _,hb08H.out.trans (hb80.mono hb08H.out.size),hM8H.out.below hb80,hfgr,hfrzH.out,blk_below hrz8H.out (by simp[nilR]) hb80,hcl10,hgr.2,.inl ⟨rfl,rfl,rfl⟩⟩;clear ho11 hg11 hat11 hb11 hgr hfgr hb80 hcl10;have hst0H:=Lib.hid hst0;clear hst0;go_wp2_with fail
 go_loopw [61] (fun i wr=>DlRel sb gr (rb+1) n nBr (.string d) (.slice A n c) (.int .i64 mo) d b D1 BR w i wr) (fun i _=>nBr+1-(intOf i).toNat)
 case atStart=>exact hst0H.out
 case round =>
  clear hst0H hrz8H hfrzH hclH ho9H hb9H hbaH ho10H hrowH;obtain⟨k,s5,vD,vP,vB,P,bs,rfl,hk,hb,hM,hfg,hfz,hrz,hcells,hgl,hpt⟩:=hrel;have hkl:k<(BR ++ [-1]).length:=by simp;omega
  obtain⟨x,hxk⟩:∃ x,(BR ++ [-1])[k]? = some x:=⟨_,List.getElem?_eq_getElem hkl⟩;have hck:=hcells k x hxk;have hxr:-1≤x∧x≤20000:=by
   rcases List.mem_append.1 (List.mem_of_getElem? hxk) with h | h
   ·have:=hgoodH.out x h;omega
   ·rw[List.mem_singleton.1 h];decide
  have hlast:k=nBr→x<0:=fun e=>by
   rw[e,List.getElem?_append_right (by omega)]at hxk;rw[hBRl,Nat.sub_self]at hxk;injection hxk with hxk;omega
  have hon:=once_any w.heap.size sb n c mo A d hdB b hn hn1 hmo1 hmo2 hdH.out vD vP vB D1 P bs s5 x hxr.1 hxr.2 (by have:=hsameH.out.1;omega) (hsameH.out.ord hstH.out.ord) (fun y hy=>by
   obtain⟨z,hz,e1,_⟩:=hsameH.out.mem hy;rw[e1];exact hnoH.out z hz) hpt wr hM (sl_belowT hxH.out (fun hn ad hA=>sl_lt hxH.out hn hA) hb) (fun hn ad hA=>sl_lt hxH.out hn hA)
  have hrow1:k<nBr+1:=by omega
  have hk0:(0:Int)≤(k:Int):=by omega
  obtain⟨hbH,hMH,hfgH,hfzH,hrzH,hcellsH,hptH,hxkH,hlastH,honH,hxrH⟩:=hq2 hb (hq2 hM (hqc hfg hfz hrz hcells hpt hxk hlast hon (Lib.hid hxr)));clear hb hM hfg hfz hrz hcells hpt hxk hlast hon hxr;go_wp2_with fail;refine honH.out.mono ?_;rintro e w11 ⟨ends,rfl,⟨hb11,s6,vD',vP',vB',D',P',bs',hM11,hkp,hcase⟩,hend⟩;have hsz:=hbH.out.size;have hb0:Below w.heap.size w w11:=hbH.out.trans hb11;obtain⟨hh1,hfg'⟩:=hkp.2 gr hgl hfgH.out;obtain⟨hh2,hfz'⟩:=hkp.2 (rb+1) (hrzH.out.lt (by simp[nilR])) hfzH.out;have hrz11:Blk w11 (rb+1) nilR:=hrzH.out.keep hh2
  rcases hcase with ⟨rfl,rfl,hpt'⟩ | ⟨rfl,rfl,rfl,rfl,x',hx1,hx2,hput,hsrt⟩
  ·have hkn:k<nBr:=by
    rcases Nat.lt_or_ge k nBr with h | h
    ·exact h
    ·have:=hend (hlastH.out (by omega));cases this
   have R:DlRel sb gr (rb+1) n nBr (.string d) (.slice A n c) (.int .i64 mo) d b D' BR w (.int .i64 ((k:Int)+1)) w11:=⟨k+1,s6,vD',vP',vB',P',bs',by go_num,by omega,hb0,hM11,hfg',hfz',hrz11,fun j y hy=>(World.cell?_of_block (w:=wr) hh1).trans (hcellsH.out j y hy),by have:=hkp.1;omega,hpt'⟩;clear hb11 hM11 hkp hend hb0 hh1 hfg' hh2 hfz' hrz11 hpt';have RH:=Lib.hid R;clear R;go_wp2_with fail;exact⟨RH.out,by simp[intOf];omega⟩
  ·obtain⟨AD',cD',hvD⟩:=hM11.oD.form;obtain⟨AP',cP',hvP⟩:=hM11.oP.form;replace hvP:vP' = .slice AP' 0 cP':=hvP;subst hvD hvP;have hDl':D'.length≤4000:=by have h1:=hput.len;have h2:=hsameH.out.1;omega
   obtain⟨g0,-⟩:=hM11.blk 0 _ rfl;obtain⟨g1,-⟩:=hM11.blk 1 _ rfl;have hda:=doneAt_any AD' D'.length cD' (.slice AP' 0 cP') D' d w11 (by omega) hM11.oD.slAt hsrt;clear hkp hend hh1 hh2 hfg';obtain⟨hb11H,hM11H,hb0H,hfz'H,hrz11H,hputH,hsrtH,hdaH,hx2H⟩:=hqc hb11 hM11 hb0 hfz' hrz11 hput hsrt hda (Lib.hid hx2);clear hb11 hM11 hb0 hfz' hrz11 hput hsrt hda hx2;go_wp2_with fail;refine hdaH.out.mono ?_;rintro e w12 ⟨kd,fd,rfl,hb12,hat⟩;obtain rfl:fd=true:=by
    cases fd
    ·exfalso;obtain⟨q,hq⟩:=hputH.out;exact hat.no rfl x' (by rw[hq];exact List.mem_append.2 (.inr List.mem_cons_self)) hx1
    ·rfl
   have hM12:=hM11H.out.below hb12;have hrz12:=blk_below hrz11H.out (by simp[nilR]) hb12;have hb012:=hb0H.out.trans (hb12.mono hb0H.out.size);obtain⟨g0,-⟩:=hM12.blk 0 _ rfl;obtain⟨g1,-⟩:=hM12.blk 1 _ rfl;obtain⟨g5,-⟩:=hM12.blk 5 _ rfl;have hbd:Below w12.heap.size w12 w12.drew:=(Below.refl _ _).drew;have hzd:Blk w12.drew (rb+1) [.slice none 0 0,.slice none 0 0]:=hrz12;have hgz:=two_grown w12.drew (rb+1) (.slice AD' D'.length cD') (.slice AP' 0 cP');have hz13:=two_set hzd (.slice AD' D'.length cD') (.slice AP' 0 cP');obtain⟨W13,hW13⟩:∃ W,((w12.drew.setCell ⟨rb+1,0,none⟩ (.slice AD' D'.length cD')).setCell ⟨rb+1,1,none⟩ (.slice AP' 0 cP'))=W:=⟨_,rfl⟩;rw[hW13]at hgz hz13;have hM13:=(hM12.below hbd).grown hgz hfz'H.out.1 hfz'H.out.2.1 hfz'H.out.2.2.1 hfz'H.out.2.2.2.1 hfz'H.out.2.2.2.2;have hb13:Below w.heap.size w W13:=(hb012.trans (hbd.mono hb012.size)).grown hgz (by have:=hb012.size;show w.heap.size≤w12.heap.size;exact this) fun g hg=>by injection hg with hg;omega
   have hC13:W13.cell? ⟨sb,0,none⟩=some (.slice AD' D'.length cD')∧W13.cell? ⟨sb,1,none⟩=some (.slice AP' 0 cP')∧W13.cell? ⟨sb,5,none⟩=some (.int .i64 s6):=⟨(hM13.blk 0 _ rfl).1,(hM13.blk 1 _ rfl).1,(hM13.blk 5 _ rfl).1⟩;obtain⟨t0,-⟩:=hz13 0 _ rfl;obtain⟨t1,-⟩:=hz13 1 _ rfl;have hlx:x'.bytes.l.length≤2000000:=by rw[hx2H.out];omega
   have R:=hZ'H.out (.returned (.tuple #[.agg #[.slice AD' D'.length cD',.slice AP' 0 cP'],.int .i64 s6,.bool true,.int .i64 0])) W13 ⟨hb13,.inr ⟨AD',AP',cD',cP',s6,D1,D',x',rfl,hsameH.out,hputH.out,hx1,hx2H.out,hM13.store hstH.out hsameH.out hputH.out hsrtH.out hDl (by rw[hx2H.out,hdH.out];exact hx1) hlx,own_noneC hM13.oD,own_noneC hM13.oP⟩⟩;clear hM13 hb13 hgz;obtain⟨hM12H,hrz12H,hb012H,hbdH,hzdH,hz13H,RH,hatH⟩:=hq2 hM12 (hq2 hrz12 (hq2 hb012 (hqb hbd hzd hz13 R (Lib.hid hat))));clear hM12 hrz12 hb012 hbd hzd hz13 R hat;go_wp2_with fail;refine startR (R:=Rk (fun _=>True) (fun V=>V.cell? ⟨sb,0,none⟩=some (.slice AD' D'.length cD')∧V.cell? ⟨sb,1,none⟩=some (.slice AP' 0 cP')∧V.cell? ⟨sb,5,none⟩=some (.int .i64 s6)) 99 99) (by kernel_rfl) ?_;have hC:w12.drew.cell? ⟨sb,0,none⟩=some (.slice AD' D'.length cD')∧w12.drew.cell? ⟨sb,1,none⟩=some (.slice AP' 0 cP')∧w12.drew.cell? ⟨sb,5,none⟩=some (.int .i64 s6):=⟨g0,g1,g5⟩;refine takeC (i:=0) (d:=some 86) (v:=?_) rfl rfl (by kernel_rfl) (by kernel_rfl) (by kernel_rfl) (by kernel_rfl) (fun _ _ _ h=>h) (Or.inl ⟨by rfl,?_⟩) hC ?_
   rotate_left
   ·(intro w hSw;(try dsimp only at hSw);go_simp;(try with_reducible rfl))
   (try simp only[Act.put,List.setIfInBounds_toArray,List.set_cons_zero,List.set_cons_succ])
   refine takeC (i:=1) (d:=some 87) (v:=?_) rfl rfl (by kernel_rfl) (by kernel_rfl) (by kernel_rfl) (by kernel_rfl) (fun _ _ _ h=>h) (Or.inl ⟨by rfl,?_⟩) hC ?_
   rotate_left
   ·(intro w hSw;(try dsimp only at hSw);go_simp;(try with_reducible rfl))
   (try simp only[Act.put,List.setIfInBounds_toArray,List.set_cons_zero,List.set_cons_succ])
   refine takeC (i:=2) (d:=some 88) (v:=?_) rfl rfl (by kernel_rfl) (by kernel_rfl) (by kernel_rfl) (by kernel_rfl) (fun _ _ _ h=>h) (Or.inl ⟨by rfl,?_⟩) hC ?_
   rotate_left
   ·(intro w hSw;(try dsimp only at hSw);go_simp;(try with_reducible rfl))
   (try simp only[Act.put,List.setIfInBounds_toArray,List.set_cons_zero,List.set_cons_succ])
   refine takeC (i:=3) (d:=some 89) (v:=?_) rfl rfl (by kernel_rfl) (by kernel_rfl) (by kernel_rfl) (by kernel_rfl) (fun _ _ _ h=>h) (Or.inl ⟨by rfl,?_⟩) hC ?_
   rotate_left
   ·(intro w hSw;(try dsimp only at hSw);go_simp;(try with_reducible rfl))
   (try simp only[Act.put,List.setIfInBounds_toArray,List.set_cons_zero,List.set_cons_succ])
   refine takeC (i:=4) (d:=some 90) (v:=?_) rfl rfl (by kernel_rfl) (by kernel_rfl) (by kernel_rfl) (by kernel_rfl) (fun _ _ _ h=>h) (Or.inl ⟨by rfl,?_⟩) hC ?_
   rotate_left
   ·(intro w hSw;(try dsimp only at hSw);go_simp;(try with_reducible rfl))
   (try simp only[Act.put,List.setIfInBounds_toArray,List.set_cons_zero,List.set_cons_succ])
   refine takeC (i:=5) (d:=some 91) (v:=?_) rfl rfl (by kernel_rfl) (by kernel_rfl) (by kernel_rfl) (by kernel_rfl) (fun _ _ _ h=>h) (Or.inl ⟨by rfl,?_⟩) hC ?_
   rotate_left
   ·(intro w hSw;(try dsimp only at hSw);go_simp;(try with_reducible rfl))
   (try simp only[Act.put,List.setIfInBounds_toArray,List.set_cons_zero,List.set_cons_succ])
   refine takeC (i:=6) (d:=some 92) (v:=?_) rfl rfl (by kernel_rfl) (by kernel_rfl) (by kernel_rfl) (by kernel_rfl) (fun _ _ _ h=>h) (Or.inl ⟨by rfl,?_⟩) hC ?_
   rotate_left
   ·(intro w hSw;(try dsimp only at hSw);go_simp;(try with_reducible rfl))
   (try simp only[Act.put,List.setIfInBounds_toArray,List.set_cons_zero,List.set_cons_succ])
   refine takeC (i:=7) (d:=some 93) (v:=?_) rfl rfl (by kernel_rfl) (by kernel_rfl) (by kernel_rfl) (by kernel_rfl) (fun _ _ _ h=>h) (Or.inl ⟨by rfl,?_⟩) hC ?_
   rotate_left
   ·(intro w hSw;(try dsimp only at hSw);go_simp;(try with_reducible rfl))
   (try simp only[Act.put,List.setIfInBounds_toArray,List.set_cons_zero,List.set_cons_succ])
   refine takeC (i:=8) (d:=some 94) (v:=?_) rfl rfl (by kernel_rfl) (by kernel_rfl) (by kernel_rfl) (by kernel_rfl) (fun _ _ _ h=>h) (Or.inl ⟨by rfl,?_⟩) hC ?_
   rotate_left
   ·(intro w hSw;(try dsimp only at hSw);go_simp;(try with_reducible rfl))
   (try simp only[Act.put,List.setIfInBounds_toArray,List.set_cons_zero,List.set_cons_succ])
   refine oneR (i:=9) (by kernel_rfl) rfl (fun K hK=>?_);refine step_two hzdH.out rfl (.tmp 10) (.tmp 89) rfl rfl (.slice AD' D'.length cD') (.slice AP' 0 cP') rfl rfl rfl ?_;rw[hW13];refine hK.out _ _ ⟨fun _ _ _=>trivial,fun _ _=>hC13⟩ ?_;clear hK K
   (try simp only[Act.put,List.setIfInBounds_toArray,List.set_cons_zero,List.set_cons_succ])
   clear hC;have hC:=hC13;refine takeC (i:=10) (d:=some 11) (v:=?_) rfl rfl (by kernel_rfl) (by kernel_rfl) (by kernel_rfl) (by kernel_rfl) (fun _ _ _ h=>h) (Or.inl ⟨by rfl,?_⟩) hC ?_
   rotate_left
   ·(intro w hSw;(try dsimp only at hSw);go_simp;(try with_reducible rfl))
   (try simp only[Act.put,List.setIfInBounds_toArray,List.set_cons_zero,List.set_cons_succ])
   refine takeC (i:=11) (d:=some 12) (v:=?_) rfl rfl (by kernel_rfl) (by kernel_rfl) (by kernel_rfl) (by kernel_rfl) (fun _ _ _ h=>h) (Or.inl ⟨by rfl,?_⟩) hC ?_
   rotate_left
   ·(intro w hSw;(try dsimp only at hSw);go_simp;(try with_reducible rfl))
   (try simp only[Act.put,List.setIfInBounds_toArray,List.set_cons_zero,List.set_cons_succ])
   refine takeC (i:=12) (d:=some 13) (v:=?_) rfl rfl (by kernel_rfl) (by kernel_rfl) (by kernel_rfl) (by kernel_rfl) (fun _ _ _ h=>h) (Or.inl ⟨by rfl,?_⟩) hC ?_
   rotate_left
   ·(intro w hSw;(try dsimp only at hSw);go_simp;(try with_reducible rfl))
   (try simp only[Act.put,List.setIfInBounds_toArray,List.set_cons_zero,List.set_cons_succ])
   refine doneR (by kernel_rfl) ?_ _;clear hC hC13 g0 g1 g5 hW13;go_wp2_with fail;exact bodyPost_ret (v:=.tuple #[.agg #[.slice AD' D'.length cD',.slice AP' 0 cP'],.int .i64 s6,.bool true,.int .i64 0]) (by simp[results,Tryz.results9,go_sem,t0,t1]) rfl RH.out
end Go.Proofs.YtpdjjjiknijpkaaGreatDoor.C10