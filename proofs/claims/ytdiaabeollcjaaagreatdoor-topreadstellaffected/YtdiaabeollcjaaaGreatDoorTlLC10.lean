/-
 Several texts of mine as one, without what is not wanted here: XExR, XExK.
-/
import Derived.Test.YtdiaabeollcjaaaGreatDoorTlJC10
set_option linter.unusedVariables false
set_option linter.unusedSimpArgs false
set_option maxRecDepth 100000
set_option maxHeartbeats 8000000
namespace Go.Proofs.YtdiaabeollcjaaaGreatDoor.C10
open Go.ChangeShapes Go.WideShapes Go.Deep Go.RowKit Go.Maps
theorem made_rd_eq {E:EP} {c:List ByteArray} {I:Inp} {s:ES} (h1:wd c 0≠wJoin) (h2:wd c 0≠wExpand) (h3:wd c 0≠wPick) (h4:wd c 0≠wVar) {b:List UInt8} {k:Int} {s1:ES} (hr:readM E (wd c (c.length-1)) I s=((b,k),s1)) :
  madeM E c I s=if k≠0 then (([],k),s1) else ((E.fn c b,0),s1):=by
 unfold madeM;rw[if_neg h1,if_neg h2,if_neg h3,if_neg h4,bind_em,hr,ite_em];rfl
theorem MdAns.conv {W0:World} {n T:Nat} {x:Action} {I:Inp} {c:List ByteArray} {s s1:ES} {cl cl1:Nat} {w w2:World} {S:ByteArray} (hA:WA W0 n T x I s1 cl1 w2) (hk:Kp (WS n) w w2) (hlt:n+4≤w.heap.size) (hcl:cl1≤cl+10100) (hls:LsKeep s s1) (hM:madeM (epOf x) c I s=((S.data.toList,0),s1)) (hS:S.size≤100000000000) :
  MdAns W0 n T x I c s cl w (.returned (.tuple #[.slice (some ⟨w2.heap.size,0,none⟩) S.size (grownCap w2 S.size 0 5),.int .i64 0])) (convW w2 S):=by
 have hsz:=hk.size;have hl:S.data.toList.length=S.size:=(Lib.size_eq S).symm;exact⟨((S.data.toList,0),s1),⟨_,_,_,cl1,rfl,conv_bts w2 S (WS n) (fun h=>by have:=wS_le h;omega) (by unfold maxLen;omega),(by show S.data.toList.length≤_;omega),(by show (0:Int)≤0∧(0:Int)≤999999;omega),hA.below (conv_below w2 S),hcl,hk.trans (Kp.of_below (S:=WS n) (conv_below w2 S))⟩,hls,fun _=>hM⟩
theorem made_sort (W0:World) (n T:Nat) (x:Action) (I:Inp) (A:Option Addr) (cc:Nat) (c:List ByteArray) (hc:SlAt RStr W0 A 3 c) (hmc:3≤cc) (h0:wd c 0=wSort) (hp:pathB (wd c 2)=true) (s:ES) (cl:Nat) (hcl:cl≤800000) (w:World) (hw:WA W0 n T x I s cl w) :
  Calls Tryz.prog 62 #[.pointer (some ⟨n+3,0,none⟩),.slice A 3 cc] w (MdAns W0 n T x I c s cl w):=by
 obtain⟨Z,hZ⟩:∃ Z,MdAns W0 n T x I c s cl w=Z:=⟨_,rfl⟩;have hZ':∀ e W,MdAns W0 n T x I c s cl w e W→Z e W:=fun e W h=>by rw[← hZ];exact h
 rw[hZ];clear hZ;have hln:c.length=3:=hc.1;have hcw:SlAt RStr w A 3 c:=hc.below hw.bel;obtain⟨b,off,hA1,_⟩:=hc.2.1 (by omega);subst hA1;have hx0:=wd_get (show 0<c.length by omega);rw[h0]at hx0;have cy0:=cell_Str hcw hx0;rw[Nat.add_zero]at cy0;have hxl:=wd_get (show 2<c.length by omega);have cyl:=cell_Str hcw hxl;clear hxl;have hps:=pathB_le hp;have hrd:=read_any (epOf x) rfl W0 n T x I (wd c 2) (by unfold maxLen;omega) s cl (by omega) w hw;obtain⟨⟨⟨rb,rk⟩,s1⟩,hrr⟩:∃ r,readM (epOf x) (wd c 2) I s=r:=⟨_,rfl⟩;have hM:=made_rd_eq (E:=epOf x) (c:=c) (by rw[h0];decide) (by rw[h0];decide) (by rw[h0];decide) (by rw[h0];decide) (b:=rb) (k:=rk) (s1:=s1) (by rw[hln];exact hrr);obtain⟨hZ'H,hcH,hwH,hcwH,hrdH,hrrH,hMH,h0H,hx0H⟩:=hqc hZ' hc hw hcw hrd hrr hM h0 (Lib.hid hx0);clear hZ' hc hw hcw hrd hrr hM h0 hx0;unfold wSort at cy0;go_enter Tryz.func62,Tryz.ntmps62;go_wp2_with fail;refine hrdH.out.mono ?_;rintro e w1 ⟨A1,m1,c1,cl1,rfl,hb1,hl1,hcode,hA1,hcl1,hk1⟩;rw[hrrH.out]at hb1 hl1 hcode hA1 ⊢;simp only at hb1 hl1 hcode hA1 ⊢;have hM:=hMH.out;have hcw1:=hcH.out.below hA1.bel;have cz0:=cell_Str hcw1 hx0H.out;rw[Nat.add_zero]at cz0;unfold wSort at cz0;have hcw1H:=Lib.hid hcw1;clear hcw1;have hls:LsKeep s s1:=by
  have:=keeps_read (E:=epOf x) (wd c 2) I s;rw[hrrH.out]at this;exact this
 rcases hcode with rfl | rfl
 ·rw[if_neg (by decide)]at hM;have hf:(epOf x).fn c rb=sortP rb:=by show fnP c rb=_;unfold fnP;rw[if_pos h0H.out]
  rw[hf]at hM;clear hf;obtain⟨hb1H,hA1H,hk1H,hMH,hlsH⟩:=hqb hb1 hA1 hk1 hM (Lib.hid hls);clear hb1 hA1 hk1 hM hls;go_wp2_with fail;have hm1:m1=rb.length:=hb1H.out.1.1.1.symm;refine(sortLines_any A1 m1 c1 rb w1 hb1H.out.1 (by omega)).mono ?_;rintro e w2 ⟨A2,m2,c2,rfl,hown2,hm2,hb2⟩;have hl2:(sortP rb).length=m2:=hown2.len;have hsz1:=hk1H.out.size;have hltw:=hwH.out.lt;have hA2:=hA1H.out.below hb2;have hk2:=hk1H.out.trans (Kp.of_below (S:=WS n) hb2);have hbt2:Bts (WS n) w2 A2 m2 c2 (sortP rb):=own_bts hown2 (fun k hk=>by have:=wS_le hk;omega);have R:=hZ'H.out (.returned (.tuple #[.slice A2 m2 c2,.int .i64 0])) w2 ⟨((sortP rb,0),s1),⟨A2,m2,c2,cl1,rfl,hbt2,(by show (sortP rb).length≤_;omega),(by show (0:Int)≤0∧(0:Int)≤999999;omega),hA2,by omega,hk2⟩,hlsH.out,fun _=>hMH.out⟩;clear hbt2 hk2 hA2 hown2;obtain⟨hb2H,RH⟩:=hq2 hb2 (Lib.hid R);clear hb2 R;go_wp2_with fail;exact RH.out
 ·rw[if_pos (by decide)]at hM;have R:=hZ'H.out (.returned (.tuple #[.slice none 0 0,.int .i64 2])) w1 ⟨(([],2),s1),⟨none,0,0,cl1,rfl,Bts.nil _ _,Nat.zero_le _,(by show (0:Int)≤2∧(2:Int)≤999999;omega),hA1,by omega,hk1⟩,hls,fun _=>hM⟩;obtain⟨hb1H,hA1H,hk1H,hMH,hlsH,RH⟩:=hq2 hb1 (hqb hA1 hk1 hM hls (Lib.hid R));clear hb1 hA1 hk1 hM hls R;go_wp2_with fail;exact RH.out
theorem made_make (W0:World) (n T:Nat) (x:Action) (I:Inp) (A:Option Addr) (cc:Nat) (c:List ByteArray) (hc:SlAt RStr W0 A 3 c) (hmc:3≤cc) (h0:wd c 0=wMake) (hp:pathB (wd c 2)=true) (s:ES) (cl:Nat) (hcl:cl≤800000) (w:World) (hw:WA W0 n T x I s cl w) :
  Calls Tryz.prog 62 #[.pointer (some ⟨n+3,0,none⟩),.slice A 3 cc] w (MdAns W0 n T x I c s cl w):=by
 obtain⟨Z,hZ⟩:∃ Z,MdAns W0 n T x I c s cl w=Z:=⟨_,rfl⟩;have hZ':∀ e W,MdAns W0 n T x I c s cl w e W→Z e W:=fun e W h=>by rw[← hZ];exact h
 rw[hZ];clear hZ;have hln:c.length=3:=hc.1;have hcw:SlAt RStr w A 3 c:=hc.below hw.bel;obtain⟨b,off,hA1,_⟩:=hc.2.1 (by omega);subst hA1;have hx0:=wd_get (show 0<c.length by omega);rw[h0]at hx0;have cy0:=cell_Str hcw hx0;rw[Nat.add_zero]at cy0;have hxl:=wd_get (show 2<c.length by omega);have cyl:=cell_Str hcw hxl;clear hxl;have hps:=pathB_le hp;have hrd:=read_any (epOf x) rfl W0 n T x I (wd c 2) (by unfold maxLen;omega) s cl (by omega) w hw;obtain⟨⟨⟨rb,rk⟩,s1⟩,hrr⟩:∃ r,readM (epOf x) (wd c 2) I s=r:=⟨_,rfl⟩;have hM:=made_rd_eq (E:=epOf x) (c:=c) (by rw[h0];decide) (by rw[h0];decide) (by rw[h0];decide) (by rw[h0];decide) (b:=rb) (k:=rk) (s1:=s1) (by rw[hln];exact hrr);obtain⟨hZ'H,hcH,hwH,hcwH,hrdH,hrrH,hMH,h0H,hx0H⟩:=hqc hZ' hc hw hcw hrd hrr hM h0 (Lib.hid hx0);clear hZ' hc hw hcw hrd hrr hM h0 hx0;unfold wMake at cy0;go_enter Tryz.func62,Tryz.ntmps62;go_wp2_with fail;refine hrdH.out.mono ?_;rintro e w1 ⟨A1,m1,c1,cl1,rfl,hb1,hl1,hcode,hA1,hcl1,hk1⟩;rw[hrrH.out]at hb1 hl1 hcode hA1 ⊢;simp only at hb1 hl1 hcode hA1 ⊢;have hM:=hMH.out;have hcw1:=hcH.out.below hA1.bel;have cz0:=cell_Str hcw1 hx0H.out;rw[Nat.add_zero]at cz0;unfold wMake at cz0;have hcw1H:=Lib.hid hcw1;clear hcw1;have hls:LsKeep s s1:=by
  have:=keeps_read (E:=epOf x) (wd c 2) I s;rw[hrrH.out]at this;exact this
 rcases hcode with rfl | rfl
 ·rw[if_neg (by decide)]at hM;have hf:(epOf x).fn c rb=rb:=by
   show fnP c rb=_;unfold fnP;rw[if_neg (by rw[h0H.out];decide),if_neg (by rw[h0H.out];decide),if_neg (by rw[h0H.out];decide),if_neg (by rw[h0H.out];decide),if_neg (by rw[h0H.out];decide)]
  rw[hf]at hM;clear hf;have R:=hZ'H.out (.returned (.tuple #[.slice A1 m1 c1,.int .i64 0])) w1 ⟨((rb,0),s1),⟨A1,m1,c1,cl1,rfl,hb1.ws,(by show rb.length≤_;omega),(by show (0:Int)≤0∧(0:Int)≤999999;omega),hA1,by omega,hk1⟩,hls,fun _=>hM⟩;obtain⟨hb1H,hA1H,hk1H,hMH,hlsH,RH⟩:=hq2 hb1 (hqb hA1 hk1 hM hls (Lib.hid R));clear hb1 hA1 hk1 hM hls R;go_wp2_with fail;exact RH.out
 ·rw[if_pos (by decide)]at hM;have R:=hZ'H.out (.returned (.tuple #[.slice none 0 0,.int .i64 2])) w1 ⟨(([],2),s1),⟨none,0,0,cl1,rfl,Bts.nil _ _,Nat.zero_le _,(by show (0:Int)≤2∧(2:Int)≤999999;omega),hA1,by omega,hk1⟩,hls,fun _=>hM⟩;obtain⟨hb1H,hA1H,hk1H,hMH,hlsH,RH⟩:=hq2 hb1 (hqb hA1 hk1 hM hls (Lib.hid R));clear hb1 hA1 hk1 hM hls R;go_wp2_with fail;exact RH.out
theorem made_digest (W0:World) (n T:Nat) (x:Action) (I:Inp) (A:Option Addr) (cc:Nat) (c:List ByteArray) (hc:SlAt RStr W0 A 3 c) (hmc:3≤cc) (h0:wd c 0=wDigest) (hp:pathB (wd c 2)=true) (s:ES) (cl:Nat) (hcl:cl≤800000) (w:World) (hw:WA W0 n T x I s cl w) :
  Calls Tryz.prog 62 #[.pointer (some ⟨n+3,0,none⟩),.slice A 3 cc] w (MdAns W0 n T x I c s cl w):=by
 obtain⟨Z,hZ⟩:∃ Z,MdAns W0 n T x I c s cl w=Z:=⟨_,rfl⟩;have hZ':∀ e W,MdAns W0 n T x I c s cl w e W→Z e W:=fun e W h=>by rw[← hZ];exact h
 rw[hZ];clear hZ;have hln:c.length=3:=hc.1;have hcw:SlAt RStr w A 3 c:=hc.below hw.bel;obtain⟨b,off,hA1,_⟩:=hc.2.1 (by omega);subst hA1;have hx0:=wd_get (show 0<c.length by omega);rw[h0]at hx0;have cy0:=cell_Str hcw hx0;rw[Nat.add_zero]at cy0;have hxl:=wd_get (show 2<c.length by omega);have cyl:=cell_Str hcw hxl;clear hxl;have hps:=pathB_le hp;have hrd:=read_any (epOf x) rfl W0 n T x I (wd c 2) (by unfold maxLen;omega) s cl (by omega) w hw;obtain⟨⟨⟨rb,rk⟩,s1⟩,hrr⟩:∃ r,readM (epOf x) (wd c 2) I s=r:=⟨_,rfl⟩;have hM:=made_rd_eq (E:=epOf x) (c:=c) (by rw[h0];decide) (by rw[h0];decide) (by rw[h0];decide) (by rw[h0];decide) (b:=rb) (k:=rk) (s1:=s1) (by rw[hln];exact hrr);obtain⟨hZ'H,hcH,hwH,hcwH,hrdH,hrrH,hMH,h0H,hx0H⟩:=hqc hZ' hc hw hcw hrd hrr hM h0 (Lib.hid hx0);clear hZ' hc hw hcw hrd hrr hM h0 hx0;unfold wDigest at cy0;go_enter Tryz.func62,Tryz.ntmps62;go_wp2_with fail;refine hrdH.out.mono ?_;rintro e w1 ⟨A1,m1,c1,cl1,rfl,hb1,hl1,hcode,hA1,hcl1,hk1⟩;rw[hrrH.out]at hb1 hl1 hcode hA1 ⊢;simp only at hb1 hl1 hcode hA1 ⊢;have hM:=hMH.out;have hcw1:=hcH.out.below hA1.bel;have cz0:=cell_Str hcw1 hx0H.out;rw[Nat.add_zero]at cz0;unfold wDigest at cz0;have hcw1H:=Lib.hid hcw1;clear hcw1;have hls:LsKeep s s1:=by
  have:=keeps_read (E:=epOf x) (wd c 2) I s;rw[hrrH.out]at this;exact this
 rcases hcode with rfl | rfl
 ·rw[if_neg (by decide)]at hM;have hf:(epOf x).fn c rb=(digF rb++(⟨#[10]⟩:ByteArray)).data.toList:=by
   show fnP c rb=_;unfold fnP;rw[if_neg (by rw[h0H.out];decide),if_neg (by rw[h0H.out];decide),if_neg (by rw[h0H.out];decide),if_neg (by rw[h0H.out];decide),if_pos h0H.out];simp[ByteArray.data_append]
  rw[hf]at hM;clear hf;obtain⟨hb1H,hA1H,hk1H,hMH,hlsH⟩:=hqb hb1 hA1 hk1 hM (Lib.hid hls);clear hb1 hA1 hk1 hM hls;go_wp2_with fail;have hm1:m1=rb.length:=hb1H.out.1.1.1.symm;refine(digest_any A1 m1 c1 rb w1 hb1H.out.1.1 (by omega)).mono ?_;rintro e w2 ⟨rfl,hb2⟩;have hd16:=digF_size rb;have hsz1:=hk1H.out.size;have hltw:=hwH.out.lt;have hA2:=hA1H.out.below hb2;have hk2:=hk1H.out.trans (Kp.of_below (S:=WS n) hb2);have hcv:=fun W=>conv_any W ((digF rb)++(⟨#[10]⟩:ByteArray));have e2:((digF rb)++(⟨#[10]⟩:ByteArray)).size=(digF rb).size+1:=by rw[ByteArray.size_append];rfl
  have n1:¬ 9223372036854775807<(digF rb).size+1:=by omega
  have R:=hZ'H.out _ _ (MdAns.conv hA2 hk2 hltw (by omega) hlsH.out hMH.out (by rw[e2];omega));rw[e2]at R;clear hk2 hA2;obtain⟨hb2H,RH,e2H⟩:=hq2 hb2 (hq2 R (Lib.hid e2));clear hb2 R e2;go_wp2_with fail;exact RH.out
 ·rw[if_pos (by decide)]at hM;have R:=hZ'H.out (.returned (.tuple #[.slice none 0 0,.int .i64 2])) w1 ⟨(([],2),s1),⟨none,0,0,cl1,rfl,Bts.nil _ _,Nat.zero_le _,(by show (0:Int)≤2∧(2:Int)≤999999;omega),hA1,by omega,hk1⟩,hls,fun _=>hM⟩;obtain⟨hb1H,hA1H,hk1H,hMH,hlsH,RH⟩:=hq2 hb1 (hqb hA1 hk1 hM hls (Lib.hid R));clear hb1 hA1 hk1 hM hls R;go_wp2_with fail;exact RH.out
theorem made_count (W0:World) (n T:Nat) (x:Action) (I:Inp) (A:Option Addr) (cc:Nat) (c:List ByteArray) (hpj:PowJ W0) (hc:SlAt RStr W0 A 3 c) (hmc:3≤cc) (h0:wd c 0=wCount) (hp:pathB (wd c 2)=true) (s:ES) (cl:Nat) (hcl:cl≤800000) (w:World) (hw:WA W0 n T x I s cl w) :
  Calls Tryz.prog 62 #[.pointer (some ⟨n+3,0,none⟩),.slice A 3 cc] w (MdAns W0 n T x I c s cl w):=by
 obtain⟨Z,hZ⟩:∃ Z,MdAns W0 n T x I c s cl w=Z:=⟨_,rfl⟩;have hZ':∀ e W,MdAns W0 n T x I c s cl w e W→Z e W:=fun e W h=>by rw[← hZ];exact h
 rw[hZ];clear hZ;have hln:c.length=3:=hc.1;have hcw:SlAt RStr w A 3 c:=hc.below hw.bel;obtain⟨b,off,hA1,_⟩:=hc.2.1 (by omega);subst hA1;have hx0:=wd_get (show 0<c.length by omega);rw[h0]at hx0;have cy0:=cell_Str hcw hx0;rw[Nat.add_zero]at cy0;have hxl:=wd_get (show 2<c.length by omega);have cyl:=cell_Str hcw hxl;clear hxl;have hps:=pathB_le hp;have hrd:=read_any (epOf x) rfl W0 n T x I (wd c 2) (by unfold maxLen;omega) s cl (by omega) w hw;obtain⟨⟨⟨rb,rk⟩,s1⟩,hrr⟩:∃ r,readM (epOf x) (wd c 2) I s=r:=⟨_,rfl⟩;have hM:=made_rd_eq (E:=epOf x) (c:=c) (by rw[h0];decide) (by rw[h0];decide) (by rw[h0];decide) (by rw[h0];decide) (b:=rb) (k:=rk) (s1:=s1) (by rw[hln];exact hrr);obtain⟨hZ'H,hcH,hwH,hcwH,hrdH,hrrH,hMH,h0H,hx0H,hpjH⟩:=hq2 hZ' (hqc hc hw hcw hrd hrr hM h0 hx0 (Lib.hid hpj));clear hZ' hc hw hcw hrd hrr hM h0 hx0 hpj;unfold wCount at cy0;go_enter Tryz.func62,Tryz.ntmps62;go_wp2_with fail;refine hrdH.out.mono ?_;rintro e w1 ⟨A1,m1,c1,cl1,rfl,hb1,hl1,hcode,hA1,hcl1,hk1⟩;rw[hrrH.out]at hb1 hl1 hcode hA1 ⊢;simp only at hb1 hl1 hcode hA1 ⊢;have hM:=hMH.out;have hcw1:=hcH.out.below hA1.bel;have cz0:=cell_Str hcw1 hx0H.out;rw[Nat.add_zero]at cz0;unfold wCount at cz0;have hcw1H:=Lib.hid hcw1;clear hcw1;have hls:LsKeep s s1:=by
  have:=keeps_read (E:=epOf x) (wd c 2) I s;rw[hrrH.out]at this;exact this
 rcases hcode with rfl | rfl
 ·rw[if_neg (by decide)]at hM;have hf:(epOf x).fn c rb=(bsOf (Lib.itoa ((linesP rb).length:Nat))++(⟨#[10]⟩:ByteArray)).data.toList:=by
   show fnP c rb=_;unfold fnP;rw[if_neg (by rw[h0H.out];decide),if_pos h0H.out];simp[ByteArray.data_append,bsOf]
  rw[hf]at hM;clear hf;obtain⟨hb1H,hA1H,hk1H,hMH,hlsH⟩:=hqb hb1 hA1 hk1 hM (Lib.hid hls);clear hb1 hA1 hk1 hM hls;go_wp2_with fail;have hm1:m1=rb.length:=hb1H.out.1.1.1.symm;refine(lines_any A1 m1 c1 rb w1 hb1H.out.1 (by omega)).mono ?_;rintro e w2 ⟨A2,m2,c2,rfl,hown2,hb2⟩;have hl2:(und (linesP rb)).length=m2:=hown2.len;rw[und_len]at hl2;have hle:=(linesP_all rb.length rb (Nat.le_refl _)).2.1;have hb02:=hA1H.out.bel.trans (hb2.mono hA1H.out.bel.size);have hpj2:PowJ w2:=hpjH.out.below hb02;have hito:=itoX_any m2 (by omega) w2 hpj2;have hd16:=itoX_len m2 (by omega);rw[hl2]at hMH;obtain⟨S0,hS0⟩:∃ S,bsOf (Lib.itoa (m2:Nat))=S:=⟨_,rfl⟩;have hd16:S0.size≤21:=by rw[← hS0];have e:(bsOf (Lib.itoa (m2:Nat))).size=(Lib.itoa (m2:Nat)).length:=List.size_toArray;omega
  rw[hS0]at hito hMH;clear hS0 hown2 hl2 hle hb02 hpj2;have hitoH:=Lib.hid hito;clear hito;have hA2:=hA1H.out.below hb2;have hk2:=hk1H.out.trans (Kp.of_below (S:=WS n) hb2);obtain⟨hA2H,hk2H⟩:=hq2 hA2 (Lib.hid hk2);clear hA2 hk2;go_wp2_with fail;refine hitoH.out.mono ?_;rintro e w3 ⟨rfl,hb3⟩;have hA1:=hA2H.out;have hk1:=hk2H.out;clear hA1H hk1H hb2;have hb2:=hb3;obtain⟨hA1H,hk1H⟩:=hq2 hA1 (Lib.hid hk1);clear hA1 hk1;have hsz1:=hk1H.out.size;have hltw:=hwH.out.lt;have hA2:=hA1H.out.below hb2;have hk2:=hk1H.out.trans (Kp.of_below (S:=WS n) hb2);have hcv:=fun W=>conv_any W (S0++(⟨#[10]⟩:ByteArray));have e2:(S0++(⟨#[10]⟩:ByteArray)).size=S0.size+1:=by rw[ByteArray.size_append];rfl
  have n1:¬ 9223372036854775807<S0.size+1:=by omega
  have R:=hZ'H.out _ _ (MdAns.conv hA2 hk2 hltw (by omega) hlsH.out hMH.out (by rw[e2];omega));rw[e2]at R;clear hk2 hA2;obtain⟨hb2H,RH,e2H⟩:=hq2 hb2 (hq2 R (Lib.hid e2));clear hb2 R e2;go_wp2_with fail;exact RH.out
 ·rw[if_pos (by decide)]at hM;have R:=hZ'H.out (.returned (.tuple #[.slice none 0 0,.int .i64 2])) w1 ⟨(([],2),s1),⟨none,0,0,cl1,rfl,Bts.nil _ _,Nat.zero_le _,(by show (0:Int)≤2∧(2:Int)≤999999;omega),hA1,by omega,hk1⟩,hls,fun _=>hM⟩;obtain⟨hb1H,hA1H,hk1H,hMH,hlsH,RH⟩:=hq2 hb1 (hqb hA1 hk1 hM hls (Lib.hid R));clear hb1 hA1 hk1 hM hls R;go_wp2_with fail;exact RH.out
theorem made_first (W0:World) (n T:Nat) (x:Action) (I:Inp) (A:Option Addr) (cc:Nat) (c:List ByteArray) (hc:SlAt RStr W0 A 4 c) (hmc:4≤cc) (h0:wd c 0=wFirst) (hp:pathB (wd c 3)=true) (hnum:NumW (wd c 2)) (s:ES) (cl:Nat) (hcl:cl≤800000) (w:World) (hw:WA W0 n T x I s cl w) :
  Calls Tryz.prog 62 #[.pointer (some ⟨n+3,0,none⟩),.slice A 4 cc] w (MdAns W0 n T x I c s cl w):=by
 obtain⟨Z,hZ⟩:∃ Z,MdAns W0 n T x I c s cl w=Z:=⟨_,rfl⟩;have hZ':∀ e W,MdAns W0 n T x I c s cl w e W→Z e W:=fun e W h=>by rw[← hZ];exact h
 rw[hZ];clear hZ;have hln:c.length=4:=hc.1;have hcw:SlAt RStr w A 4 c:=hc.below hw.bel;obtain⟨b,off,hA1,_⟩:=hc.2.1 (by omega);subst hA1;have hx0:=wd_get (show 0<c.length by omega);rw[h0]at hx0;have cy0:=cell_Str hcw hx0;rw[Nat.add_zero]at cy0;have hxl:=wd_get (show 3<c.length by omega);have cyl:=cell_Str hcw hxl;clear hxl;have hps:=pathB_le hp;have hrd:=read_any (epOf x) rfl W0 n T x I (wd c 3) (by unfold maxLen;omega) s cl (by omega) w hw;obtain⟨⟨⟨rb,rk⟩,s1⟩,hrr⟩:∃ r,readM (epOf x) (wd c 3) I s=r:=⟨_,rfl⟩;have hM:=made_rd_eq (E:=epOf x) (c:=c) (by rw[h0];decide) (by rw[h0];decide) (by rw[h0];decide) (by rw[h0];decide) (b:=rb) (k:=rk) (s1:=s1) (by rw[hln];exact hrr);obtain⟨hZ'H,hcH,hwH,hcwH,hrdH,hrrH,hMH,h0H,hx0H,hnumH⟩:=hq2 hZ' (hqc hc hw hcw hrd hrr hM h0 hx0 (Lib.hid hnum));clear hZ' hc hw hcw hrd hrr hM h0 hx0 hnum;unfold wFirst at cy0;go_enter Tryz.func62,Tryz.ntmps62;go_wp2_with fail;refine hrdH.out.mono ?_;rintro e w1 ⟨A1,m1,c1,cl1,rfl,hb1,hl1,hcode,hA1,hcl1,hk1⟩;rw[hrrH.out]at hb1 hl1 hcode hA1 ⊢;simp only at hb1 hl1 hcode hA1 ⊢;have hM:=hMH.out;have hcw1:=hcH.out.below hA1.bel;have cz0:=cell_Str hcw1 hx0H.out;rw[Nat.add_zero]at cz0;unfold wFirst at cz0;have hcw1H:=Lib.hid hcw1;clear hcw1;have hls:LsKeep s s1:=by
  have:=keeps_read (E:=epOf x) (wd c 3) I s;rw[hrrH.out]at this;exact this
 rcases hcode with rfl | rfl
 ·rw[if_neg (by decide)]at hM;have hx2:=wd_get (show 2<c.length by omega);have cz2:=cell_Str hcw1H.out hx2;clear hx2;obtain⟨N,hN⟩:∃ N:Nat,numP (wd c 2)=N:=⟨(numP (wd c 2)).toNat,by have:=(numW_atoi hnumH.out).2.1;omega⟩;have hf:(epOf x).fn c rb=((linesP rb).take (min (N:Int) ((linesP rb).length:Nat)).toNat).flatten:=by
   show fnP c rb=_;unfold fnP;rw[if_neg (by rw[h0H.out];decide),if_neg (by rw[h0H.out];decide),if_pos h0H.out,hN]
  rw[hf]at hM;have hN6:N≤999999:=by have:=(numW_atoi hnumH.out).2.2;omega
  have hat:=atoX_any (wd c 2) hnumH.out w1;rw[hN]at hat;clear hf hN;obtain⟨hb1H,hA1H,hk1H,hMH,hlsH,hatH⟩:=hq2 hb1 (hqb hA1 hk1 hM hls (Lib.hid hat));clear hb1 hA1 hk1 hM hls hat;go_wp2_with fail;refine hatH.out.mono ?_;rintro e w2 ⟨rfl,hb2⟩;have hb2t:=(hb1H.out.kp (Kp.of_below hb2)).1;have hA2:=hA1H.out.below hb2;have hk2:=hk1H.out.trans (Kp.of_below (S:=WS n) hb2);obtain⟨hb2tH,hA2H,hk2H⟩:=hq2 hb2t (hq2 hA2 (Lib.hid hk2));clear hb2t hA2 hk2;go_wp2_with fail;have hm1:m1=rb.length:=hb1H.out.1.1.1.symm;refine(lines_any A1 m1 c1 rb w2 hb2tH.out (by omega)).mono ?_;rintro e w3 ⟨A3,m3,c3,rfl,hown3,hb3⟩;have hl3:(und (linesP rb)).length=m3:=hown3.len;rw[und_len]at hl3;have hle:=(linesP_all rb.length rb (Nat.le_refl _)).2.1;have hfl:=(linesP_all rb.length rb (Nat.le_refl _)).1;rw[hl3]at hMH;have hA3:=hA2H.out.below hb3;have hk3:=hk2H.out.trans (Kp.of_below (S:=WS n) hb3);obtain⟨kk,hkk⟩:∃ kk:Nat,min (N:Int) (m3:Nat)=kk:=⟨min N m3,by omega⟩;rw[hkk]at hMH;have hkm:kk≤m3:=by omega
  have hc3:=hown3.cap_le;have hpart:SlAt RStr w3 A3 kk (und ((linesP rb).take kk)):=by
   have h:=hown3.slAt;refine⟨by rw[und_len,List.length_take];omega,fun h0=>?_,fun y hy=>h.2.2 y ?_⟩
   ·obtain⟨b3,o3,hA,hcel⟩:=h.2.1 (by omega);refine⟨b3,o3,hA,fun i y hy=>hcel i y ?_⟩;unfold und at hy ⊢;rw[List.map_take]at hy;have hi:i<kk:=by have:=(List.getElem?_eq_some_iff.1 hy).1;rw[List.length_take]at this;omega
    rwa [List.getElem?_take,if_pos hi]at hy
   ·unfold und at hy ⊢;rw[List.map_take]at hy;exact List.mem_of_mem_take hy
  have hjn:=join_any A3 kk c3 _ ⟨#[]⟩ w3 hpart (by omega) 100000 (fun y hy=>by
   obtain⟨z,hz,rfl⟩:=List.mem_map.1 hy;have h1:=mem_length_le (List.mem_of_mem_take hz);have e:(bsOf z).size=z.length:=List.size_toArray;omega) (by
   rw[hpart.1];have e:(⟨#[]⟩:ByteArray).size=0:=rfl;rw[e];have:kk*100000≤100000*100000:=Nat.mul_le_mul_right _ (by omega);omega) (by omega)
  have hjoin:Lib.join ((und ((linesP rb).take kk)).map (·.data.toList)) (⟨#[]⟩:ByteArray).data.toList=((linesP rb).take kk).flatten:=by
   have e1:((und ((linesP rb).take kk)).map (·.data.toList))=(linesP rb).take kk:=dat_und _;rw[e1]
   generalize (linesP rb).take kk=L
   cases L with
   | nil=>rfl
   | cons y r =>
    rw[Lib.join_cons,List.flatten_cons];unfold Lib.joinTail;have e2:(⟨#[]⟩:ByteArray).data.toList = []:=rfl;rw[e2];simp
  rw[hjoin]at hjn;obtain⟨S,hS⟩:∃ S,bsOf ((linesP rb).take kk).flatten=S:=⟨_,rfl⟩;have hSd:((linesP rb).take kk).flatten=S.data.toList:=by rw[← hS,data_bsOf]
  have hSz:S.size≤100000:=by
   rw[Lib.size_eq,← hSd];have h1:(linesP rb).flatten.length=((linesP rb).take kk).flatten.length+((linesP rb).drop kk).flatten.length:=by
    rw[← List.length_append,← List.flatten_append,List.take_append_drop]
   rw[hfl]at h1;omega
  rw[hS]at hjn;simp only[Int.toNat_natCast]at hMH;rw[hSd]at hMH;clear hS hjoin hfl hpart hown3 hl3 hle hSd;have i0:(0:Int)≤(kk:Int):=by omega
  have i1:(kk:Int)≤(c3:Int):=by omega
  obtain⟨hjnH,hA3H,hk3H⟩:=hq2 hjn (hq2 hA3 (Lib.hid hk3));clear hjn hA3 hk3;go_wp2_with fail;refine hjnH.out.mono ?_;rintro e w4 ⟨rfl,hb4⟩;have hltw:=hwH.out.lt;have hA4:=hA3H.out.below hb4;have hk4:=hk3H.out.trans (Kp.of_below (S:=WS n) hb4);have hcv:=fun W=>conv_any W S;have R:=hZ'H.out _ _ (MdAns.conv hA4 hk4 hltw (by omega) hlsH.out hMH.out (by omega));clear hA4 hk4;obtain⟨hb4H,RH⟩:=hq2 hb4 (Lib.hid R);clear hb4 R;go_wp2_with fail;exact RH.out
 ·rw[if_pos (by decide)]at hM;have R:=hZ'H.out (.returned (.tuple #[.slice none 0 0,.int .i64 2])) w1 ⟨(([],2),s1),⟨none,0,0,cl1,rfl,Bts.nil _ _,Nat.zero_le _,(by show (0:Int)≤2∧(2:Int)≤999999;omega),hA1,by omega,hk1⟩,hls,fun _=>hM⟩;obtain⟨hb1H,hA1H,hk1H,hMH,hlsH,RH⟩:=hq2 hb1 (hqb hA1 hk1 hM hls (Lib.hid R));clear hb1 hA1 hk1 hM hls R;go_wp2_with fail;exact RH.out
theorem conv_ex (W:World) (s:ByteArray) (hs:s.size≤maxLen):∃ b k W',(convert 9 56 (.string s)).run Tryz.prog W = .ok (.slice (some ⟨b,0,none⟩) s.size k) W'∧SlAt RU8 W' (some ⟨b,0,none⟩) s.size s.data.toList∧Below W.heap.size W W' :=
 ⟨_,_,_,conv_any W s,(conv_bts W s (fun _=>False) (fun h=>h) hs).1.1,conv_below W s⟩
theorem replP_len (l old new:List UInt8) (h:old≠[]) (hl:l.length≤100000) (hn:new.length≤300):(replP l old new).length≤40000000:=by
 have h1:=replaceK_len old new h (Lib.count l old) l (Nat.le_refl _);have h2:=Lib.count_le l old;have h3:Lib.count l old*new.length≤100001*300:=Nat.mul_le_mul (by omega) hn;unfold replP;omega
theorem twoR {P:Program} {md:Region.Mode} {ops:Array Oper} {Q:Exit→Act→World→Prop} {R:Nat→World→World→Prop} {i j:Nat} {oi oj:Oper} {fuel:Nat} {listed:Array Bool} {a:Act} {w:World} (hr:Region.ready md ops listed = [i,j]) (hoi:ops[i]? = some oi) (hoj:ops[j]? = some oj)
  (hi:∀ K':Act→World→Prop,Shut (∀ a' w',R i w w'→wpAnyR P md ops Q R fuel (listed.setIfInBounds i true) a' w'→K' a' w')→if Region.wanted oi (yielded ops a.tmps)=true then Oper.wp P oi a w K' Q else K' (a.put oi.dst undef) w)
  (hj:∀ K':Act→World→Prop,Shut (∀ a' w',R j w w'→wpAnyR P md ops Q R fuel (listed.setIfInBounds j true) a' w'→K' a' w')→if Region.wanted oj (yielded ops a.tmps)=true then Oper.wp P oj a w K' Q else K' (a.put oj.dst undef) w) :
  wpAnyR P md ops Q R (fuel+1) listed a w:=by
 refine⟨fun h0=>absurd (hr ▸ h0) (by simp),fun k hk=>?_⟩;rw[hr,List.mem_cons,List.mem_singleton]at hk
 rcases hk with rfl | rfl
 ·exact wpOp_step hoi (fun K' hK=>hi K' (fun a' w' h1 h2=>hK a' w' ⟨h1,h2⟩))
 ·exact wpOp_step hoj (fun K' hK=>hj K' (fun a' w' h1 h2=>hK a' w' ⟨h1,h2⟩))
theorem made_change (W0:World) (n T:Nat) (x:Action) (I:Inp) (A:Option Addr) (cc:Nat) (c:List ByteArray) (hc:SlAt RStr W0 A 5 c) (hmc:5≤cc) (h0:wd c 0=wChange) (hp:pathB (wd c 4)=true) (hmx:MaxLenAt W0) (hz:∀ s∈c,1≤s.size∧s.size≤300) (s:ES) (cl:Nat) (hcl:cl≤800000) (w:World) (hw:WA W0 n T x I s cl w) :
  Calls Tryz.prog 62 #[.pointer (some ⟨n+3,0,none⟩),.slice A 5 cc] w (MdAns W0 n T x I c s cl w):=by
 obtain⟨Z,hZ⟩:∃ Z,MdAns W0 n T x I c s cl w=Z:=⟨_,rfl⟩;have hZ':∀ e W,MdAns W0 n T x I c s cl w e W→Z e W:=fun e W h=>by rw[← hZ];exact h
 rw[hZ];clear hZ;have hln:c.length=5:=hc.1;have hcw:SlAt RStr w A 5 c:=hc.below hw.bel;obtain⟨b,off,hA1,_⟩:=hc.2.1 (by omega);subst hA1;have hx0:=wd_get (show 0<c.length by omega);rw[h0]at hx0;have cy0:=cell_Str hcw hx0;rw[Nat.add_zero]at cy0;have hxl:=wd_get (show 4<c.length by omega);have cyl:=cell_Str hcw hxl;clear hxl;have hps:=pathB_le hp;have hrd:=read_any (epOf x) rfl W0 n T x I (wd c 4) (by unfold maxLen;omega) s cl (by omega) w hw;obtain⟨⟨⟨rb,rk⟩,s1⟩,hrr⟩:∃ r,readM (epOf x) (wd c 4) I s=r:=⟨_,rfl⟩;have hM:=made_rd_eq (E:=epOf x) (c:=c) (by rw[h0];decide) (by rw[h0];decide) (by rw[h0];decide) (by rw[h0];decide) (b:=rb) (k:=rk) (s1:=s1) (by rw[hln];exact hrr);obtain⟨hZ'H,hcH,hwH,hcwH,hrdH,hrrH,hMH,h0H,hx0H,hzH,hmxH⟩:=hq2 hZ' (hq2 hc (hqc hw hcw hrd hrr hM h0 hx0 hz (Lib.hid hmx)));clear hZ' hc hw hcw hrd hrr hM h0 hx0 hz hmx;unfold wChange at cy0;go_enter Tryz.func62,Tryz.ntmps62;go_wp2_with fail;refine hrdH.out.mono ?_;rintro e w1 ⟨A1,m1,c1,cl1,rfl,hb1,hl1,hcode,hA1,hcl1,hk1⟩;rw[hrrH.out]at hb1 hl1 hcode hA1 ⊢;simp only at hb1 hl1 hcode hA1 ⊢;have hM:=hMH.out;have hcw1:=hcH.out.below hA1.bel;have cz0:=cell_Str hcw1 hx0H.out;rw[Nat.add_zero]at cz0;unfold wChange at cz0;have hcw1H:=Lib.hid hcw1;clear hcw1;have hls:LsKeep s s1:=by
  have:=keeps_read (E:=epOf x) (wd c 4) I s;rw[hrrH.out]at this;exact this
 rcases hcode with rfl | rfl
 ·rw[if_neg (by decide)]at hM;have hf:(epOf x).fn c rb=replP rb (wd c 2).data.toList (wd c 3).data.toList:=by
   show fnP c rb=_;unfold fnP;rw[if_neg (by rw[h0H.out];decide),if_neg (by rw[h0H.out];decide),if_neg (by rw[h0H.out];decide),if_pos h0H.out]
  rw[hf]at hM;clear hf;have hx2:=wd_get (show 2<c.length by omega);have hx3:=wd_get (show 3<c.length by omega);have hz2:=hzH.out _ (List.mem_of_getElem? hx2);have hz3:=hzH.out _ (List.mem_of_getElem? hx3);obtain⟨s2,hs2⟩:∃ s,wd c 2=s:=⟨_,rfl⟩;obtain⟨s3,hs3⟩:∃ s,wd c 3=s:=⟨_,rfl⟩;rw[hs2]at hx2 hz2 hM;rw[hs3]at hx3 hz3 hM;have cz2:=cell_Str hcw1H.out hx2;have cz3:=cell_Str hcw1H.out hx3;have hm1:m1≤100000:=by have:rb.length=m1:=hb1.1.1.1;omega
  clear hx2 hx3 hs2 hs3 hcw1H;obtain⟨hb1H,hA1H,hk1H,hMH,hlsH⟩:=hqb hb1 hA1 hk1 hM (Lib.hid hls);clear hb1 hA1 hk1 hM hls;go_wp2_with fail;refine startR (R:=Rk (fun _=>True) (fun w'=>w'.cell? ⟨b,off+2,none⟩=some (.string s2)∧w'.cell? ⟨b,off+3,none⟩=some (.string s3)) 11 11) (by kernel_rfl) ?_;have hC:w1.drew.cell? ⟨b,off+2,none⟩=some (.string s2)∧w1.drew.cell? ⟨b,off+3,none⟩=some (.string s3):=⟨cz2,cz3⟩;refine takeC (i:=0) (d:=some 113) (v:=?_) rfl rfl (by kernel_rfl) (by kernel_rfl) (by kernel_rfl) (by kernel_rfl) (fun _ _ _ h=>h) (Or.inl ⟨by rfl,?_⟩) hC ?_
  rotate_left
  ·(intro w hSw;(try dsimp only at hSw);go_simp;(try with_reducible rfl))
  (try simp only[Act.put,List.setIfInBounds_toArray,List.set_cons_zero,List.set_cons_succ])
  refine takeC (i:=1) (d:=some 114) (v:=?_) rfl rfl (by kernel_rfl) (by kernel_rfl) (by kernel_rfl) (by kernel_rfl) (fun _ _ _ h=>h) (Or.inl ⟨by rfl,?_⟩) hC ?_
  rotate_left
  ·(intro w hSw;(try dsimp only at hSw);go_simp;(try with_reducible rfl))
  (try simp only[Act.put,List.setIfInBounds_toArray,List.set_cons_zero,List.set_cons_succ])
  refine takeC (i:=2) (d:=some 115) (v:=?_) rfl rfl (by kernel_rfl) (by kernel_rfl) (by kernel_rfl) (by kernel_rfl) (fun _ _ _ h=>h) (Or.inl ⟨by rfl,?_⟩) hC ?_
  rotate_left
  ·(intro w hSw;(try dsimp only at hSw);go_simp;(try with_reducible rfl))
  (try simp only[Act.put,List.setIfInBounds_toArray,List.set_cons_zero,List.set_cons_succ])
  refine takeC (i:=3) (d:=some 116) (v:=?_) rfl rfl (by kernel_rfl) (by kernel_rfl) (by kernel_rfl) (by kernel_rfl) (fun _ _ _ h=>h) (Or.inl ⟨by rfl,?_⟩) hC ?_
  rotate_left
  ·(intro w hSw;(try dsimp only at hSw);go_simp;(try with_reducible rfl))
  (try simp only[Act.put,List.setIfInBounds_toArray,List.set_cons_zero,List.set_cons_succ])
  refine takeC (i:=5) (d:=some 118) (v:=?_) rfl rfl (by kernel_rfl) (by kernel_rfl) (by kernel_rfl) (by kernel_rfl) (fun _ _ _ h=>h) (Or.inl ⟨by rfl,?_⟩) hC ?_
  rotate_left
  ·(intro w hSw;(try dsimp only at hSw);go_simp;(try with_reducible rfl))
  (try simp only[Act.put,List.setIfInBounds_toArray,List.set_cons_zero,List.set_cons_succ])
  refine takeC (i:=6) (d:=some 119) (v:=?_) rfl rfl (by kernel_rfl) (by kernel_rfl) (by kernel_rfl) (by kernel_rfl) (fun _ _ _ h=>h) (Or.inl ⟨by rfl,?_⟩) hC ?_
  rotate_left
  ·(intro w hSw;(try dsimp only at hSw);go_simp;(try with_reducible rfl))
  (try simp only[Act.put,List.setIfInBounds_toArray,List.set_cons_zero,List.set_cons_succ])
  refine takeC (i:=7) (d:=some 120) (v:=?_) rfl rfl (by kernel_rfl) (by kernel_rfl) (by kernel_rfl) (by kernel_rfl) (fun _ _ _ h=>h) (Or.inl ⟨by rfl,?_⟩) hC ?_
  rotate_left
  ·(intro w hSw;(try dsimp only at hSw);go_simp;(try with_reducible rfl))
  (try simp only[Act.put,List.setIfInBounds_toArray,List.set_cons_zero,List.set_cons_succ])
  have hbD:Below w1.heap.size w1 w1.drew:=(Below.refl _ _).drew;have hmx1:MaxLenAt w1:=hmxH.out.below hA1H.out.bel;refine twoR (i:=4) (j:=8) (by kernel_rfl) rfl rfl (fun K hK=>?_) (fun K hK=>?_)
  ·obtain⟨bA,kA,wA,hrA,hsA,hBA⟩:=conv_ex w1.drew s2 (by unfold maxLen;omega);obtain⟨bB,kB,wB,hrB,hsB,hBB⟩:=conv_ex wA s3 (by unfold maxLen;omega);have hbA:=hbD.trans hBA;have hbB:=hbA.trans (hBB.mono hbA.size);have hmB:=hmx1.below hbB;have hsA2:=hsA.below hBB;have hC4:wA.cell? ⟨b,off+2,none⟩=some (.string s2)∧wA.cell? ⟨b,off+3,none⟩=some (.string s3):=⟨keepC hbA cz2,keepC hbA cz3⟩;have hC8:wB.cell? ⟨b,off+2,none⟩=some (.string s2)∧wB.cell? ⟨b,off+3,none⟩=some (.string s3):=⟨keepC hbB cz2,keepC hbB cz3⟩;clear hsA hBA hBB hbA;have hbF:=Lib.hid hbB;have hmxB:=Lib.hid hmB;clear hbB hmB;obtain⟨hsA2H,hsBH⟩:=hq2 hsA2 (Lib.hid hsB);clear hsA2 hsB;go_simp;refine hK.out _ _ ⟨fun _ _ _=>trivial,fun _ _=>hC4⟩ ?_;clear hK K
   (try simp only[Act.put,List.setIfInBounds_toArray,List.set_cons_zero,List.set_cons_succ])
   refine oneR (i:=8) (by kernel_rfl) rfl (fun K hK=>?_);go_simp;refine hK.out _ _ ⟨fun _ _ _=>trivial,fun _ _=>hC8⟩ ?_;clear hK K
   (try simp only[Act.put,List.setIfInBounds_toArray,List.set_cons_zero,List.set_cons_succ])
   refine oneR (i:=9) (by kernel_rfl) rfl (fun K hK=>?_);go_simp;go_at_call 97;refine(replaceAll_any A1 m1 c1 rb bA 0 s2.size kA s2.data.toList (some ⟨bB,0,none⟩) s3.size kB s3.data.toList wB hmxB.out (hb1H.out.kp (Kp.of_below hbF.out)).1 hsA2H.out hsBH.out (by omega) (by omega) (by omega) (by omega)).mono ?_;rintro e w5 ⟨A5,m5,c5,rfl,hok5,hfar5,hb5⟩;have hbG:=hbF.out.trans (hb5.mono hbF.out.size);have hne:s2.data.toList≠[]:=fun e=>by have e2:s2.data.toList.length=s2.size:=(Lib.size_eq s2).symm;rw[e]at e2;simp at e2;omega
   have hl3:s3.data.toList.length=s3.size:=(Lib.size_eq s3).symm;have hlen5:=replP_len rb s2.data.toList s3.data.toList hne (by omega) (by omega);have hsz1:=hk1H.out.size;have hltw:=hwH.out.lt;have hszF:=hbF.out.size;have hA5:=hA1H.out.below hbG;have hk5:=hk1H.out.trans (Kp.of_below (S:=WS n) hbG);have hbt5:Bts (WS n) w5 A5 m5 c5 (replP rb s2.data.toList s3.data.toList):=⟨hok5,fun h0 ad hA hs=>by have:=wS_le hs;have:=hfar5 h0 ad hA;omega⟩;have R:=hZ'H.out (.returned (.tuple #[.slice A5 m5 c5,.int .i64 0])) w5 ⟨((replP rb s2.data.toList s3.data.toList,0),s1),⟨A5,m5,c5,cl1,rfl,hbt5,(by show (replP rb s2.data.toList s3.data.toList).length≤_;omega),(by show (0:Int)≤0∧(0:Int)≤999999;omega),hA5,by omega,hk5⟩,hlsH.out,fun _=>hMH.out⟩;have hC5:w5.cell? ⟨b,off+2,none⟩=some (.string s2)∧w5.cell? ⟨b,off+3,none⟩=some (.string s3):=⟨keepC hbG cz2,keepC hbG cz3⟩;clear hbt5 hk5 hA5 hok5 hfar5 hbG hlen5 hne hszF;obtain⟨hb5H,RH⟩:=hq2 hb5 (Lib.hid R);clear hb5 R;refine hK.out _ _ ⟨fun _ _ _=>trivial,fun _ _=>hC5⟩ ?_;clear hK K
   (try simp only[Act.put,List.setIfInBounds_toArray,List.set_cons_zero,List.set_cons_succ])
   clear hC;have hC:=hC5;refine takeC (i:=10) (d:=some 4) (v:=?_) rfl rfl (by kernel_rfl) (by kernel_rfl) (by kernel_rfl) (by kernel_rfl) (fun _ _ _ h=>h) (Or.inl ⟨by rfl,?_⟩) hC ?_
   rotate_left
   ·(intro w hSw;(try dsimp only at hSw);go_simp;(try with_reducible rfl))
   (try simp only[Act.put,List.setIfInBounds_toArray,List.set_cons_zero,List.set_cons_succ])
   refine oneR (i:=11) (by kernel_rfl) rfl (fun K hK=>?_);go_simp;refine hK.out _ _ ⟨fun h=>absurd rfl h,fun h=>absurd rfl h⟩ ?_;clear hK K
   (try simp only[Act.put,List.setIfInBounds_toArray,List.set_cons_zero,List.set_cons_succ])
   refine doneR (by kernel_rfl) ?_ _;clear hC hC4 hC8 hC5 hrA hrB;go_wp2_with fail;exact RH.out
  ·obtain⟨bA,kA,wA,hrA,hsA,hBA⟩:=conv_ex w1.drew s3 (by unfold maxLen;omega);obtain⟨bB,kB,wB,hrB,hsB,hBB⟩:=conv_ex wA s2 (by unfold maxLen;omega);have hbA:=hbD.trans hBA;have hbB:=hbA.trans (hBB.mono hbA.size);have hmB:=hmx1.below hbB;have hsA2:=hsA.below hBB;have hC4:wA.cell? ⟨b,off+2,none⟩=some (.string s2)∧wA.cell? ⟨b,off+3,none⟩=some (.string s3):=⟨keepC hbA cz2,keepC hbA cz3⟩;have hC8:wB.cell? ⟨b,off+2,none⟩=some (.string s2)∧wB.cell? ⟨b,off+3,none⟩=some (.string s3):=⟨keepC hbB cz2,keepC hbB cz3⟩;clear hsA hBA hBB hbA;have hbF:=Lib.hid hbB;have hmxB:=Lib.hid hmB;clear hbB hmB;obtain⟨hsA2H,hsBH⟩:=hq2 hsA2 (Lib.hid hsB);clear hsA2 hsB;go_simp;refine hK.out _ _ ⟨fun _ _ _=>trivial,fun _ _=>hC4⟩ ?_;clear hK K
   (try simp only[Act.put,List.setIfInBounds_toArray,List.set_cons_zero,List.set_cons_succ])
   refine oneR (i:=4) (by kernel_rfl) rfl (fun K hK=>?_);go_simp;refine hK.out _ _ ⟨fun _ _ _=>trivial,fun _ _=>hC8⟩ ?_;clear hK K
   (try simp only[Act.put,List.setIfInBounds_toArray,List.set_cons_zero,List.set_cons_succ])
   refine oneR (i:=9) (by kernel_rfl) rfl (fun K hK=>?_);go_simp;go_at_call 97;refine(replaceAll_any A1 m1 c1 rb bB 0 s2.size kB s2.data.toList (some ⟨bA,0,none⟩) s3.size kA s3.data.toList wB hmxB.out (hb1H.out.kp (Kp.of_below hbF.out)).1 hsBH.out hsA2H.out (by omega) (by omega) (by omega) (by omega)).mono ?_;rintro e w5 ⟨A5,m5,c5,rfl,hok5,hfar5,hb5⟩;have hbG:=hbF.out.trans (hb5.mono hbF.out.size);have hne:s2.data.toList≠[]:=fun e=>by have e2:s2.data.toList.length=s2.size:=(Lib.size_eq s2).symm;rw[e]at e2;simp at e2;omega
   have hl3:s3.data.toList.length=s3.size:=(Lib.size_eq s3).symm;have hlen5:=replP_len rb s2.data.toList s3.data.toList hne (by omega) (by omega);have hsz1:=hk1H.out.size;have hltw:=hwH.out.lt;have hszF:=hbF.out.size;have hA5:=hA1H.out.below hbG;have hk5:=hk1H.out.trans (Kp.of_below (S:=WS n) hbG);have hbt5:Bts (WS n) w5 A5 m5 c5 (replP rb s2.data.toList s3.data.toList):=⟨hok5,fun h0 ad hA hs=>by have:=wS_le hs;have:=hfar5 h0 ad hA;omega⟩;have R:=hZ'H.out (.returned (.tuple #[.slice A5 m5 c5,.int .i64 0])) w5 ⟨((replP rb s2.data.toList s3.data.toList,0),s1),⟨A5,m5,c5,cl1,rfl,hbt5,(by show (replP rb s2.data.toList s3.data.toList).length≤_;omega),(by show (0:Int)≤0∧(0:Int)≤999999;omega),hA5,by omega,hk5⟩,hlsH.out,fun _=>hMH.out⟩;have hC5:w5.cell? ⟨b,off+2,none⟩=some (.string s2)∧w5.cell? ⟨b,off+3,none⟩=some (.string s3):=⟨keepC hbG cz2,keepC hbG cz3⟩;clear hbt5 hk5 hA5 hok5 hfar5 hbG hlen5 hne hszF;obtain⟨hb5H,RH⟩:=hq2 hb5 (Lib.hid R);clear hb5 R;refine hK.out _ _ ⟨fun _ _ _=>trivial,fun _ _=>hC5⟩ ?_;clear hK K
   (try simp only[Act.put,List.setIfInBounds_toArray,List.set_cons_zero,List.set_cons_succ])
   clear hC;have hC:=hC5;refine takeC (i:=10) (d:=some 4) (v:=?_) rfl rfl (by kernel_rfl) (by kernel_rfl) (by kernel_rfl) (by kernel_rfl) (fun _ _ _ h=>h) (Or.inl ⟨by rfl,?_⟩) hC ?_
   rotate_left
   ·(intro w hSw;(try dsimp only at hSw);go_simp;(try with_reducible rfl))
   (try simp only[Act.put,List.setIfInBounds_toArray,List.set_cons_zero,List.set_cons_succ])
   refine oneR (i:=11) (by kernel_rfl) rfl (fun K hK=>?_);go_simp;refine hK.out _ _ ⟨fun h=>absurd rfl h,fun h=>absurd rfl h⟩ ?_;clear hK K
   (try simp only[Act.put,List.setIfInBounds_toArray,List.set_cons_zero,List.set_cons_succ])
   refine doneR (by kernel_rfl) ?_ _;clear hC hC4 hC8 hC5 hrA hrB;go_wp2_with fail;exact RH.out
 ·rw[if_pos (by decide)]at hM;have R:=hZ'H.out (.returned (.tuple #[.slice none 0 0,.int .i64 2])) w1 ⟨(([],2),s1),⟨none,0,0,cl1,rfl,Bts.nil _ _,Nat.zero_le _,(by show (0:Int)≤2∧(2:Int)≤999999;omega),hA1,by omega,hk1⟩,hls,fun _=>hM⟩;obtain⟨hb1H,hA1H,hk1H,hMH,hlsH,RH⟩:=hq2 hb1 (hqb hA1 hk1 hM hls (Lib.hid R));clear hb1 hA1 hk1 hM hls R;go_wp2_with fail;exact RH.out
structure XOk (W0:World) (x:Action):Prop where
 ok:RAction.ok W0 x
 vars:VarsOk x.vars.l
 outs:x.outputs.n≤100
 mx:MaxLenAt W0
 pw:PowJ W0
theorem made_any (W0:World) (n T:Nat) (x:Action) (I:Inp) (hx:XOk W0 x) (A:Option Addr) (m cc:Nat) (c:List ByteArray) (hc:SlAt RStr W0 A m c) (hmc:m≤cc) (hok:CmdOk c)
  (hnt:wd c 0≠wTell) (hnn:wd c 0≠wNeed) (hns:wd c 0≠wSame) (hnf:wd c 0≠wFail) (s:ES) (cl:Nat) (hcl:cl≤800000) (L:List ByteArray) (hL:LsIn x I s L) (w:World) (hw:WA W0 n T x I s cl w) :
  Calls Tryz.prog 62 #[.pointer (some ⟨n+3,0,none⟩),.slice A m cc] w (MdAns W0 n T x I c s cl w):=by
 have hln:c.length=m:=hc.1;have hl:=hok.len;have hz:=hok.sz;have p2:∀ {k:Nat},k=3→(∀ p∈c.drop 1,pathB p=true)→c.length=k→pathB (wd c 2)=true:=fun {k} hk hp hlen=>by
  refine hp _ (List.mem_of_getElem? (i:=1) ?_);rw[List.getElem?_drop];exact wd_get (by omega)
 rcases hok.form with ⟨h0,h1,h2⟩ | ⟨h0,h1,h2⟩ | ⟨h0,h1,h2,h3,h4⟩ | ⟨h0,h1,h2,h3⟩ | ⟨h0,h1,h2⟩ | ⟨h0,h1,h2⟩ | ⟨h0,h1⟩ | ⟨h0,h1,h2⟩ | ⟨h0,h1,h2,h3⟩ | ⟨h0,h1,h2⟩
 ·exact made_join W0 n T x I A m cc c hc hmc (by omega) h0 h1 s cl hcl w hw
 ·have hp:=p2 rfl h2 h1;obtain rfl:m=3:=by omega
  rcases h0 with h0 | h0 | h0 | h0 | h0 | h0
  ·exact made_sort W0 n T x I A cc c hc hmc h0 hp s cl hcl w hw
  ·exact made_count W0 n T x I A cc c hx.pw hc hmc h0 hp s cl hcl w hw
  ·exact made_exp W0 n T x I hx.mx A 3 cc c hc hmc (by omega) h0 (by omega) hp s cl hcl w hw
  ·exact made_make W0 n T x I A cc c hc hmc h0 hp s cl hcl w hw
  ·exact made_digest W0 n T x I A cc c hc hmc h0 hp s cl hcl w hw
  ·exact made_list W0 n T x I A 3 cc c hc hmc (by omega) h0 (by omega) (fun s hs=>by have:=(hz s hs).2;omega) s cl hcl L hL w hw
 ·obtain rfl:m=4:=by omega
  exact made_first W0 n T x I A cc c hc hmc h0 h4 h3 s cl hcl w hw
 ·obtain rfl:m=5:=by omega
  exact made_change W0 n T x I A cc c hc hmc h0 h3 hx.mx hz s cl hcl w hw
 ·exact made_pick W0 n T x I A m cc c hc hmc (by omega) h0 (by omega) s cl hcl w hw
 ·exact made_var W0 n T x I hx.ok hx.vars A m cc c hc hmc (by omega) h0 (by omega) s cl hcl w hw
 ·exact absurd h0 hnt
 ·exact absurd h0 hnn
 ·exact absurd h0 hns
 ·exact absurd h0 hnf
def DoAns (W0:World) (n:Nat) (x:Action) (I:Inp) (c:List ByteArray) (s:ES) (cl:Nat) (w:World) (e:Ending) (w':World):Prop :=
 ∃ r T' cl',e = .returned (.int .i64 r.1)∧WA W0 n T' x I r.2 cl' w'∧(0≤r.1∧r.1≤999999)∧s.total-100000≤r.2.total∧r.2.total≤2000000∧r.2.nw≤s.nw+1∧cl'≤cl+10100∧Kp (WS n) w w' ∧
  (∀ p,(r.2.wr p).isSome=true→(s.wr p).isSome=true∨p∈x.outputs.l)∧(wd c 0≠wList→doM (epOf x) c I s=r)
theorem DoAns.of {W0:World} {n T:Nat} {x:Action} {I:Inp} {c:List ByteArray} {s:ES} {cl D:Nat} {w:World} {r:Int × ES} (hr:doM (epOf x) c I s=r) (hwr:r.2.wr=s.wr) (hD:D≤10100) {e:Ending} {w':World} (h:CdAns W0 n T x I s r D cl w e w'):DoAns W0 n x I c s cl w e w':=by
 obtain⟨T',cl',h1,h2,h3,h4,h5,h6,h7,h8⟩:=h;exact⟨r,T',cl',h1,h2,h3,h4,h5,h6,by omega,h8,fun p hp=>.inl (by rw[← hwr];exact hp),fun _=>hr⟩
theorem do_tell (W0:World) (n T:Nat) (x:Action) (I:Inp) (A:Option Addr) (m cc:Nat) (c:List ByteArray) (hc:SlAt RStr W0 A m c) (hmc:m≤cc) (hok:CmdOk c) (h0:wd c 0=wTell) (h2:2≤c.length) (s:ES) (cl:Nat) (w:World) (hw:WA W0 n T x I s cl w) (htot:s.total≤2000000) :
  Calls Tryz.prog 33 #[.pointer (some ⟨n+3,0,none⟩),.slice A m cc] w (DoAns W0 n x I c s cl w):=by
 have hm50:=hok.len;have hcz:=hok.sz;obtain⟨Z,hZ⟩:∃ Z,DoAns W0 n x I c s cl w=Z:=⟨_,rfl⟩;have hZ':∀ e W,DoAns W0 n x I c s cl w e W→Z e W:=fun e W h=>by rw[← hZ];exact h
 rw[hZ];clear hZ;have hln:c.length=m:=hc.1;have hcw:SlAt RStr w A m c:=hc.below hw.bel;obtain⟨b,off,hA1,_⟩:=hc.2.1 (by omega);subst hA1;have hx0:=wd_get (show 0<c.length by omega);rw[h0]at hx0;have cy0:=cell_Str hcw hx0;rw[Nat.add_zero]at cy0;unfold wTell at cy0;have hpart:SlAt RStr W0 (some ⟨b,off+1,none⟩) (m-1) (c.drop 1):=by
  have:=slAt_part hc 1 (m-1) (by omega) rfl
  rwa [List.take_of_length_le (by rw[List.length_drop];omega)]at this
 have hcn:¬ cc=1:=by omega
 have hc2:1≤cc:=by omega
 have hm2:1≤m:=by omega
 have hr:doM (epOf x) c I s=tellM (epOf x) (c.drop 1) I s:=by unfold doM;rw[if_pos h0]
 obtain⟨r,hr2⟩:∃ r,tellM (epOf x) (c.drop 1) I s=r:=⟨_,rfl⟩;have hwr:r.2.wr=s.wr:=by rw[← hr2];unfold tellM;split <;> rfl
 have hcall:=tell_any W0 n T x I (some ⟨b,off+1,none⟩) (m-1) (cc-1) (c.drop 1) hpart (by omega) (by omega) (fun y hy=>(hcz y (List.mem_of_mem_drop hy)).2) s cl w hw htot r hr2;rw[hr2]at hr;obtain⟨hZ'H,hcH,hwH,hcwH,hpartH,hcallH,hrH,hwrH,hx0H⟩:=hqc hZ' hc hw hcw hpart hcall hr hwr (Lib.hid hx0);clear hZ' hc hw hcw hpart hcall hr hwr hx0;go_enter Tryz.func33,Tryz.ntmps33;go_wp2_with fail;refine hcallH.out.mono ?_;rintro e w1 ⟨T1,cl1,rfl,hrest⟩;have R:=hZ'H.out _ _ (DoAns.of (T:=T) hrH.out hwrH.out (by decide) ⟨T1,cl1,rfl,hrest⟩);clear hrest;have RH:=Lib.hid R;clear R;go_wp2_with fail;exact RH.out
theorem do_need (W0:World) (n T:Nat) (x:Action) (I:Inp) (A:Option Addr) (cc:Nat) (c:List ByteArray) (hc:SlAt RStr W0 A 2 c) (hmc:2≤cc) (h0:wd c 0=wNeed) (hp:pathB (wd c 1)=true) (s:ES) (cl:Nat) (hcl:cl≤800000) (w:World) (hw:WA W0 n T x I s cl w) (htot:s.total≤2000000) :
  Calls Tryz.prog 33 #[.pointer (some ⟨n+3,0,none⟩),.slice A 2 cc] w (DoAns W0 n x I c s cl w):=by
 obtain⟨Z,hZ⟩:∃ Z,DoAns W0 n x I c s cl w=Z:=⟨_,rfl⟩;have hZ':∀ e W,DoAns W0 n x I c s cl w e W→Z e W:=fun e W h=>by rw[← hZ];exact h
 rw[hZ];clear hZ;have hln:c.length=2:=hc.1;have hcw:SlAt RStr w A 2 c:=hc.below hw.bel;obtain⟨b,off,hA1,_⟩:=hc.2.1 (by omega);subst hA1;have hx0:=wd_get (show 0<c.length by omega);rw[h0]at hx0;have cy0:=cell_Str hcw hx0;rw[Nat.add_zero]at cy0;unfold wNeed at cy0;have hx1:=wd_get (show 1<c.length by omega);have cy1:=cell_Str hcw hx1;have hps:=pathB_le hp;have hrd:=read_any (epOf x) rfl W0 n T x I (wd c 1) (by unfold maxLen;omega) s cl (by omega) w hw;have hkp:=keeps_read (E:=epOf x) (wd c 1) I s;have hr:doM (epOf x) c I s=((readM (epOf x) (wd c 1) I s).1.2,(readM (epOf x) (wd c 1) I s).2):=by
  unfold doM;rw[if_neg (by rw[h0];decide),if_pos h0];rfl
 obtain⟨hZ'H,hcH,hwH,hcwH,hrH,hkpH,hrdH,hx0H,hx1H⟩:=hqc hZ' hc hw hcw hr hkp hrd hx0 (Lib.hid hx1);clear hZ' hc hw hcw hr hkp hrd hx0 hx1;go_enter Tryz.func33,Tryz.ntmps33;go_wp2_with fail;refine hrdH.out.mono ?_;rintro e w1 ⟨A1,m1,c1,cl1,rfl,hb1,hl1,hcode,hA1,hcl1,hk1⟩;have hkp:=hkpH.out;have R:=hZ'H.out (.returned (.int .i64 (readM (epOf x) (wd c 1) I s).1.2)) w1 (DoAns.of (T:=T) (D:=1) hrH.out hkp.1 (by decide) ⟨T,cl1,rfl,hA1,(by show 0≤(readM (epOf x) (wd c 1) I s).1.2∧(readM (epOf x) (wd c 1) I s).1.2≤999999;omega),(by show s.total-100000≤(readM (epOf x) (wd c 1) I s).2.total;rw[hkp.2.2.2];omega),(by show (readM (epOf x) (wd c 1) I s).2.total≤2000000;rw[hkp.2.2.2];exact htot),(by show (readM (epOf x) (wd c 1) I s).2.nw≤s.nw+1;rw[hkp.2.1];omega),hcl1,hk1⟩);clear hb1 hl1 hcode;obtain⟨hA1H,hk1H,hkpH,RH⟩:=hq2 hA1 (hq2 hk1 (hq2 hkp (Lib.hid R)));clear hA1 hk1 hkp R;go_wp2_with fail;exact RH.out
theorem do_fail (W0:World) (n T:Nat) (x:Action) (I:Inp) (A:Option Addr) (cc:Nat) (c:List ByteArray) (hc:SlAt RStr W0 A 2 c) (hmc:2≤cc) (h0:wd c 0=wFail) (hp:NumW (wd c 1)) (s:ES) (cl:Nat) (w:World) (hw:WA W0 n T x I s cl w) (htot:s.total≤2000000) :
  Calls Tryz.prog 33 #[.pointer (some ⟨n+3,0,none⟩),.slice A 2 cc] w (DoAns W0 n x I c s cl w):=by
 obtain⟨Z,hZ⟩:∃ Z,DoAns W0 n x I c s cl w=Z:=⟨_,rfl⟩;have hZ':∀ e W,DoAns W0 n x I c s cl w e W→Z e W:=fun e W h=>by rw[← hZ];exact h
 rw[hZ];clear hZ;have hln:c.length=2:=hc.1;have hcw:SlAt RStr w A 2 c:=hc.below hw.bel;obtain⟨b,off,hA1,_⟩:=hc.2.1 (by omega);subst hA1;have hx0:=wd_get (show 0<c.length by omega);rw[h0]at hx0;have cy0:=cell_Str hcw hx0;rw[Nat.add_zero]at cy0;unfold wFail at cy0;have hx1:=wd_get (show 1<c.length by omega);have cy1:=cell_Str hcw hx1;have hat:=atoX_any (wd c 1) hp w;obtain⟨_,hn0,hn6⟩:=numW_atoi hp;have hr:doM (epOf x) c I s=(numP (wd c 1),s):=by
  unfold doM;rw[if_neg (by rw[h0];decide),if_neg (by rw[h0];decide),if_neg (by rw[h0];decide),if_pos h0];rfl
 obtain⟨hZ'H,hcH,hwH,hcwH,hrH,hatH,hx0H,hx1H⟩:=hq2 hZ' (hq2 hc (hq2 hw (hqb hcw hr hat hx0 (Lib.hid hx1))));clear hZ' hc hw hcw hr hat hx0 hx1;go_enter Tryz.func33,Tryz.ntmps33;go_wp2_with fail;refine hatH.out.mono ?_;rintro e w1 ⟨rfl,hb1⟩;have R:=hZ'H.out (.returned (.int .i64 (numP (wd c 1)))) w1 (DoAns.of (T:=T) (D:=0) hrH.out rfl (by decide) ⟨T,cl,rfl,hwH.out.below hb1,⟨hn0,hn6⟩,(by show s.total-100000≤s.total;omega),htot,(by show s.nw≤s.nw+1;omega),Nat.le_refl _,Kp.of_below hb1⟩);obtain⟨hb1H,RH⟩:=hq2 hb1 (Lib.hid R);clear hb1 R;go_wp2_with fail;exact RH.out
theorem do_same (W0:World) (n T:Nat) (x:Action) (I:Inp) (A:Option Addr) (cc:Nat) (c:List ByteArray) (hc:SlAt RStr W0 A 3 c) (hmc:3≤cc) (h0:wd c 0=wSame) (hp:pathB (wd c 1)=true) (hq:pathB (wd c 2)=true) (s:ES) (cl:Nat) (hcl:cl≤800000) (w:World) (hw:WA W0 n T x I s cl w) (htot:s.total≤2000000) :
  Calls Tryz.prog 33 #[.pointer (some ⟨n+3,0,none⟩),.slice A 3 cc] w (DoAns W0 n x I c s cl w):=by
 obtain⟨Z,hZ⟩:∃ Z,DoAns W0 n x I c s cl w=Z:=⟨_,rfl⟩;have hZ':∀ e W,DoAns W0 n x I c s cl w e W→Z e W:=fun e W h=>by rw[← hZ];exact h
 rw[hZ];clear hZ;have hln:c.length=3:=hc.1;have hcw:SlAt RStr w A 3 c:=hc.below hw.bel;obtain⟨b,off,hA1,_⟩:=hc.2.1 (by omega);subst hA1;have hx0:=wd_get (show 0<c.length by omega);rw[h0]at hx0;have cy0:=cell_Str hcw hx0;rw[Nat.add_zero]at cy0;unfold wSame at cy0;have hx1:=wd_get (show 1<c.length by omega);have hx2:=wd_get (show 2<c.length by omega);have cy1:=cell_Str hcw hx1;have cy2:=cell_Str hcw hx2;have hps:=pathB_le hp;have hqs:=pathB_le hq;obtain⟨r,hr2⟩:∃ r,sameM (epOf x) (wd c 1) (wd c 2) I s=r:=⟨_,rfl⟩;have hbd:Below w.heap.size w w.drew:=(Below.refl _ _).drew;have hcall:=same_any W0 n T x I (wd c 1) (wd c 2) (by unfold maxLen;omega) (by unfold maxLen;omega) s cl (by omega) w.drew (hw.below hbd) htot r hr2;have hr:doM (epOf x) c I s=r:=by
  rw[← hr2];unfold doM;rw[if_neg (by rw[h0];decide),if_neg (by rw[h0];decide),if_pos h0]
 have hwr:r.2.wr=s.wr:=by
  rw[← hr2,same_eq];have k1:=(keeps_read (E:=epOf x) (wd c 1) I s).1;have k2:=(keeps_read (E:=epOf x) (wd c 2) I (readM (epOf x) (wd c 1) I s).2).1
  split
  ·exact k1
  ·split
   ·exact k2.trans k1
   ·exact k2.trans k1
 obtain⟨hZ'H,hcH,hwH,hcwH,hrH,hcallH,hx0H,hx1H,hx2H,hwrH,hbdH⟩:=hq2 hZ' (hq2 hc (hqc hw hcw hr hcall hx0 hx1 hx2 hwr (Lib.hid hbd)));clear hZ' hc hw hcw hr hcall hx0 hx1 hx2 hwr hbd;go_enter Tryz.func33,Tryz.ntmps33;go_wp2_with fail;refine startR (R:=Rk (fun _=>True) (fun w'=>w'.cell? ⟨b,off+1,none⟩=some (.string (wd c 1))∧w'.cell? ⟨b,off+2,none⟩=some (.string (wd c 2))) 8 8) (by kernel_rfl) ?_;have hC:w.drew.cell? ⟨b,off+1,none⟩=some (.string (wd c 1))∧w.drew.cell? ⟨b,off+2,none⟩=some (.string (wd c 2)):=⟨cy1,cy2⟩;refine takeC (i:=0) (d:=some 33) (v:=?_) rfl rfl (by kernel_rfl) (by kernel_rfl) (by kernel_rfl) (by kernel_rfl) (fun _ _ _ h=>h) (Or.inl ⟨by rfl,?_⟩) hC ?_
 rotate_left
 ·(intro w hSw;(try dsimp only at hSw);go_simp;(try with_reducible rfl))
 (try simp only[Act.put,List.setIfInBounds_toArray,List.set_cons_zero,List.set_cons_succ])
 refine takeC (i:=1) (d:=some 34) (v:=?_) rfl rfl (by kernel_rfl) (by kernel_rfl) (by kernel_rfl) (by kernel_rfl) (fun _ _ _ h=>h) (Or.inl ⟨by rfl,?_⟩) hC ?_
 rotate_left
 ·(intro w hSw;(try dsimp only at hSw);go_simp;(try with_reducible rfl))
 (try simp only[Act.put,List.setIfInBounds_toArray,List.set_cons_zero,List.set_cons_succ])
 refine takeC (i:=2) (d:=some 35) (v:=?_) rfl rfl (by kernel_rfl) (by kernel_rfl) (by kernel_rfl) (by kernel_rfl) (fun _ _ _ h=>h) (Or.inl ⟨by rfl,?_⟩) hC ?_
 rotate_left
 ·(intro w hSw;(try dsimp only at hSw);go_simp;(try with_reducible rfl))
 (try simp only[Act.put,List.setIfInBounds_toArray,List.set_cons_zero,List.set_cons_succ])
 refine takeC (i:=3) (d:=some 36) (v:=?_) rfl rfl (by kernel_rfl) (by kernel_rfl) (by kernel_rfl) (by kernel_rfl) (fun _ _ _ h=>h) (Or.inl ⟨by rfl,?_⟩) hC ?_
 rotate_left
 ·(intro w hSw;(try dsimp only at hSw);go_simp;(try with_reducible rfl))
 (try simp only[Act.put,List.setIfInBounds_toArray,List.set_cons_zero,List.set_cons_succ])
 refine takeC (i:=4) (d:=some 37) (v:=?_) rfl rfl (by kernel_rfl) (by kernel_rfl) (by kernel_rfl) (by kernel_rfl) (fun _ _ _ h=>h) (Or.inl ⟨by rfl,?_⟩) hC ?_
 rotate_left
 ·(intro w hSw;(try dsimp only at hSw);go_simp;(try with_reducible rfl))
 (try simp only[Act.put,List.setIfInBounds_toArray,List.set_cons_zero,List.set_cons_succ])
 refine takeC (i:=5) (d:=some 38) (v:=?_) rfl rfl (by kernel_rfl) (by kernel_rfl) (by kernel_rfl) (by kernel_rfl) (fun _ _ _ h=>h) (Or.inl ⟨by rfl,?_⟩) hC ?_
 rotate_left
 ·(intro w hSw;(try dsimp only at hSw);go_simp;(try with_reducible rfl))
 (try simp only[Act.put,List.setIfInBounds_toArray,List.set_cons_zero,List.set_cons_succ])
 refine takeC (i:=6) (d:=some 39) (v:=?_) rfl rfl (by kernel_rfl) (by kernel_rfl) (by kernel_rfl) (by kernel_rfl) (fun _ _ _ h=>h) (Or.inl ⟨by rfl,?_⟩) hC ?_
 rotate_left
 ·(intro w hSw;(try dsimp only at hSw);go_simp;(try with_reducible rfl))
 (try simp only[Act.put,List.setIfInBounds_toArray,List.set_cons_zero,List.set_cons_succ])
 refine oneR (i:=7) (by kernel_rfl) rfl (fun K hK=>?_);go_simp;go_at_call 60;refine hcallH.out.mono ?_;rintro e w1 ⟨T1,cl1,rfl,hA1,hco,ht1,ht2,hnw,hcl1,hk1⟩;have hk2:Kp (WS n) w w1:=(Kp.of_below (S:=WS n) hbdH.out).trans hk1;have R:=hZ'H.out (.returned (.int .i64 r.1)) w1 (DoAns.of (T:=T) (D:=2) hrH.out hwrH.out (by decide) ⟨T1,cl1,rfl,hA1,hco,ht1,ht2,hnw,hcl1,hk2⟩);have hcw1:=hcH.out.below hA1.bel;have hC1:w1.cell? ⟨b,off+1,none⟩=some (.string (wd c 1))∧w1.cell? ⟨b,off+2,none⟩=some (.string (wd c 2)):=⟨cell_Str hcw1 hx1H.out,cell_Str hcw1 hx2H.out⟩;clear hcw1 ht1 ht2 hnw hk1 hk2 hA1;have RH:=Lib.hid R;clear R;refine hK.out _ _ ⟨fun _ _ _=>trivial,fun _ _=>hC1⟩ ?_;clear hK K
 (try simp only[Act.put,List.setIfInBounds_toArray,List.set_cons_zero,List.set_cons_succ])
 refine oneR (i:=8) (by kernel_rfl) rfl (fun K hK=>?_);go_simp;refine hK.out _ _ ⟨fun h=>absurd rfl h,fun h=>absurd rfl h⟩ ?_;clear hK K
 (try simp only[Act.put,List.setIfInBounds_toArray,List.set_cons_zero,List.set_cons_succ])
 refine doneR (by kernel_rfl) ?_ _;clear hC hC1;go_wp2_with fail;exact RH.out
end Go.Proofs.YtdiaabeollcjaaaGreatDoor.C10