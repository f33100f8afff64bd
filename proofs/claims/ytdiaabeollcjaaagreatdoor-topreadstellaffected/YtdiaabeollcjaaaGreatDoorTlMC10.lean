/-
 Several texts of mine as one, without what is not wanted here: XExC, XExB, XChT.
-/
import Derived.Test.YtdiaabeollcjaaaGreatDoorTlLC10
import Derived.Test.YtdiaabeollcjaaaGreatDoorTlKC10
set_option linter.unusedVariables false
set_option linter.unusedSimpArgs false
set_option maxRecDepth 100000
set_option maxHeartbeats 8000000
namespace Go.Proofs.YtdiaabeollcjaaaGreatDoor.C10
open Go.ChangeShapes Go.WideShapes Go.Deep Go.RowKit Go.Maps
theorem write_wr {E:EP} {p:ByteArray} {b:List UInt8} {run:Bool} {I:Inp} {s:ES}:∀ q,((writeM E p b run I s).2.wr q).isSome=true→(s.wr q).isSome=true∨q∈E.outs:=fun q hq=>by
 unfold writeM at hq
 split at hq
 ·rename_i hb
  split at hq
  ·exact .inl hq
  ·by_cases e:q=p
   ·right;rw[e];unfold hasB at hb;rw[List.any_eq_true]at hb;obtain⟨y,hy,hd⟩:=hb;rw[← of_decide_eq_true hd];exact hy
   ·left;have:(updE s.wr p ⟨run,b⟩ q).isSome=true:=hq;unfold updE at this
    rwa [if_neg e]at this
 ·exact .inl hq
theorem do_made (W0:World) (n T:Nat) (x:Action) (I:Inp) (hx:XOk W0 x) (A:Option Addr) (m cc:Nat) (c:List ByteArray) (hc:SlAt RStr W0 A m c) (hmc:m≤cc) (hok:CmdOk c) (h3:3≤c.length)
  (hnt:wd c 0≠wTell) (hnn:wd c 0≠wNeed) (hns:wd c 0≠wSame) (hnf:wd c 0≠wFail) (s:ES) (cl:Nat) (hcl:cl≤800000) (L:List ByteArray) (hL:LsIn x I s L) (w:World) (hw:WA W0 n T x I s cl w)
  (hnw:s.nw≤1000) (htot:-1000000000≤s.total∧s.total≤2000000) :
  Calls Tryz.prog 33 #[.pointer (some ⟨n+3,0,none⟩),.slice A m cc] w (DoAns W0 n x I c s cl w):=by
 have hcall:=made_any W0 n T x I hx A m cc c hc hmc hok hnt hnn hns hnf s cl hcl L hL w hw;have hD:doM (epOf x) c I s=((madeM (epOf x) c).bind fun b=>if b.2≠0 then .pure b.2 else writeM (epOf x) (wd c 1) b.1 (decide (wd c 0=wMake))) I s:=by
  unfold doM;rw[if_neg hnt,if_neg hnn,if_neg hns,if_neg hnf]
 have g1:=(Lib.bytes_beq_false_iff (wd c 0) wTell).2 hnt;have g2:=(Lib.bytes_beq_false_iff (wd c 0) wNeed).2 hnn;have g3:=(Lib.bytes_beq_false_iff (wd c 0) wSame).2 hns;have g4:=(Lib.bytes_beq_false_iff (wd c 0) wFail).2 hnf;obtain⟨mk,hmk,hmk2⟩:∃ b,((wd c 0).toList==wMake.toList)=b∧decide (wd c 0=wMake)=b:=⟨_,rfl,by
  by_cases h:wd c 0=wMake
  ·rw[decide_eq_true h,(Lib.bytes_beq_iff _ _).2 h]
  ·rw[decide_eq_false h,(Lib.bytes_beq_false_iff _ _).2 h]⟩
 rw[hmk2]at hD;rw[show wTell.toList = [116,101,108,108] by rw[ByteArray.toList_eq];rfl]at g1;rw[show wNeed.toList = [110,101,101,100] by rw[ByteArray.toList_eq];rfl]at g2;rw[show wSame.toList = [115,97,109,101] by rw[ByteArray.toList_eq];rfl]at g3;rw[show wFail.toList = [102,97,105,108] by rw[ByteArray.toList_eq];rfl]at g4;rw[show wMake.toList = [109,97,107,101] by rw[ByteArray.toList_eq];rfl]at hmk;clear hmk2;obtain⟨Z,hZ⟩:∃ Z,DoAns W0 n x I c s cl w=Z:=⟨_,rfl⟩;have hZ':∀ e W,DoAns W0 n x I c s cl w e W→Z e W:=fun e W h=>by rw[← hZ];exact h
 rw[hZ];clear hZ;have hln:c.length=m:=hc.1;have hcw:SlAt RStr w A m c:=hc.below hw.bel;obtain⟨b,off,hA1,_⟩:=hc.2.1 (by omega);subst hA1;have hx0:=wd_get (show 0<c.length by omega);have hx1:=wd_get (show 1<c.length by omega);have cy0:=cell_Str hcw hx0;rw[Nat.add_zero]at cy0;have hps:(wd c 1).size≤300:=(hok.sz _ (List.mem_of_getElem? hx1)).2;obtain⟨hZ'H,hcH,hwH,hcwH,hcallH,hDH,hx0H,hx1H,hxH,hLH,hokH⟩:=hq2 hZ' (hq2 hc (hqc hw hcw hcall hD hx0 hx1 hx hL (Lib.hid hok)));clear hZ' hc hw hcw hcall hD hx0 hx1 hx hL hok;go_enter Tryz.func33,Tryz.ntmps33;go_wp2_with fail;refine hcallH.out.mono ?_;rintro e w1 ⟨⟨⟨rb,rk⟩,s1⟩,⟨A1,m1,c1,cl1,rfl,hb1,hl1,hcode,hA1,hcl1,hk1⟩,hls,hM⟩;simp only at hb1 hl1 hcode hA1 hls ⊢;have hD2:wd c 0≠wList→doM (epOf x) c I s=if rk≠0 then (rk,s1) else writeM (epOf x) (wd c 1) rb mk I s1:=fun h=>by
  rw[hDH.out,bind_em,hM h,ite_em];rfl
 by_cases hrk:rk=0
 ·subst hrk;simp only[ne_eq,not_true_eq_false,if_false]at hD2;have hcw1:=hcH.out.below hA1.bel;have cz0:=cell_Str hcw1 hx0H.out;have cz1:=cell_Str hcw1 hx1H.out;rw[Nat.add_zero]at cz0;obtain⟨r,hr⟩:∃ r,writeM (epOf x) (wd c 1) rb mk I s1=r:=⟨_,rfl⟩;rw[hr]at hD2;have hwr:=write_wr (E:=epOf x) (p:=wd c 1) (b:=rb) (run:=mk) (I:=I) (s:=s1);rw[hr,hls.1]at hwr;have hbd:Below w1.heap.size w1 w1.drew:=(Below.refl _ _).drew;have hlm:rb.length=m1:=hb1.1.1.1;obtain⟨_,l2,_,l4⟩:=hls;have hcw2:=write_any W0 n T x I (wd c 1) (by unfold maxLen;omega) hxH.out.ok hxH.out.outs s1 cl1 A1 m1 c1 rb mk w1.drew (hA1.below hbd) (hb1.kp (Kp.of_below hbd)) (by omega) (by rw[l2];omega) (by rw[l4];exact htot) r hr;obtain⟨hb1H,hA1H,hk1H,hMH,hcw1H,hrH,hwrH,hbdH,hcw2H,hD2H⟩:=hq2 hb1 (hqc hA1 hk1 hM hcw1 hr hwr hbd hcw2 (Lib.hid hD2));clear hb1 hA1 hk1 hM hcw1 hr hwr hbd hcw2 hD2;go_wp2_with fail;have i0:0<m:=by omega
  have i1:(1:Int)<(m:Int):=by omega
  refine startR (R:=Rk (fun _=>True) (fun w'=>w'.cell? ⟨b,off,none⟩=some (.string (wd c 0))∧w'.cell? ⟨b,off+1,none⟩=some (.string (wd c 1))) 10 10) (by kernel_rfl) ?_;have hC:w1.drew.cell? ⟨b,off,none⟩=some (.string (wd c 0))∧w1.drew.cell? ⟨b,off+1,none⟩=some (.string (wd c 1)):=⟨cz0,cz1⟩;refine takeC (i:=0) (d:=some 60) (v:=?_) rfl rfl (by kernel_rfl) (by kernel_rfl) (by kernel_rfl) (by kernel_rfl) (fun _ _ _ h=>h) (Or.inl ⟨by rfl,?_⟩) hC ?_
  rotate_left
  ·(intro w hSw;(try dsimp only at hSw);go_simp;(try with_reducible rfl))
  (try simp only[Act.put,List.setIfInBounds_toArray,List.set_cons_zero,List.set_cons_succ])
  refine takeC (i:=1) (d:=some 61) (v:=?_) rfl rfl (by kernel_rfl) (by kernel_rfl) (by kernel_rfl) (by kernel_rfl) (fun _ _ _ h=>h) (Or.inl ⟨by rfl,?_⟩) hC ?_
  rotate_left
  ·(intro w hSw;(try dsimp only at hSw);go_simp;(try with_reducible rfl))
  (try simp only[Act.put,List.setIfInBounds_toArray,List.set_cons_zero,List.set_cons_succ])
  refine takeC (i:=2) (d:=some 62) (v:=?_) rfl rfl (by kernel_rfl) (by kernel_rfl) (by kernel_rfl) (by kernel_rfl) (fun _ _ _ h=>h) (Or.inl ⟨by rfl,?_⟩) hC ?_
  rotate_left
  ·(intro w hSw;(try dsimp only at hSw);go_simp;(try with_reducible rfl))
  (try simp only[Act.put,List.setIfInBounds_toArray,List.set_cons_zero,List.set_cons_succ])
  refine takeC (i:=3) (d:=some 63) (v:=?_) rfl rfl (by kernel_rfl) (by kernel_rfl) (by kernel_rfl) (by kernel_rfl) (fun _ _ _ h=>h) (Or.inl ⟨by rfl,?_⟩) hC ?_
  rotate_left
  ·(intro w hSw;(try dsimp only at hSw);go_simp;(try with_reducible rfl))
  (try simp only[Act.put,List.setIfInBounds_toArray,List.set_cons_zero,List.set_cons_succ])
  refine takeC (i:=4) (d:=some 64) (v:=?_) rfl rfl (by kernel_rfl) (by kernel_rfl) (by kernel_rfl) (by kernel_rfl) (fun _ _ _ h=>h) (Or.inl ⟨by rfl,?_⟩) hC ?_
  rotate_left
  ·(intro w hSw;(try dsimp only at hSw);go_simp;(try with_reducible rfl))
  (try simp only[Act.put,List.setIfInBounds_toArray,List.set_cons_zero,List.set_cons_succ])
  refine takeC (i:=5) (d:=some 65) (v:=?_) rfl rfl (by kernel_rfl) (by kernel_rfl) (by kernel_rfl) (by kernel_rfl) (fun _ _ _ h=>h) (Or.inl ⟨by rfl,?_⟩) hC ?_
  rotate_left
  ·(intro w hSw;(try dsimp only at hSw);go_simp;(try with_reducible rfl))
  (try simp only[Act.put,List.setIfInBounds_toArray,List.set_cons_zero,List.set_cons_succ])
  refine takeC (i:=6) (d:=some 66) (v:=?_) rfl rfl (by kernel_rfl) (by kernel_rfl) (by kernel_rfl) (by kernel_rfl) (fun _ _ _ h=>h) (Or.inl ⟨by rfl,?_⟩) hC ?_
  rotate_left
  ·(intro w hSw;(try dsimp only at hSw);go_simp;(try with_reducible rfl))
  (try simp only[Act.put,List.setIfInBounds_toArray,List.set_cons_zero,List.set_cons_succ])
  refine takeC (i:=7) (d:=some 67) (v:=?_) rfl rfl (by kernel_rfl) (by kernel_rfl) (by kernel_rfl) (by kernel_rfl) (fun _ _ _ h=>h) (Or.inl ⟨by rfl,?_⟩) hC ?_
  rotate_left
  ·(intro w hSw;(try dsimp only at hSw);go_simp;(try with_reducible rfl))
  (try simp only[Act.put,List.setIfInBounds_toArray,List.set_cons_zero,List.set_cons_succ])
  refine takeC (i:=8) (d:=some 68) (v:=?_) rfl rfl (by kernel_rfl) (by kernel_rfl) (by kernel_rfl) (by kernel_rfl) (fun _ _ _ h=>h) (Or.inl ⟨by rfl,?_⟩) hC ?_
  rotate_left
  ·(intro w hSw;(try dsimp only at hSw);go_simp;(try with_reducible rfl))
  (try simp only[Act.put,List.setIfInBounds_toArray,List.set_cons_zero,List.set_cons_succ])
  refine oneR (i:=9) (by kernel_rfl) rfl (fun K hK=>?_);go_simp;go_at_call 63;refine hcw2H.out.mono ?_;rintro e w2 ⟨T2,rfl,hA2,hco,ht1,ht2,hnw2,hk2⟩;have hk3:Kp (WS n) w w2:=(hk1H.out.trans (Kp.of_below (S:=WS n) hbdH.out)).trans hk2;rw[l4]at ht1;rw[l2]at hnw2;have R:=hZ'H.out (.returned (.int .i64 r.1)) w2 ⟨r,T2,cl1,rfl,hA2,hco,ht1,ht2,hnw2,hcl1,hk3,hwrH.out,hD2H.out⟩;have hcw3:=hcH.out.below hA2.bel;have hC1:w2.cell? ⟨b,off,none⟩=some (.string (wd c 0))∧w2.cell? ⟨b,off+1,none⟩=some (.string (wd c 1)):=⟨by have:=cell_Str hcw3 hx0H.out;rwa [Nat.add_zero]at this,cell_Str hcw3 hx1H.out⟩;clear hcw3 ht1 ht2 hnw2 hk2 hk3 hA2;have RH:=Lib.hid R;clear R;refine hK.out _ _ ⟨fun _ _ _=>trivial,fun _ _=>hC1⟩ ?_;clear hK K
  (try simp only[Act.put,List.setIfInBounds_toArray,List.set_cons_zero,List.set_cons_succ])
  refine oneR (i:=10) (by kernel_rfl) rfl (fun K hK=>?_);go_simp;refine hK.out _ _ ⟨fun h=>absurd rfl h,fun h=>absurd rfl h⟩ ?_;clear hK K
  (try simp only[Act.put,List.setIfInBounds_toArray,List.set_cons_zero,List.set_cons_succ])
  refine doneR (by kernel_rfl) ?_ _;clear hC hC1;go_wp2_with fail;exact RH.out
 ·have hne:(rk==0)=false:=by simpa using hrk
  have hD3:wd c 0≠wList→doM (epOf x) c I s=(rk,s1):=fun h=>by rw[hD2 h,if_pos hrk]
  have R:=hZ'H.out (.returned (.int .i64 rk)) w1 ⟨(rk,s1),T,cl1,rfl,hA1,hcode,(by show s.total-100000≤s1.total;rw[hls.2.2.2];omega),(by show s1.total≤2000000;rw[hls.2.2.2];exact htot.2),(by show s1.nw≤s.nw+1;rw[hls.2.1];omega),hcl1,hk1,(fun p hp=>.inl (by rw[← hls.1];exact hp)),hD3⟩;clear hD2 hD3 hM;obtain⟨hb1H,hA1H,hk1H,hlsH,RH⟩:=hqb hb1 hA1 hk1 hls (Lib.hid R);clear hb1 hA1 hk1 hls R;go_wp2_with fail;exact RH.out
theorem do_any (W0:World) (n T:Nat) (x:Action) (I:Inp) (hx:XOk W0 x) (A:Option Addr) (m cc:Nat) (c:List ByteArray) (hc:SlAt RStr W0 A m c) (hmc:m≤cc) (hok:CmdOk c) (s:ES) (cl:Nat) (hcl:cl≤800000) (L:List ByteArray) (hL:LsIn x I s L) (w:World) (hw:WA W0 n T x I s cl w)
  (hnw:s.nw≤1000) (htot:-1000000000≤s.total∧s.total≤2000000) :
  Calls Tryz.prog 33 #[.pointer (some ⟨n+3,0,none⟩),.slice A m cc] w (DoAns W0 n x I c s cl w):=by
 have hln:c.length=m:=hc.1
 by_cases h1:wd c 0=wTell
 ·rcases hok.form with ⟨h0,_⟩ | ⟨h0,_⟩ | ⟨h0,_⟩ | ⟨h0,_⟩ | ⟨h0,_⟩ | ⟨h0,_⟩ | ⟨h0,h2⟩ | ⟨h0,_⟩ | ⟨h0,_⟩ | ⟨h0,_⟩
  case inr.inr.inr.inr.inr.inr.inl=>exact do_tell W0 n T x I A m cc c hc hmc hok h1 h2 s cl w hw htot.2
  all_goals (exfalso;rw[h1]at h0;revert h0;decide)
 ·by_cases h2:wd c 0=wNeed
  ·rcases hok.form with ⟨h0,_⟩ | ⟨h0,_⟩ | ⟨h0,_⟩ | ⟨h0,_⟩ | ⟨h0,_⟩ | ⟨h0,_⟩ | ⟨h0,_⟩ | ⟨h0,h3,h4⟩ | ⟨h0,_⟩ | ⟨h0,_⟩
   case inr.inr.inr.inr.inr.inr.inr.inl =>
    obtain rfl:m=2:=by omega
    exact do_need W0 n T x I A cc c hc hmc h2 h4 s cl hcl w hw htot.2
   all_goals (exfalso;rw[h2]at h0;revert h0;decide)
  ·by_cases h3:wd c 0=wSame
   ·rcases hok.form with ⟨h0,_⟩ | ⟨h0,_⟩ | ⟨h0,_⟩ | ⟨h0,_⟩ | ⟨h0,_⟩ | ⟨h0,_⟩ | ⟨h0,_⟩ | ⟨h0,_⟩ | ⟨h0,h4,h5,h6⟩ | ⟨h0,_⟩
    case inr.inr.inr.inr.inr.inr.inr.inr.inl =>
     obtain rfl:m=3:=by omega
     exact do_same W0 n T x I A cc c hc hmc h3 h5 h6 s cl hcl w hw htot.2
    all_goals (exfalso;rw[h3]at h0;revert h0;decide)
   ·by_cases h4:wd c 0=wFail
    ·rcases hok.form with ⟨h0,_⟩ | ⟨h0,_⟩ | ⟨h0,_⟩ | ⟨h0,_⟩ | ⟨h0,_⟩ | ⟨h0,_⟩ | ⟨h0,_⟩ | ⟨h0,_⟩ | ⟨h0,_⟩ | ⟨h0,h5,h6⟩
     case inr.inr.inr.inr.inr.inr.inr.inr.inr =>
      obtain rfl:m=2:=by omega
      exact do_fail W0 n T x I A cc c hc hmc h4 h6 s cl w hw htot.2
     all_goals (exfalso;rw[h4]at h0;revert h0;decide)
    ·refine do_made W0 n T x I hx A m cc c hc hmc hok ?_ h1 h2 h3 h4 s cl hcl L hL w hw hnw htot
     rcases hok.form with ⟨_,h,_⟩ | ⟨_,h,_⟩ | ⟨_,h,_⟩ | ⟨_,h,_⟩ | ⟨_,h,_⟩ | ⟨_,h,_⟩ | ⟨h0,_⟩ | ⟨h0,_⟩ | ⟨h0,_⟩ | ⟨h0,_⟩
     ·exact h
     ·omega
     ·omega
     ·omega
     ·omega
     ·omega
     ·exact absurd h0 h1
     ·exact absurd h0 h2
     ·exact absurd h0 h3
     ·exact absurd h0 h4
theorem cell_Words {w:World} {b off m k:Nat} {l:List Words} {x:Words} (h:SlAt RWords w (some ⟨b,off,none⟩) m l) (hx:l[k]? = some x):w.cell? ⟨b,off+k,none⟩=some (.slice x.A x.n x.cap):=by
 have hk:=(List.getElem?_eq_some_iff.1 hx).1;have hl:=h.1;obtain⟨b',o',hA,hc⟩:=h.2.1 (by omega);obtain⟨rfl,rfl⟩:b=b'∧off=o':=by simpa using hA
 have:=hc k x hx 0 _ rfl
 simpa[RWords,RSl]using this
theorem tmap_len {P:Program} {k:TypeId} {κ α:Type} {K:KD P k κ} {val:α→Value} {w:World} {b c:Nat} {f:κ→Option α} (h:TMap K val w b f c) {t e ty:TypeId} (ht:P.underlying t=some (.map k e)):(Builtin.len_ #[t] ty #[.map (some b)]).run P w = .ok (.int .i64 c) w:=by
 obtain⟨D,h,hs,_⟩:=h;rw[← hs];exact h.len ht ty
def CmdsOk (x:Action):Prop:=x.commands.l.length≤50∧∀ c∈x.commands.l,CmdOk c.l
def NoList (x:Action):Prop:=∀ c∈x.commands.l,wd c.l 0≠wList
def cmds (x:Action):List (List ByteArray):=x.commands.l.map (·.l)
def RunRel (W0:World) (n:Nat) (x:Action) (I:Inp) (L:List ByteArray) (r:(Int × Int) × ES) (w:World) (i:Value) (wr:World):Prop :=
 ∃ (k:Nat) (s':ES) (cl' T':Nat),k≤x.commands.l.length∧i = .int .i64 k∧WA W0 n T' x I s' cl' wr∧cl'≤10100*k∧-100000*(k:Int)≤s'.total∧s'.total≤2000000∧s'.nw≤k∧Kp (WS n) w wr∧LsIn x I s' L∧(NoList x→runM (epOf x) ((cmds x).drop k) k I s'=r)
def RunAns (W0:World) (n:Nat) (x:Action) (I:Inp) (L:List ByteArray) (r0:(Int × Int) × ES) (w:World) (e:Ending) (w':World):Prop :=
 ∃ r T' cl',e = .returned (.tuple #[.int .i64 r.1.1,.int .i64 r.1.2])∧WA W0 n T' x I r.2 cl' w'∧cl'≤600000∧r.2.nw≤50∧Kp (WS n) w w'∧LsIn x I r.2 L∧(NoList x→r0=r)
theorem run_any (W0:World) (n T:Nat) (x:Action) (I:Inp) (hx:XOk W0 x) (hc:CmdsOk x) (L:List ByteArray) (hL:LsIn x I es0 L) (hout:∀ p∈x.outputs.l,p∈L) (w:World) (hw:WA W0 n T x I es0 0 w) (r0:(Int × Int) × ES) (hr0:runM (epOf x) (cmds x) 0 I es0=r0) :
  Calls Tryz.prog 15 #[.pointer (some ⟨n+3,0,none⟩)] w (RunAns W0 n x I L r0 w):=by
 obtain⟨Z,hZ⟩:∃ Z,RunAns W0 n x I L r0 w=Z:=⟨_,rfl⟩;have hZ':∀ e W,RunAns W0 n x I L r0 w e W→Z e W:=fun e W h=>by rw[← hZ];exact h
 rw[hZ];clear hZ;have hsl0:SlAt RWords W0 x.commands.A x.commands.n x.commands.l:=hx.ok.2.1.1;have hcn:x.commands.l.length=x.commands.n:=hsl0.1;have hc50:=hc.1;have hon:x.outputs.l.length=x.outputs.n:=hx.ok.2.2.2.1.1.1;obtain⟨q1,_,q3,_,q7,_,_,_⟩:=hw.cells;have hst:RunRel W0 n x I L r0 w (.int .i64 0) w:=⟨0,es0,0,T,Nat.zero_le _,rfl,hw,Nat.zero_le _,(by show (-100000:Int)*((0:Nat):Int)≤0;omega),(by show (0:Int)≤2000000;omega),Nat.zero_le _,Kp.refl _ _,hL,fun _=>by rw[List.drop_zero];exact hr0⟩;obtain⟨CA,hCA⟩:∃ A,x.commands.A=A:=⟨_,rfl⟩;obtain⟨Cn,hCn⟩:∃ A,x.commands.n=A:=⟨_,rfl⟩;obtain⟨Cc,hCc⟩:∃ A,x.commands.cap=A:=⟨_,rfl⟩;rw[hCA,hCn,hCc]at q1;rw[hCA,hCn]at hsl0;rw[hCn]at hcn;clear hCA hCn hCc q3 q7;obtain⟨hZ'H,hwH,hsl0H,hcnH,hstH,hxH,hcH,hLH,houtH,honH⟩:=hq2 hZ' (hqc hw hsl0 hcn hst hx hc hL hout (Lib.hid hon));clear hZ' hw hsl0 hcn hst hx hc hL hout hon;go_enter Tryz.func15,Tryz.ntmps15;go_wp2_with fail
 go_loopw [13] (fun i wr=>RunRel W0 n x I L r0 w i wr) (fun i _=>Cn-(intOf i).toNat)
 case atStart=>exact hstH.out
 case round =>
  clear hstH;obtain⟨k,s',cl',T',hk,rfl,hA,hcl,ht1,ht2,hnw,hkp,hLs,hrun⟩:=hrel;have hkm:k≤Cn:=by have:=hcnH.out;omega
  have hCn50:Cn≤50:=by have:=hcnH.out;omega
  by_cases hlt:k<Cn
  ·obtain⟨y,hy⟩:∃ y,x.commands.l[k]? = some y:=⟨x.commands.l[k]'(by have:=hcnH.out;omega),List.getElem?_eq_getElem _⟩;have hsl:=hsl0H.out.below hA.bel;obtain⟨bl,ol,hAL,_⟩:=hsl.2.1 (by omega);subst hAL;have cy:=cell_Words hsl hy;have hym:=List.mem_of_getElem? hy;have hyok:=hcH.out.2 y hym;have hyw:(RSl RStr).ok W0 y:=hsl0H.out.2.2 y hym;have hkl2:k+1≤x.commands.l.length:=by have:=hcnH.out;omega
   have hcall:=do_any W0 n T' x I hxH.out y.A y.n y.cap y.l hyw.1 hyw.2.1 hyok s' cl' (by omega) L hLs wr hA (by omega) (by omega);have hdr:(cmds x).drop k=y.l::(cmds x).drop (k+1):=by
    unfold cmds;exact drop_cons (by rw[List.getElem?_map,hy];rfl)
   have hrun2:NoList x→(doM (epOf x) y.l).bind (fun z=>if z≠0 then .pure (z,(k:Int)+1) else runM (epOf x) ((cmds x).drop (k+1)) (k+1)) I s'=r0:=fun h=>by
    have:=hrun h;rw[hdr,runM]at this;exact this
   obtain⟨yA,yn,yc,yl⟩:=y;simp only at cy hcall hrun2;clear hrun hdr;obtain⟨hAH,hkpH,hLsH,hrun2H,hyH,hslH,hyokH,hywH,hcallH,hymH⟩:=hq2 hA (hqc hkp hLs hrun2 hy hsl hyok hyw hcall (Lib.hid hym));clear hA hkp hLs hrun2 hy hsl hyok hyw hcall hym;go_wp2_with fail;refine hcallH.out.mono ?_;rintro e w1 ⟨⟨z,s1⟩,T1,cl1,rfl,hA1,hco,ht11,ht12,hnw1,hcl1,hk1,hwr1,hdo⟩;simp only at hA1 hco ht11 ht12 hnw1 hwr1 hdo ⊢;have hkp1:=hkpH.out.trans hk1;have hLs1:LsIn x I s1 L:=⟨hLsH.out.inp,fun p hp=>(hwr1 p hp).elim (fun h=>hLsH.out.wr p h) (fun h=>houtH.out p h),hLsH.out.len,hLsH.out.sz⟩;have hrun3:NoList x→(if z≠0 then (((z,(k:Int)+1),s1):(Int × Int) × ES) else runM (epOf x) ((cmds x).drop (k+1)) (k+1) I s1)=r0:=fun h=>by
    have h1:=hrun2H.out h;rw[bind_em,hdo (h _ hymH.out),ite_em]at h1;exact h1
   clear hk1 hwr1 hdo
   by_cases hz:z=0
   ·subst hz;simp only[ne_eq,not_true_eq_false,if_false]at hrun3;have R:RunRel W0 n x I L r0 w (.int .i64 (k+1)) w1:=⟨k+1,s1,cl1,T1,hkl2,by go_num,hA1,by omega,by omega,ht12,by omega,hkp1,hLs1,hrun3⟩;clear hrun3;obtain⟨hA1H,hkp1H,hLs1H,RH⟩:=hq2 hA1 (hq2 hkp1 (hq2 hLs1 (Lib.hid R)));clear hA1 hkp1 hLs1 R;go_wp2_with fail;refine⟨?rel,?measure⟩
    case measure=>(simp[intOf];omega)
    case rel=>first | exact RH.out | exact⟨rfl,RH.out⟩
   ·have hne:(z==0)=false:=by simpa using hz
    have R:=hZ'H.out (.returned (.tuple #[.int .i64 z,.int .i64 ((k:Int)+1)])) w1 ⟨((z,(k:Int)+1),s1),T1,cl1,rfl,hA1,by omega,(by show s1.nw≤50;omega),hkp1,hLs1,fun h=>by have:=hrun3 h;rw[if_pos hz]at this;exact this.symm⟩;clear hrun3;obtain⟨hA1H,hkp1H,hLs1H,RH⟩:=hq2 hA1 (hq2 hkp1 (hq2 hLs1 (Lib.hid R)));clear hA1 hkp1 hLs1 R;go_wp2_with fail;exact RH.out
  ·obtain rfl:k=Cn:=by omega
   have e0:(cmds x).drop k = []:=by unfold cmds;exact List.drop_eq_nil_of_le (by rw[List.length_map];have:=hcnH.out;omega)
   rw[e0]at hrun;have hAd:=hA.below (Below.refl wr.heap.size wr).drew;obtain⟨f,hf,_⟩:=hAd.fo;have hlen:=tmap_len hf (t:=52) (ty:=3) Tryz.underlying52;obtain⟨_,_,q3,_,q7,_,_,_⟩:=hA.cells;have hkd:Kp (WS n) w wr.drew:=hkp.trans (Kp.of_below (S:=WS n) (Below.refl wr.heap.size wr).drew);have houtn:(epOf x).outs.length=x.outputs.n:=honH.out;obtain⟨on,hon2⟩:∃ k,x.outputs.n=k:=⟨_,rfl⟩;rw[hon2]at houtn q3;have hrun2:NoList x→(((if s'.nw<on then (1:Int) else 0),(0:Int)),s')=r0:=fun h=>by
    have:=hrun h;unfold runM at this;rw[houtn]at this;exact this
   have R:∀ z:Int,(if s'.nw<on then (1:Int) else 0)=z→Z (.returned (.tuple #[.int .i64 z,.int .i64 0])) wr.drew:=fun z hz=>hZ'H.out _ _ ⟨((z,0),s'),T',cl',rfl,hAd,by omega,(by show s'.nw≤50;omega),hkd,hLs,fun h=>by rw[← hrun2 h,hz]⟩;obtain⟨nw,hnwe⟩:∃ k,s'.nw=k:=⟨_,rfl⟩;rw[hnwe]at hlen R;clear hrun hrun2 e0 hf hon2 houtn hnwe;obtain⟨hAH,hkpH,hLsH,hAdH,hkdH,RH⟩:=hq2 hA (hqb hkp hLs hAd hkd (Lib.hid R));clear hA hkp hLs hAd hkd R;go_wp2_with fail
   go_region
   by_cases hlo:nw<on
   ·have R2:=RH.out 1 (by rw[if_pos hlo]);have R2H:=Lib.hid R2;clear R2;go_wp2_with fail;exact R2H.out
   ·have R2:=RH.out 0 (by rw[if_neg hlo]);have R2H:=Lib.hid R2;clear R2;go_wp2_with fail;exact R2H.out
end Go.Proofs.YtdiaabeollcjaaaGreatDoor.C10
namespace Go.Proofs.YtdiaabeollcjaaaGreatDoor.C10
open Go.ChangeShapes Go.WideShapes Go.Deep Go.RowKit Go.Lib
def ActOk (x:Action):Prop:=CmdsOk x∧VarsOk x.vars.l∧OutsOk x.outputs.l
def CaRel (x:Action) (w w0:World) (i:Value) (wr:World):Prop:=∃ k:Nat,k≤x.commands.l.length∧i = .int .i64 k∧Below w0.heap.size w0 wr∧∀ j c,j<k→x.commands.l[j]? = some c→CmdOk c.l
theorem checkAction_any (x:Action) (w:World) (hm:MaxLenAt w) (hx:RAction.ok w x)
  (hdg:∀ W,Calls Tryz.prog 52 #[.string x.tool] W (AnyBW W)) :
  Calls Tryz.prog 29 #[.agg #[.string x.tool,.slice x.commands.A x.commands.n x.commands.cap,.slice x.vars.A x.vars.n x.vars.cap,.slice x.outputs.A x.outputs.n x.outputs.cap,.slice x.needs.A x.needs.n x.needs.cap,.int .i64 x.time]] w (CkAns (ActOk x) w):=by
 obtain⟨Z,hZ⟩:∃ Z,CkAns (ActOk x) w=Z:=⟨_,rfl⟩;have hZ':∀ e W,CkAns (ActOk x) w e W→Z e W:=fun e W h=>by rw[← hZ];exact h
 rw[hZ];clear hZ;obtain⟨w0,hw0⟩:∃ W,w.alloc (.cells #[.string x.tool,.slice x.commands.A x.commands.n x.commands.cap,.slice x.vars.A x.vars.n x.vars.cap,.slice x.outputs.A x.outputs.n x.outputs.cap,.slice x.needs.A x.needs.n x.needs.cap,.int .i64 x.time] 26)=W:=⟨_,rfl⟩;have hb0:Below w.heap.size w w0:=by rw[← hw0];exact(Below.refl _ _).alloc (Nat.le_refl _) _
 have hz0:Blk w0 w.heap.size [.string x.tool,.slice x.commands.A x.commands.n x.commands.cap,.slice x.vars.A x.vars.n x.vars.cap,.slice x.outputs.A x.outputs.n x.outputs.cap,.slice x.needs.A x.needs.n x.needs.cap,.int .i64 x.time]:=by
  rw[← hw0];exact blk_new w [.string x.tool,.slice x.commands.A x.commands.n x.commands.cap,.slice x.vars.A x.vars.n x.vars.cap,.slice x.outputs.A x.outputs.n x.outputs.cap,.slice x.needs.A x.needs.n x.needs.cap,.int .i64 x.time] 26
 have hs0:w0.heap.size=w.heap.size+1:=by rw[← hw0];simp
 have R0:∀ (k:Int) W,k≠0→Below w0.heap.size w0 W→Z (.returned (.int .i64 k)) W:=fun k W hk h=>hZ' _ _ ⟨k,rfl,hb0.trans (h.mono (by omega)),fun e=>absurd e hk⟩;have hcell:∀ W,Below w0.heap.size w0 W→Blk W w.heap.size [.string x.tool,.slice x.commands.A x.commands.n x.commands.cap,.slice x.vars.A x.vars.n x.vars.cap,.slice x.outputs.A x.outputs.n x.outputs.cap,.slice x.needs.A x.needs.n x.needs.cap,.int .i64 x.time]:=fun W h=>blk_below hz0 (by simp) h;have hx0:=RAction.mono _ _ _ hb0 hx;have hm0:=hm.below hb0;obtain⟨d0,_⟩:=hz0 0 _ rfl;have hdg0:=hdg w0;have hln:x.commands.l.length=x.commands.n:=hx.2.1.1.1;obtain⟨hZ'H,hmH,hxH,hdgH,hb0H,hz0H,R0H,hcellH,hx0H,hm0H,hdg0H⟩:=hq2 hZ' (hq2 hm (hqc hx hdg hb0 hz0 R0 hcell hx0 hm0 (Lib.hid hdg0)));clear hZ' hm hx hdg hb0 hz0 R0 hcell hx0 hm0 hdg0;go_enter Tryz.func29,Tryz.ntmps29;go_wp2_with fail;refine hdg0H.out.mono ?_;rintro e w1 ⟨b,rfl,hb1⟩
 cases b
 ·have R:=R0H.out 3 w1 (by decide) hb1;obtain⟨hb1H,RH⟩:=hq2 hb1 (Lib.hid R);clear hb1 R;go_wp2_with fail;exact RH.out
 ·obtain⟨d1,_⟩:=hcellH.out w1 hb1 1 _ rfl;obtain⟨CA,hCA⟩:∃ A,x.commands.A=A:=⟨_,rfl⟩;obtain⟨Cn,hCn⟩:∃ A,x.commands.n=A:=⟨_,rfl⟩;obtain⟨Cc,hCc⟩:∃ A,x.commands.cap=A:=⟨_,rfl⟩;have hsl0:SlAt RWords w0 CA Cn x.commands.l:=by rw[← hCA,← hCn];exact hx0H.out.2.1.1
  rw[hCA,hCn,hCc]at d1;rw[hCn]at hln
  by_cases hn0:Cn=0
  ·have R:=R0H.out 9 w1 (by decide) hb1;subst hn0;obtain⟨hb1H,RH⟩:=hq2 hb1 (Lib.hid R);clear hb1 R;go_wp2_with fail;exact RH.out
  ·have i0:((Cn:Int)==0)=false:=by simp;omega
   by_cases hn5:Cn≤50
   ·have i5:¬ (50:Int)<(Cn:Int):=by omega
    have hst:CaRel x w w0 (.int .i64 0) w1:=⟨0,Nat.zero_le _,rfl,hb1,fun j c h=>absurd h (by omega)⟩;obtain⟨hb1H,hstH,hsl0H⟩:=hq2 hb1 (hq2 hst (Lib.hid hsl0));clear hb1 hst hsl0;go_wp2_with fail
    (try simp only[i0])
    go_loopw [24] (fun i wr=>CaRel x w w0 i wr) (fun i _=>Cn-(intOf i).toNat)
    case atStart=>exact hstH.out
    case round =>
     clear hstH;obtain⟨k,hk,rfl,hb,hall⟩:=hrel
     by_cases hlt:k<Cn
     ·obtain⟨y,hy⟩:∃ y,x.commands.l[k]? = some y:=⟨x.commands.l[k]'(by omega),List.getElem?_eq_getElem _⟩;have hsl:=hsl0H.out.below hb;obtain⟨bl,ol,hAL,_⟩:=hsl.2.1 (by omega);have hAL2:CA=some ⟨bl,ol,none⟩:=hAL;rw[hAL2]at hsl;have cy:=cell_Words hsl hy;have hym:=List.mem_of_getElem? hy;have hyw:(RSl RStr).ok wr y:=hsl.2.2 y hym;have hcc:=checkCommand_any y.A y.n y.cap y.l wr (hm0H.out.below hb) hyw.1 hyw.2.1 (by have h1:=hyw.2.1;have h2:=hyw.2.2.1;unfold maxLen at h2;omega);obtain⟨yA,yn,yc,yl⟩:=y;simp only at cy hcc;have hwrs:=hb.size;obtain⟨hbH,hslH,hywH,hccH,hyH⟩:=hqb hb hsl hyw hcc (Lib.hid hy);clear hb hsl hyw hcc hy;subst hAL2;go_wp2_with fail;refine hccH.out.mono ?_;rintro e w2 ⟨z,rfl,hb2,hz⟩;have hb02:=hbH.out.trans (hb2.mono hwrs)
      by_cases hz0:z=0
      ·have hzk:=hz hz0;subst hz0;have R:CaRel x w w0 (.int .i64 (k+1)) w2:=⟨k+1,by omega,by go_num,hb02,fun j v hj hv2=>by
        rcases Nat.lt_or_ge j k with h | h
        ·exact hall j v h hv2
        ·obtain rfl:j=k:=by omega
         rw[hyH.out]at hv2;injection hv2 with hv2;subst hv2;exact hzk⟩
       clear hz hall;obtain⟨hb2H,hb02H,RH⟩:=hq2 hb2 (hq2 hb02 (Lib.hid R));clear hb2 hb02 R;go_wp2_with fail;exact⟨RH.out,by simp[intOf];omega⟩
      ·have hne:(z==0)=false:=by simpa using hz0
       have R:=R0H.out z w2 hz0 hb02;clear hz hall;obtain⟨hb2H,hb02H,RH⟩:=hq2 hb2 (hq2 hb02 (Lib.hid R));clear hb2 hb02 R;go_wp2_with fail;exact RH.out
     ·have hcmds:CmdsOk x:=⟨by omega,fun c hc=>by
       obtain⟨j,hj,rfl⟩:=List.mem_iff_getElem.1 hc;exact hall j _ (by omega) (List.getElem?_eq_getElem hj)⟩
      clear hall;have hwrs:=hb.size;obtain⟨d2,_⟩:=hcellH.out wr hb 2 _ rfl;have hv1:=(RAction.mono _ _ _ hb hx0H.out).2.2.1;have hcv:=checkVars_any x.vars.A x.vars.n x.vars.cap x.vars.l wr hv1.1 (fun v hv=>by have:=hv1.1.2.2 v hv;exact⟨Nat.le_trans this.1 (by decide),Nat.le_trans this.2 (by decide)⟩);obtain⟨hbH,hcmdsH,hcvH,hv1H⟩:=hq2 hb (hq2 hcmds (hq2 hcv (Lib.hid hv1)));clear hb hcmds hcv hv1;go_wp2_with fail;refine hcvH.out.mono ?_;rintro e w2 ⟨z,rfl,hb2,hz⟩;have hb02:=hbH.out.trans (hb2.mono hwrs)
      by_cases hz0:z=0
      ·have hvars:=hz hz0;subst hz0;clear hz d2;have hw2s:=hb02.size;obtain⟨d3,_⟩:=hcellH.out w2 hb02 3 _ rfl;have ho1:=(RAction.mono _ _ _ hb02 hx0H.out).2.2.2.1;have hco:=checkOutputs_any x.outputs.A x.outputs.n x.outputs.cap x.outputs.l w2 (hm0H.out.below hb02) ho1.1;obtain⟨hb2H,hb02H,hvarsH,hcoH,ho1H⟩:=hqb hb2 hb02 hvars hco (Lib.hid ho1);clear hb2 hb02 hvars hco ho1;go_wp2_with fail;refine hcoH.out.mono ?_;rintro e w3 ⟨z,rfl,hb3,hz⟩;have hb03:=hb02H.out.trans (hb3.mono hw2s)
       by_cases hz0:z=0
       ·have houts:=hz hz0;subst hz0;clear hz d3;have hw3s:=hb03.size;obtain⟨d4,_⟩:=hcellH.out w3 hb03 4 _ rfl;have hn1:=(RAction.mono _ _ _ hb03 hx0H.out).2.2.2.2.1;have hcv2:=checkVars_any x.needs.A x.needs.n x.needs.cap x.needs.l w3 hn1.1 (fun v hv=>by have:=hn1.1.2.2 v hv;exact⟨Nat.le_trans this.1 (by decide),Nat.le_trans this.2 (by decide)⟩);obtain⟨hb3H,hb03H,houtsH,hcv2H,hn1H⟩:=hqb hb3 hb03 houts hcv2 (Lib.hid hn1);clear hb3 hb03 houts hcv2 hn1;go_wp2_with fail;refine hcv2H.out.mono ?_;rintro e w4 ⟨z,rfl,hb4,hz⟩;have hb04:=hb03H.out.trans (hb4.mono hw3s)
        by_cases hz0:z=0
        ·subst hz0;clear hz d4;obtain⟨d5,_⟩:=hcellH.out w4 hb04 5 _ rfl;have R1:=R0H.out 1 w4 (by decide) hb04;have Rk:=hZ'H.out (.returned (.int .i64 0)) w4 ⟨0,rfl,hb0H.out.trans (hb04.mono (by omega)),fun _=>⟨hcmdsH.out,hvarsH.out,houtsH.out⟩⟩;obtain⟨hb4H,hb04H,R1H,RkH⟩:=hq2 hb4 (hq2 hb04 (hq2 R1 (Lib.hid Rk)));clear hb4 hb04 R1 Rk;go_wp2_with fail
         all_goals first
          | exact R1H.out
          | exact RkH.out
        ·have hne:(z==0)=false:=by simpa using hz0
         have R:=R0H.out z w4 hz0 hb04;clear hz;obtain⟨hb4H,hb04H,RH⟩:=hq2 hb4 (hq2 hb04 (Lib.hid R));clear hb4 hb04 R;go_wp2_with fail;exact RH.out
       ·have hne:(z==0)=false:=by simpa using hz0
        have R:=R0H.out z w3 hz0 hb03;clear hz;obtain⟨hb3H,hb03H,RH⟩:=hq2 hb3 (hq2 hb03 (Lib.hid R));clear hb3 hb03 R;go_wp2_with fail;exact RH.out
      ·have hne:(z==0)=false:=by simpa using hz0
       have R:=R0H.out z w2 hz0 hb02;clear hz;obtain⟨hb2H,hb02H,RH⟩:=hq2 hb2 (hq2 hb02 (Lib.hid R));clear hb2 hb02 R;go_wp2_with fail;exact RH.out
   ·have i5:(50:Int)<(Cn:Int):=by omega
    have R:=R0H.out 2 w1 (by decide) hb1;obtain⟨hb1H,RH⟩:=hq2 hb1 (Lib.hid R);clear hb1 R;go_wp2_with fail;exact RH.out
end Go.Proofs.YtdiaabeollcjaaaGreatDoor.C10