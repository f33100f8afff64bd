/-
 Several texts of mine as one, without what is not wanted here: XLawMat, XLawTop, XMatRow.
-/
import Derived.Test.YtdiaabeollcjaaaGreatDoorMtUC10
import Derived.Test.YtdiaabeollcjaaaGreatDoorTie
import Derived.OpenShut
import Derived.ShutString
import Derived.ChangeOld
import Derived.Deep.DeepHandedRow
import Derived.Lib.LaidU8
import Derived.JoinedCond
import Derived.Deep.CondSized
set_option linter.unusedVariables false
set_option linter.unusedSimpArgs false
set_option maxRecDepth 100000
set_option maxHeartbeats 8000000
namespace Go.Proofs.YtdiaabeollcjaaaGreatDoor.C10
open Go.ChangeShapes Go.WideShapes Go.Deep Go.RowKit Go.Lib Go.Maps
theorem law_mat (x:Action) (a1 a2:SlD File) (w:World) (hmx:MaxLenAt w) (hpw:PowJ w) (hx:RAction.ok w x) (h1:(RSl RFile).ok w a1) (h2:(RSl RFile).ok w a2) :
  Calls Tryz.prog 4 #[actV x,.slice a1.A a1.n a1.cap,.slice a2.A a2.n a2.cap] w fun e w'=>e = .returned (.bool true)∧Below w.heap.size w w':=by
 obtain⟨A1,m1,c1,l1⟩:=a1;obtain⟨A2,m2,c2,l2⟩:=a2;simp only;obtain⟨Z,hZ⟩:∃ Z,(fun (e:Ending) (w':World)=>e = .returned (.bool true)∧Below w.heap.size w w')=Z:=⟨_,rfl⟩;rw[hZ];have RZ:∀ W,Below w.heap.size w W→Z (.returned (.bool true)) W:=fun W h=>by rw[← hZ];exact⟨rfl,h⟩
 obtain⟨W0,hW0⟩:∃ W,w.alloc (.cells #[.string x.tool,.slice x.commands.A x.commands.n x.commands.cap,.slice x.vars.A x.vars.n x.vars.cap,.slice x.outputs.A x.outputs.n x.outputs.cap,.slice x.needs.A x.needs.n x.needs.cap,.int .i64 x.time] 26)=W:=⟨_,rfl⟩;have hb0:=bel_of hW0;have hz0:=blk_of [.string x.tool,.slice x.commands.A x.commands.n x.commands.cap,.slice x.vars.A x.vars.n x.vars.cap,.slice x.outputs.A x.outputs.n x.outputs.cap,.slice x.needs.A x.needs.n x.needs.cap,.int .i64 x.time] _ hW0;have hs0:=siz_of hW0;have hx0:=RAction.mono _ _ _ hb0 hx;have hLi:=listsIn_any x W0 hx0;unfold actV at hLi ⊢;obtain⟨d0,-⟩:=hz0 0 _ rfl;obtain⟨d1,-⟩:=hz0 1 _ rfl;obtain⟨d2,-⟩:=hz0 2 _ rfl;obtain⟨d3,-⟩:=hz0 3 _ rfl;obtain⟨d4,-⟩:=hz0 4 _ rfl;obtain⟨d5,-⟩:=hz0 5 _ rfl;clear hZ;obtain⟨RZH,hmxH,hpwH,hxH,h1H,h2H,hb0H,hz0H,hx0H,hLiH⟩:=hq2 RZ (hqc hmx hpw hx h1 h2 hb0 hz0 hx0 (Lib.hid hLi));clear RZ hmx hpw hx h1 h2 hb0 hz0 hx0 hLi;go_enter Tryz.func4,Tryz.ntmps4;go_wp2_with fail;refine hLiH.out.mono ?_;rintro e wa ⟨b,rfl,hnl,hba⟩;have hb0a:=hb0H.out.trans (hba.mono hb0H.out.size);have hza:=blk_below hz0H.out (by simp) hba;have hxA:=RAction.mono _ _ _ hb0a hxH.out;have hE:=execute_rs x A1 m1 c1 l1 wa (hmxH.out.below hb0a) (hpwH.out.below hb0a) hxA ((RSl RFile).mono _ _ _ hb0a h1H.out);unfold actV at hE;clear d0 d1 d2 d3 d4 d5;obtain⟨d0,-⟩:=hza 0 _ rfl;obtain⟨d1,-⟩:=hza 1 _ rfl
 obtain⟨d2,-⟩:=hza 2 _ rfl;obtain⟨d3,-⟩:=hza 3 _ rfl;obtain⟨d4,-⟩:=hza 4 _ rfl;obtain⟨d5,-⟩:=hza 5 _ rfl;obtain⟨hbaH,hb0aH,hzaH,hxAH,hEH,hW0H⟩:=hq2 hba (hqb hb0a hza hxA hE (Lib.hid hW0));clear hba hb0a hza hxA hE hW0
 cases b
 ·have hnl:=hnl rfl;have hnlH:=Lib.hid hnl;clear hnl;go_wp2_with fail;refine hEH.out.mono ?_;rintro e w1 ⟨f,r,rfl,hro,hrl,hrc,hri,hb1⟩;have hb01:=hb0aH.out.trans (hb1.mono hb0aH.out.size);obtain⟨rc,rt,FA,Fn,Fc,LA,Ln,Lc,rk,fs,ls⟩:=r;simp only[Rs.cells]at hrl hrc ⊢;obtain⟨xb,hxb⟩:∃ b,w1.heap.size=b:=⟨_,rfl⟩;obtain⟨W1,hW1⟩:∃ W,w1.alloc (.cells #[.int .i64 rc,.string rt,.slice FA Fn Fc,.slice LA Ln Lc,.int .i64 rk] 30)=W:=⟨_,rfl⟩;have hbW1:=bel_of hW1;have hzx:=blk_of [.int .i64 rc,.string rt,.slice FA Fn Fc,.slice LA Ln Lc,.int .i64 rk] _ hW1;have hsW1:=siz_of hW1;rw[hxb]at hzx;have hb1W:=hb1.trans (hbW1.mono hb1.size);have hz1:=blk_below hzaH.out (by simp) hb1W;have hb02:=hb01.trans (hbW1.mono hb01.size);have hro1:=hro.below hbW1;clear d0 d1 d2 d3 d4 d5 hro;obtain⟨e3,-⟩:=hzx 3 _ rfl;obtain⟨hriH,hb1H,hb01H,hbW1H,hzxH,hb1WH,hz1H,hb02H,hro1H⟩:=hqc hri hb1 hb01 hbW1 hzx hb1W hz1 hb02 (Lib.hid hro1);clear hri hb1 hb01 hbW1 hzx hb1W hz1 hb02 hro1
  by_cases hf:f=0
  ·subst hf;have hok1:=hriH.out rfl;have hCg:=changes_any A1 m1 c1 l1 A2 m2 c2 l2 W1 (hmxH.out.below hb02H.out) ((RSl RFile).mono _ _ _ hb02H.out h1H.out) ((RSl RFile).mono _ _ _ hb02H.out h2H.out);clear e3;obtain⟨hok1H,hCgH⟩:=hq2 hok1 (Lib.hid hCg);clear hok1 hCg;go_wp2_with fail;refine hCgH.out.mono ?_;rintro e w2 hCa;have key:∃ (h:Int) (A7:Option Addr) (n7 c7:Nat),e = .returned (.tuple #[.slice A7 n7 c7,.int .i64 h])∧Below W1.heap.size W1 w2∧(h=0→∃ L,Rising L∧(∀ p∈L,p.size≤maxLen)∧(∀ p,p.size≤maxLen→(p∈L↔p∈l1.map (·.path)++l2.map (·.path)))∧Own RTreeChange 72 w2 W1.heap.size (.slice A7 n7 c7) (L.filterMap (chOf (inpF l1) (inpF l2)))):=by
    rcases hCa with ⟨c,hc,_,h1,h2⟩ | ⟨A7,n7,c7,L,h1,_,_,h2,h3,h4,h5,h6⟩
    ·exact⟨c,none,0,0,h1,h2,fun e=>absurd e hc⟩
    ·exact⟨0,A7,n7,c7,h1,h6,fun _=>⟨L,h2,h3,h4,h5⟩⟩
   obtain⟨h,A7,n7,c7,rfl,hb2,hCi⟩:=key;have hb03:=hb02H.out.trans (hb2.mono hb02H.out.size);have hz2:=blk_below hz1H.out (by simp) hb2;have hx2:=RAction.mono _ _ _ hb03 hxH.out;have hE2:=execute_rs x A2 m2 c2 l2 w2 (hmxH.out.below hb03) (hpwH.out.below hb03) hx2 ((RSl RFile).mono _ _ _ hb03 h2H.out);unfold actV at hE2;have hxx2:=blk_below hzxH.out (by simp) hb2;have hro2:=hro1H.out.below hb2;clear hCa;obtain⟨d0,-⟩:=hz2 0 _ rfl;obtain⟨d1,-⟩:=hz2 1 _ rfl;obtain⟨d2,-⟩:=hz2 2 _ rfl;obtain⟨d3,-⟩:=hz2 3 _ rfl;obtain⟨d4,-⟩:=hz2 4 _ rfl;obtain⟨d5,-⟩:=hz2 5 _ rfl;obtain⟨hb2H,hCiH,hb03H,hz2H,hx2H,hE2H,hxx2H,hro2H,hW1H⟩:=hqc hb2 hCi hb03 hz2 hx2 hE2 hxx2 hro2 (Lib.hid hW1);clear hb2 hCi hb03 hz2 hx2 hE2 hxx2 hro2 hW1;go_wp2_with fail;refine hE2H.out.mono ?_;rintro e w3 ⟨g,r2,rfl,hroB,hrl2,hrc2,hri2,hb3⟩;obtain⟨rc2,rt2,FA2,Fn2,Fc2,LA2,Ln2,Lc2,rk2,fs2,ls2⟩:=r2;simp only[Rs.cells]at hrl2 hrc2 ⊢;clear hrl2 hrc2;obtain⟨yb,hyb⟩:∃ b,w3.heap.size=b:=⟨_,rfl⟩;obtain⟨W3,hW3⟩:∃ W,w3.alloc (.cells #[.int .i64 rc2,.string rt2,.slice FA2 Fn2 Fc2,.slice LA2 Ln2 Lc2,.int .i64 rk2] 30)=W:=⟨_,rfl⟩;have hbW3:=bel_of hW3;have hzy:=blk_of [.int .i64 rc2,.string rt2,.slice FA2 Fn2 Fc2,.slice LA2 Ln2 Lc2,.int .i64 rk2] _ hW3;rw[hyb]at hzy;have hb23:=hb3.trans (hbW3.mono hb3.size);have hb04:=hb03H.out.trans (hb23.mono hb03H.out.size);have hxx3:=blk_below hxx2H.out (by simp) hb23;have hro3:=hro2H.out.below hb23;have hroB3:=hroB.below hbW3;clear d0 d1 d2 d3 d4 d5 hroB hbW3;obtain⟨hb3H,hzyH,hb23H,hb04H,hxx3H,hro3H,hroB3H,hri2H⟩:=hq2 hb3 (hq2 hzy (hq2 hb23 (hqb hb04 hxx3 hro3 hroB3 (Lib.hid hri2))));clear hb3 hzy hb23 hb04 hxx3 hro3 hroB3 hri2
   by_cases hh:h=0
   ·subst hh;obtain⟨L,hLr,hLz,hLm,hown⟩:=hCiH.out rfl
    by_cases hg:g=0
    ·subst hg;have hok2:=hri2H.out rfl;have hRo:=readsOf_any LA Ln Lc ls W3 hro3H.out.l.1 (hok1H.out.path hnlH.out) hrl;have hown3:=hown.below hb23H.out;have hn7:=hown.len;obtain⟨x3,-⟩:=hxx3H.out 3 _ rfl;clear hown;obtain⟨hLrH,hLzH,hLmH,hok2H,hRoH,hown3H,hn7H⟩:=hq2 hLr (hq2 hLz (hqb hLm hok2 hRo hown3 (Lib.hid hn7)));clear hLr hLz hLm hok2 hRo hown3 hn7;go_wp2_with fail;refine hRoH.out.mono ?_;rintro e w4 ⟨AH,nH,cH,AM,nM,cM,rfl,hHit,hMis,hb4⟩;have hb34:=hb4;have hxx4:=blk_below hxx3H.out (by simp) hb4;have hzy4:=blk_below hzyH.out (by simp) hb4;have hb05:=hb04H.out.trans (hb4.mono hb04H.out.size);obtain⟨W8,hW8⟩:∃ W,w4.alloc (.cells #[.string wT,.slice AH nH cH,.slice AM nM cM] 36)=W:=⟨_,rfl⟩;have hb8:=bel_of hW8;obtain⟨T,hT⟩:∃ T:TestReads,T=⟨wT,⟨AH,nH,cH,hitL ls⟩,⟨AM,nM,cM,missL ls⟩⟩:=⟨_,rfl⟩;have hl8:SlAt RTestReads W8 (some ⟨w4.heap.size,0,none⟩) 1 [T]:=by
      have:=slAt_new (R:=RTestReads) w4 36 T (by rw[hT];exact⟨by show wT.size≤maxLen;decide,hHit,hMis⟩);rw[← hW8];rw[hT]at this ⊢;exact this
     have hAf:=affected_any (some ⟨w4.heap.size,0,none⟩) 1 1 [T] A7 n7 c7 (L.filterMap (chOf (inpF l1) (inpF l2))) W8 (hmxH.out.below (hb05.trans (hb8.mono hb05.size))) hl8 ((hown3H.out.slAt.below hb4).below hb8) _ rfl;obtain⟨hta1,-,hta3⟩:=tell_all hok1H.out hok2H.out hnlH.out T (by rw[hT]) (by rw[hT]) (by rw[hT]) (by rw[hT];exact hHit.1.1) L hLrH.out hLzH.out hLmH.out _ rfl;obtain⟨a,ha⟩:∃ a,affF [T] (L.filterMap (chOf (inpF l1) (inpF l2)))=a:=⟨_,rfl⟩;rw[ha]at hAf hta1 hta3;obtain⟨La,fa⟩:=a;simp only at hta1 hta3;clear x3;obtain⟨hHitH,hMisH,hb4H,hb34H,hxx4H,hzy4H,hb05H,hTH,haH,hta1H,hta3H,hAfH,hb8H,hl8H⟩:=hq2 hHit (hqb hMis hb4 hb34 hxx4 (hqc hzy4 hb05 hT ha hta1 hta3 hAf hb8 (Lib.hid hl8)));clear hHit hMis hb4 hb34 hxx4 hzy4 hb05 hT ha hta1 hta3 hAf hb8 hl8;go_wp2_with fail
     try rw[hW8]
     refine hAfH.out.mono ?_;rintro e w9 ⟨AL,mL,cL,rfl,hsL,⟨hmL,_⟩,hb9⟩;simp only at hsL ⊢;have hb49:=hb8H.out.trans (hb9.mono hb8H.out.size);have hb09:=hb05H.out.trans (hb49.mono hb05H.out.size);have hmLl:La.length=mL:=hsL.1;clear hW8
     by_cases hfa:fa=0
     ·subst hfa;have hta:=hta3H.out rfl;have hx9:=blk_below hxx4H.out (by simp) hb49;have hy9:=blk_below hzy4H.out (by simp) hb49;obtain⟨x0,-⟩:=hx9 0 _ rfl;obtain⟨x1,-⟩:=hx9 1 _ rfl;obtain⟨x2,-⟩:=hx9 2 _ rfl;obtain⟨x3,-⟩:=hx9 3 _ rfl;obtain⟨x4,-⟩:=hx9 4 _ rfl;obtain⟨y0,-⟩:=hy9 0 _ rfl;obtain⟨y1,-⟩:=hy9 1 _ rfl;obtain⟨y2,-⟩:=hy9 2 _ rfl;obtain⟨y3,-⟩:=hy9 3 _ rfl;obtain⟨y4,-⟩:=hy9 4 _ rfl;have hb39:=hb34H.out.trans (hb49.mono hb34H.out.size);have hSr:=sameResult_any _ _ w9 (hro3H.out.below hb39) (hroB3H.out.below hb39);simp only[Rs.cells]at hSr;obtain⟨hsLH,hb9H,hb49H,hb09H,hx9H,hy9H,hSrH,hb39H⟩:=hq2 hsL (hq2 hb9 (hq2 hb49 (hqb hb09 hx9 hy9 hSr (Lib.hid hb39))));clear hsL hb9 hb49 hb09 hx9 hy9 hSr hb39
      rcases hta with h | ⟨h,hsm⟩
      ·have hm1:mL=1:=by rw[← hmLl,h];rfl
       subst hm1;go_wp2_with fail;refine(alive_any _).mono ?_;rintro e wz ⟨rfl,hbz⟩;have R:=RZH.out wz (hb09H.out.trans (hbz.mono hb09H.out.size));obtain⟨hbzH,RH⟩:=hq2 hbz (Lib.hid R);clear hbz R;go_wp2_with fail;exact RH.out
      ·have hm1:mL=0:=by rw[← hmLl,h];rfl
       subst hm1;have hsmH:=Lib.hid hsm;clear hsm;go_wp2_with fail;refine hSrH.out.mono ?_;rintro e w10 ⟨b,rfl,hbs,hb10⟩;obtain rfl:=hbs hsmH.out;have hb010:=hb09H.out.trans (hb10.mono hb09H.out.size);clear x0 x1 x2 x3 x4 y0 y1 y2 y3 y4 hbs;obtain⟨hb10H,hb010H⟩:=hq2 hb10 (Lib.hid hb010);clear hb10 hb010;go_wp2_with fail;refine(alive_any _).mono ?_;rintro e wz ⟨rfl,hbz⟩;have R:=RZH.out wz (hb010H.out.trans (hbz.mono hb010H.out.size));obtain⟨hbzH,RH⟩:=hq2 hbz (Lib.hid R);clear hbz R;go_wp2_with fail;exact RH.out
     ·obtain rfl:fa=2:=by
       rcases hta1H.out with h | h
       ·exact absurd h hfa
       ·exact h
      obtain⟨hsLH,hb9H,hb49H,hb09H⟩:=hq2 hsL (hq2 hb9 (hq2 hb49 (Lib.hid hb09)));clear hsL hb9 hb49 hb09;go_wp2_with fail;refine(alive_any _).mono ?_;rintro e wz ⟨rfl,hbz⟩;have R:=RZH.out wz (hb09H.out.trans (hbz.mono hb09H.out.size));obtain⟨hbzH,RH⟩:=hq2 hbz (Lib.hid R);clear hbz R;go_wp2_with fail;exact RH.out
    ·have hne:(g==0)=false:=by simpa using hg
     have hne2:(g != 0)=true:=by simpa using hg
     clear hg;obtain⟨hLrH,hLzH,hLmH,hownH⟩:=hq2 hLr (hq2 hLz (hq2 hLm (Lib.hid hown)));clear hLr hLz hLm hown;go_wp2_with fail;refine(alive_any _).mono ?_;rintro e wz ⟨rfl,hbz⟩;have R:=RZH.out wz (hb04H.out.trans (hbz.mono hb04H.out.size));obtain⟨hbzH,RH⟩:=hq2 hbz (Lib.hid R);clear hbz R;go_wp2_with fail;exact RH.out
   ·have hne:(h==0)=false:=by simpa using hh
    have hne2:(h != 0)=true:=by simpa using hh
    clear hh;go_wp2_with fail;refine(alive_any _).mono ?_;rintro e wz ⟨rfl,hbz⟩;have R:=RZH.out wz (hb04H.out.trans (hbz.mono hb04H.out.size));obtain⟨hbzH,RH⟩:=hq2 hbz (Lib.hid R);clear hbz R;go_wp2_with fail;exact RH.out
  ·have hne:(f==0)=false:=by simpa using hf
   have hne2:(f != 0)=true:=by simpa using hf
   obtain rfl:Ln=0:=hrc hf;clear hf;go_wp2_with fail;refine(alive_any _).mono ?_;rintro e wz ⟨rfl,hbz⟩;have R:=RZH.out wz (hb02H.out.trans (hbz.mono hb02H.out.size));obtain⟨hbzH,RH⟩:=hq2 hbz (Lib.hid R);clear hbz R;go_wp2_with fail;exact RH.out
 ·clear hnl;go_wp2_with fail;refine(alive_any _).mono ?_;rintro e wz ⟨rfl,hbz⟩;have R:=RZH.out wz (hb0aH.out.trans (hbz.mono hb0aH.out.size));obtain⟨hbzH,RH⟩:=hq2 hbz (Lib.hid R);clear hbz R;go_wp2_with fail;exact RH.out
end Go.Proofs.YtdiaabeollcjaaaGreatDoor.C10
namespace Go.Proofs.YtdiaabeollcjaaaGreatDoor.C10
open Go.ChangeShapes Go.WideShapes Go.Deep Go.RowKit
theorem law_mat_w (x:Action) (a1 a2:SlD File) (w:World) (hx:RAction.ok w x) (h1:(RSl RFile).ok w a1) (h2:(RSl RFile).ok w a2) (hmx:MaxLenAt w) (hpw:PowJ w) :
  Calls Tryz.prog 4 #[.agg (RAction.vals x).toArray,.slice a1.A a1.n a1.cap,.slice a2.A a2.n a2.cap] w fun e w'=>e = .returned (.bool true)∧Below w.heap.size w w' :=
 law_mat x a1 a2 w hmx hpw hx h1 h2
end Go.Proofs.YtdiaabeollcjaaaGreatDoor.C10
namespace Go.Proofs.YtdiaabeollcjaaaGreatDoor.topReadsTellWhatMatters
open Go.Proofs.YtdiaabeollcjaaaGreatDoor.C10
open Go.ChangeShapes Go.WideShapes Go.ChangeAt Go.RowKit
open Go.ChangeMaps (open_string shut_string)
theorem pow_row {W : World} (h : laidMetH Tryz.prog Rows.topReadsTellWhatMattersRow.laid W) : PowJ W := powJ_one (laidMetH.filter (fun x => x.1 == "internal/strconv.uint64pow10") h)
theorem own:ownKnob Tryz.prog.godebug=none:=by kernel_rfl
theorem laidOut:laidOutB Tryz.prog=true:=by kernel_rfl
theorem contract (H:Type) (enc:TypeId × Value→H) (W:World) (base:Nat) (args:Array Value) (ds gs:List (DataW H)) (before:List MemPlace)
  (hval0:∀ (j:Nat) t v,Tryz.f4.params[j]? = some t→args[j]? = some v→Value.okWide Tryz.prog W .any base t v)
  (hW:DataW.Whole enc Tryz.prog Tryz.f4.params.toList Rows.topReadsTellWhatMattersSpec.vars false W args.toList ds gs before) (hmx:MaxLenAt W) (hpw:PowJ W) :
  Calls Tryz.prog 4 args W fun e W'=>∃ v,e = .returned v∧Rows.topReadsTellWhatMattersSpec.post enc Tryz.prog Tryz.f4 false true false false W args v W':=by
 have hval:=hval0;have hW':=hW;obtain⟨p,q,hA0,hV,rfl,hfz,hnd⟩:=hW;have hA:DataW.TrodAll enc Tryz.prog W 0 (fun _=>true) true Tryz.f4.params.toList args.toList ds p:=hA0;rw[Tryz.params4]at hA hval;obtain⟨v0,vs0,d0,ds0,p0,q0,hargs,rfl,rfl,h0,r0⟩:=trodAll_cons hA;obtain⟨v1,vs1,d1,ds1,p1,q1,rfl,rfl,rfl,h1,r1⟩:=trodAll_cons r0;obtain⟨v2,vs2,d2,ds2,p2,q2,rfl,rfl,rfl,h2,r2⟩:=trodAll_cons r1;obtain⟨rfl,rfl,rfl⟩:=trodAll_nil r2;obtain rfl:args = #[v0,v1,v2]:=by cases args;simp_all
 obtain⟨rfl,rfl⟩:=trodVars_none hV;have m0:=h0;have lt0:∀ x∈p0,x.block<W.heap.size:=by obtain⟨m,hm⟩:=m0;exact DataW.trod_lt m _ _ _ hm
 obtain⟨a0,rfl,k0,b0⟩:=param_struct Tryz.underlying26 opens_Action (hval 0 26 v0 rfl rfl) h0;have m1:=h1;have lt1:∀ x∈p1,x.block<W.heap.size:=by obtain⟨m,hm⟩:=m1;exact DataW.trod_lt m _ _ _ hm
 obtain⟨a1,rfl,k1,b1⟩:=param_slice Tryz.underlying27 opens_t_sl_File (hval 1 27 v1 rfl rfl) h1;have m2:=h2;have lt2:∀ x∈p2,x.block<W.heap.size:=by obtain⟨m,hm⟩:=m2;exact DataW.trod_lt m _ _ _ hm
 obtain⟨a2,rfl,k2,b2⟩:=param_slice Tryz.underlying27 opens_t_sl_File (hval 2 27 v2 rfl rfl) h2;clear hA0 hval0;refine(law_mat_w a0 a1 a2 W k0 k1 k2 hmx hpw).mono fun e W' ⟨he,bel⟩=>?_;subst he;exact⟨_,rfl,_,_,_,[],_,[],hW',trodAll_mk1 (shut_bool Tryz.underlying4 _),(trodAll_cons_mk (Below.trod laidOut (by kernel_rfl) (of_decide_eq_true (by kernel_rfl)) m0 bel lt0) (trodAll_cons_mk (Below.trod laidOut (by kernel_rfl) (of_decide_eq_true (by kernel_rfl)) m1 bel lt1) (trodAll_cons_mk (Below.trod laidOut (by kernel_rfl) (of_decide_eq_true (by kernel_rfl)) m2 bel lt2) trodAll_mk0))),rfl,bel.frame _,fun h=>by cases h⟩
def litsOf:DataW Unit→List Value
 | .agg l=>l.map fun
  | .lit (.int k n)=>.int k n
  | _=>undef
 | _=>[]
noncomputable def low:Nat:=(World.holding Tryz.prog default ⟨#[],#[],[]⟩).heap.size
noncomputable def laidWorld (os:Os):World :=
 let put (h:Array Obj) (g:Nat) (cs:Array Value):Array Obj:=h.modify g fun
  | .cells _ t frozen=>.cells cs t frozen
  | o=>o
 { World.holding Tryz.prog os ⟨#[.cells #[.string ⟨#[118,97,108,117,101,32,111,117,116,32,111,102,32,114,97,110,103,101]⟩] 220,.cells #[.string ⟨#[105,110,118,97,108,105,100,32,115,121,110,116,97,120]⟩] 220],#[],[]⟩ with heap:=put (put (put (put (put (put (put (World.holding Tryz.prog os ⟨#[.cells #[.string ⟨#[118,97,108,117,101,32,111,117,116,32,111,102,32,114,97,110,103,101]⟩] 220,.cells #[.string ⟨#[105,110,118,97,108,105,100,32,115,121,110,116,97,120]⟩] 220],#[],[]⟩).heap 6 ((litsOf Rows.laid_math_bits_deBruijn32tab).toArray)) 7 ((litsOf Rows.laid_math_bits_deBruijn64tab).toArray)) 5 ((litsOf Rows.laid_internal_strconv_uint64pow10).toArray)) 4 (((List.range 16).flatMap fun i=>[Value.int .u8 (Lib.accLo i),Value.int .u8 (Lib.accHi i)]).toArray)) 1 (#[.iface 218 (.pointer (some ⟨low+0,0,none⟩))])) 0 (#[.iface 218 (.pointer (some ⟨low+1,0,none⟩))])) 3 ((Lib.firstTab.map fun z=>Value.int .u8 z).toArray) }
theorem laid_met (os:Os):laidMet Tryz.prog Rows.topReadsTellWhatMattersRow.laid ((laidWorld os).forCall (fun _ _=>0) ⟨#[],#[.agg #[.string ByteArray.empty,.slice none 0 0,.slice none 0 0,.slice none 0 0,.slice none 0 0,.int .i64 0],.slice none 0 0,.slice none 0 0],[]⟩).memory :=
 laidMet_of_run' 8 (by kernel_rfl) (by kernel_rfl)
theorem reads (os:Os) {H:Type} (enc:TypeId × Value→H):∃ places,DataW.whole enc Tryz.prog ((laidWorld os).forCall (fun _ _=>0) ⟨#[],#[.agg #[.string ByteArray.empty,.slice none 0 0,.slice none 0 0,.slice none 0 0,.slice none 0 0,.int .i64 0],.slice none 0 0,.slice none 0 0],[]⟩).memory Tryz.f4.params.toList Rows.topReadsTellWhatMattersSpec.vars false (#[.agg #[.string ByteArray.empty,.slice none 0 0,.slice none 0 0,.slice none 0 0,.slice none 0 0,.int .i64 0],.slice none 0 0,.slice none 0 0]:Array Value).toList 8=some ([.agg [.lit (.string []),.nil,.nil,.nil,.nil,.lit (.int .i64 0)],.nil,.nil],[],places) :=
 ⟨[],by kernel_rfl⟩
theorem lifted (os:Os) (started:os.Started) (H:Type) (enc:TypeId × Value→H) (F:Stop.Interp) :
  ReturnsInHanded {} Tryz.checked os 4 .any ((OpenSpec.ofChange Rows.topReadsTellWhatMattersSpec).preRow enc Tryz.prog Tryz.f4 Rows.topReadsTellWhatMattersRow.domain false Rows.topReadsTellWhatMattersRow.laid) (((OpenSpec.ofChange Rows.topReadsTellWhatMattersSpec).at F).post enc Tryz.prog Tryz.f4 false true false false):=by
 obtain⟨places,hx⟩:=reads os enc;refine returnsInHanded_of_row (C:=Tryz.checked) (s:=(OpenSpec.ofChange Rows.topReadsTellWhatMattersSpec)) own started (by kernel_rfl) Tryz.func4
  (witness_row_at (enc:=enc) (C:=Tryz.checked) false (laidWorld os) #[.agg #[.string ByteArray.empty,.slice none 0 0,.slice none 0 0,.slice none 0 0,.slice none 0 0,.int .i64 0],.slice none 0 0,.slice none 0 0] rfl (by kernel_rfl) (by kernel_rfl) (by kernel_rfl)
   (OpenSpec.preRow_of_cond 8 hx (by kernel_rfl) (fun k hk=>by cases hk) (by kernel_rfl) (laid_met os))) ?_
 intro W base args ds gs before hval hW _ hcond hsz hlaid hsh _;exact contract H enc W base args ds gs before hval hW (Tryz.laysM146.s1_3 W hsh) (pow_row hlaid)
theorem said:Rows.TopReadsTellWhatMattersSaid :=
 OpenClaim.holds_of_cond 4 Tryz.f4 rfl rfl rfl rfl rfl rfl rfl ⟨rfl,rfl,rfl,rfl,rfl⟩ rfl rfl rfl rfl rfl (by kernel_rfl) Tryz.func4 (by kernel_rfl)
  (of_decide_eq_true (by kernel_rfl)) (by unfold Func.isWrapper;first | (rw[if_pos (by decide +kernel)];kernel_rfl) | (rw[if_neg (by decide +kernel)];exact⟨rfl,rfl⟩))
  (fun os started H enc _ F=>by rw[OpenClaim.pre_eq_preRow];exact lifted os started H enc F)
theorem plain (f : FuncId) (fn : Func) (hf : Tryz.pinned.checked.prog.funcNamed "smithyard/smithyardtop.TopReadsTellWhatMatters" = some f) (hfn : Tryz.pinned.checked.prog.funcs[f]? = some fn) :
  true = Tryz.pinned.checked.prog.looks []∧∀ (j:Nat) t,fn.params[j]? = some t→Tryz.pinned.checked.prog.wantsStandIn t=false:=by
 obtain rfl : f = 4 := Option.some.inj ((show Tryz.prog.funcNamed "smithyard/smithyardtop.TopReadsTellWhatMatters" = some 4 by kernel_rfl).symm.trans hf) |>.symm;obtain rfl:fn = Tryz.f4:=(Option.some.inj (Tryz.func4.symm.trans hfn)).symm;refine⟨by kernel_rfl,fun j t ht=>?_⟩;rw[Tryz.params4]at ht;have hm:t = 26∨t = 27∨t = 27:=by have:=Array.mem_of_getElem? ht;simpa using this
 rcases hm with rfl | rfl | rfl
 ·exact(show Tryz.prog.wantsStandIn 26 = false by kernel_rfl)
 ·exact(show Tryz.prog.wantsStandIn 27 = false by kernel_rfl)
 ·exact(show Tryz.prog.wantsStandIn 27 = false by kernel_rfl)
theorem card:Rows.TopReadsTellWhatMattersCardSaid :=
 Claim7.holds_tied_plain_at .later [] _ _ _ _ said (fun _ h=>by cases h) (by kernel_rfl) (fun _ h=>by cases h) topReadsTellWhatMatters_row_tie rfl ⟨rfl,rfl⟩ (by kernel_rfl) rfl plain (by kernel_rfl)
end Go.Proofs.YtdiaabeollcjaaaGreatDoor.topReadsTellWhatMatters