/-
 Several texts of mine as one, without what is not wanted here: XLeP, XCFarmR, XLeR.
-/
import Derived.Test.YtbnkoefljcekbaaGreatDoorLbLC9
import Derived.Test.YtbnkoefljcekbaaGreatDoorLbHC9
import Derived.Test.YtbnkoefljcekbaaGreatDoorLbEC9
set_option linter.unusedVariables false
set_option linter.unusedSimpArgs false
set_option maxRecDepth 100000
set_option maxHeartbeats 8000000
namespace Go.Proofs.YtbnkoefljcekbaaGreatDoor.C9
open Go.ChangeShapes Go.WideShapes Go.Deep Go.RowKit Go.Maps
theorem Least_any (x:Farm) (w:World) (hx:RFarm.ok w x) (c:Int) (hF:farmF x=c) :
  Calls Tryz.prog 22 #[farmV x] w (LeAns x c w):=by
 unfold farmV;have hN:x.works.n=x.works.l.length:=hx.2.1.1.1.symm;obtain⟨W1,hW1⟩:∃ Y,w.alloc (.cells #[.slice x.workers.A x.workers.n x.workers.cap,.slice x.works.A x.works.n x.works.cap,.slice x.lost.A x.lost.n x.lost.cap,.int .i64 x.tries,.bool x.doubles] 26)=Y:=⟨_,rfl⟩;obtain⟨xb,hxb⟩:∃ b,w.heap.size=b:=⟨_,rfl⟩;have hba:Below w.heap.size w W1:=by rw[← hW1];exact(Below.refl _ _).alloc (Nat.le_refl _) _
 have hx1:=RFarm.mono _ _ _ hba hx;have c0:W1.cell? ⟨xb,0,none⟩=some (.slice x.workers.A x.workers.n x.workers.cap):=by rw[← hW1,← hxb];exact cell_new _ _ _ 0
 have c1:W1.cell? ⟨xb,1,none⟩=some (.slice x.works.A x.works.n x.works.cap):=by rw[← hW1,← hxb];exact cell_new _ _ _ 1
 have c2:W1.cell? ⟨xb,2,none⟩=some (.slice x.lost.A x.lost.n x.lost.cap):=by rw[← hW1,← hxb];exact cell_new _ _ _ 2
 have c3:W1.cell? ⟨xb,3,none⟩=some (.int .i64 x.tries):=by rw[← hW1,← hxb];exact cell_new _ _ _ 3
 have c4:W1.cell? ⟨xb,4,none⟩=some (.bool x.doubles):=by rw[← hW1,← hxb];exact cell_new _ _ _ 4
 obtain⟨Z,hZ⟩:∃ Z,LeAns x c w=Z:=⟨_,rfl⟩;rw[hZ];obtain⟨hZH,hxH,hx1H,hW1H,hxbH,hbaH,hFH,hNH⟩:=hq2 hZ (hq2 hx (hq2 hx1 (hqb hW1 hxb hba hF (Lib.hid hN))));clear hZ hx hx1 hW1 hxb hba hF hN;go_enter Tryz.func22,Tryz.ntmps22;go_wp2_with fail;rw[hW1H.out,hxbH.out];refine(farm_any x _ hx1H.out c hFH.out).mono ?_;rintro e w1 ⟨rfl,hb1⟩;have c0:=keepC hb1 c0;have c1:=keepC hb1 c1;have c2:=keepC hb1 c2;have c3:=keepC hb1 c3;have c4:=keepC hb1 c4;have hx2:=RFarm.mono _ _ _ hb1 hx1H.out;have hbb:=hbaH.out.trans (hb1.mono hbaH.out.size)
 by_cases h1:c=0
 ·subst h1;have hok:=farmOk_of hFH.out;obtain⟨N,hNe⟩:∃ n,x.works.n=n:=⟨_,rfl⟩;have hNl:x.works.l.length=N:=by rw[← hNe];exact hNH.out.symm
  have hN2:N≤200:=by have:=hok.wo.len;omega
  obtain⟨M,hMe⟩:∃ n,x.workers.n=n:=⟨_,rfl⟩;have hMl:x.workers.l.length=M:=by rw[← hMe];exact hx2.1.1.1
  have hM2:M≤50:=by have:=hok.wkn;omega
  have hxs:=hx2.2.1.1;have hws:=hx2.1.1;rw[hNe]at c1 hxs;rw[hMe]at c0 hws;obtain⟨xA,hxA⟩:∃ a,x.works.A=a:=⟨_,rfl⟩;obtain⟨xc,hxc⟩:∃ a,x.works.cap=a:=⟨_,rfl⟩;obtain⟨wA,hwA⟩:∃ a,x.workers.A=a:=⟨_,rfl⟩;obtain⟨wc,hwc⟩:∃ a,x.workers.cap=a:=⟨_,rfl⟩;rw[hxA]at c1 hxs;rw[hxc]at c1;rw[hwA]at c0 hws;rw[hwc]at c0;have hK:∀ W,Below w1.heap.size w1 W→W.cell? ⟨xb,0,none⟩=some (.slice wA M wc)∧W.cell? ⟨xb,1,none⟩=some (.slice xA N xc):=fun W h=>⟨keepC h c0,keepC h c1⟩;clear c2 c3 c4
  by_cases hN0:N=0
  ·have hz:((N:Int)==0)=true:=by rw[hN0];rfl
   have R:Z (.returned (.tuple #[.int .i64 0,.int .i64 0])) w1:=by
    rw[← hZH.out];exact⟨hbb,.inr (.inl ⟨rfl,List.length_eq_zero_iff.1 (by omega),rfl⟩)⟩
   clear hN0;obtain⟨RH,hb1H,hx2H,hbbH,hokH,hxsH,hwsH,hxAH,hxcH,hwAH,hwcH,hNeH,hMeH,hNlH,hMlH,hKH⟩:=hq2 R (hq2 hb1 (hq2 hx2 (hqb hbb hok hxs hws (hqc hxA hxc hwA hwc hNe hMe hNl hMl (Lib.hid hK)))));clear R hb1 hx2 hbb hok hxs hws hxA hxc hwA hwc hNe hMe hNl hMl hK;go_wp2;exact RH.out
  have hz:((N:Int)==0)=false:=by
   rw[beq_eq_false_iff_ne];omega
  have hwne:x.works.l≠[]:=fun e=>hN0 (by rw[← hNl,e];rfl)
  by_cases hM0:M=0
  ·have hzm:((M:Int)==0)=true:=by rw[hM0];rfl
   have R:Z (.returned (.tuple #[.int .i64 0,.int .i64 9])) w1:=by
    rw[← hZH.out];exact⟨hbb,.inr (.inr (.inl ⟨rfl,hwne,List.length_eq_zero_iff.1 (by omega),rfl⟩))⟩
   clear hM0;obtain⟨RH,hb1H,hx2H,hbbH,hokH,hxsH,hwsH,hxAH,hxcH,hwAH,hwcH,hNeH,hMeH,hNlH,hMlH,hKH,hwneH⟩:=hqc R hb1 hx2 hbb hok hxs hws hxA (hqc hxc hwA hwc hNe hMe hNl hMl hK (Lib.hid hwne));clear R hb1 hx2 hbb hok hxs hws hxA hxc hwA hwc hNe hMe hNl hMl hK hwne;go_wp2;exact RH.out
  have hzm:((M:Int)==0)=false:=by
   rw[beq_eq_false_iff_ne];omega
  have hkne:x.workers.l≠[]:=fun e=>hM0 (by rw[← hMl,e];rfl);have hst:LwRel x w1 (.int .i64 0) (.int .i64 0) (.int .i64 0) w1:=⟨0,Nat.zero_le _,rfl,rfl,rfl,Below.refl _ _⟩;obtain⟨hb1H,hx2H,hbbH,hokH,hxsH,hwsH,hxAH,hxcH,hwAH,hwcH,hNeH,hMeH,hNlH,hMlH,hKH,hwneH,hkneH,hstH⟩:=hq2 hb1 (hqc hx2 hbb hok hxs hws hxA hxc hwA (hqc hwc hNe hMe hNl hMl hK hwne hkne (Lib.hid hst)));clear hb1 hx2 hbb hok hxs hws hxA hxc hwA hwc hNe hMe hNl hMl hK hwne hkne hst;go_wp2_with fail;clear c0 c1
  go_loopw [5,6,28] (fun v p i wr=>LwRel x w1 v p i wr) (fun _ _ i _=>M-(intOf i).toNat)
  case atStart=>exact hstH.out
  case round =>
   clear hstH;obtain⟨k,hk,rfl,rfl,rfl,hb⟩:=hrel;have hbs:=hb.size;have hf:=fast_b hokH.out k;have hp:=pow_b hokH.out k
   by_cases hlt:k<M
   ·have hslw:=hwsH.out.below hb;obtain⟨bw,ow,hAw,_⟩:=hslw.2.1 (by omega);rw[hAw]at hslw ⊢;obtain⟨y,hy⟩:∃ y,x.workers.l[k]? = some y:=⟨x.workers.l[k]'(by have:=hMlH.out;omega),List.getElem?_eq_getElem _⟩;obtain⟨d0,d1,d2,d3,d4,d5,d6⟩:=cells_Worker hslw hy;have hm:=slot_b (hokH.out.wk y (List.mem_of_getElem? hy));have hf1:=fast_b hokH.out (k+1);have hp1:=pow_b hokH.out (k+1);rw[fast_take hy]at hf1;rw[pow_take hy]at hp1;have hft:=fast_take hy;have hpt:=pow_take hy;obtain⟨fa,hfa⟩:∃ v,fastF (x.workers.l.take k)=v:=⟨_,rfl⟩;obtain⟨pw,hpw⟩:∃ v,powF (x.workers.l.take k)=v:=⟨_,rfl⟩;rw[hfa]at hf hf1 hft;rw[hpw]at hp hp1 hpt;rw[hfa,hpw];obtain⟨yn,yh,ysl,ysp,yfr,yto,yst⟩:=y;simp only at d0 d1 d2 d3 d4 d5 d6 hm hf1 hp1 hft hpt;have g2:(wr.alloc (.cells #[.string yn,.slice yh.A yh.n yh.cap,.int .i64 ysl,.int .i64 ysp,.int .i64 yfr,.int .i64 yto,.slice yst.A yst.n yst.cap] 84)).cell? ⟨wr.heap.size,2,none⟩=some (.int .i64 ysl):=cell_new _ _ _ 2;have g3:(wr.alloc (.cells #[.string yn,.slice yh.A yh.n yh.cap,.int .i64 ysl,.int .i64 ysp,.int .i64 yfr,.int .i64 yto,.slice yst.A yst.n yst.cap] 84)).cell? ⟨wr.heap.size,3,none⟩=some (.int .i64 ysp):=cell_new _ _ _ 3;have w1':IntKind.i64.wrap (ysl*ysp)=ysl*ysp:=IntWalk.i64_in _ (by omega);have w2':IntKind.i64.wrap (pw+ysl*ysp)=pw+ysl*ysp:=IntWalk.i64_in _ (by omega);have R:LwRel x _ (.int .i64 (max fa ysp)) (.int .i64 (pw+ysl*ysp)) (.int .i64 ((k:Int)+1)) (wr.alloc (.cells #[.string yn,.slice yh.A yh.n yh.cap,.int .i64 ysl,.int .i64 ysp,.int .i64 yfr,.int .i64 yto,.slice yst.A yst.n yst.cap] 84)).drew :=
     ⟨k+1,(by have:=hMlH.out;omega),by go_num,by rw[hft],by rw[hpt],(hb.alloc hbs _).drew⟩
    clear hft hpt hf hp hf1 hp1 hm;obtain⟨RH,hbH,hslwH,hAwH,hyH,hfaH,hpwH⟩:=hq2 R (hq2 hb (hqb hslw hAw hy hfa (Lib.hid hpw)));clear R hb hslw hAw hy hfa hpw;go_wp2_with fail
    go_region
    go_wp2;refine⟨?rel,?measure⟩
    case measure=>(simp[intOf];omega)
    case rel=>first | exact RH.out | exact⟨rfl,RH.out⟩
   ·obtain rfl:k=M:=by have:=hMlH.out;omega
    have e:x.workers.l.take k=x.workers.l:=List.take_of_length_le (by have:=hMlH.out;omega);rw[e]at hf hp ⊢;obtain⟨fa,hfa⟩:∃ v,fastF x.workers.l=v:=⟨_,rfl⟩;obtain⟨pw,hpw⟩:∃ v,powF x.workers.l=v:=⟨_,rfl⟩;have hf0:=fast_pos hokH.out hkneH.out;have hp0:=pow_pos hokH.out hkneH.out;rw[hfa]at hf hf0;rw[hpw]at hp hp0;rw[hfa,hpw];clear e;obtain⟨c0,c1⟩:=hKH.out wr hb;have hst2:LxRel x wr (.int .i64 0) (.int .i64 0) wr:=⟨0,Nat.zero_le _,rfl,rfl,Below.refl _ _⟩;obtain⟨hbH,hst2H,hfaH,hpwH⟩:=hq2 hb (hq2 hst2 (hq2 hfa (Lib.hid hpw)));clear hb hst2 hfa hpw;go_wp2_with fail;clear c0 c1
    go_loopw [7,47] (fun v i wq=>LxRel x wr v i wq) (fun _ i _=>N-(intOf i).toNat)
    case atStart=>exact hst2H.out
    case round =>
     clear hst2H;obtain⟨j,hj,rfl,rfl,hbq⟩:=hrel;have hb3:=hbH.out.trans (hbq.mono hbH.out.size);have hs:=siz_b hokH.out j
     by_cases hjl:j<N
     ·have hslx:=hxsH.out.below hb3;obtain⟨bx,ox,hAx,_⟩:=hslx.2.1 (by omega);rw[hAx]at hslx ⊢;obtain⟨z,hz2⟩:∃ z,x.works.l[j]? = some z:=⟨x.works.l[j]'(by have:=hNlH.out;omega),List.getElem?_eq_getElem _⟩;obtain⟨e0,e1,e2,e3⟩:=cells_Work hslx hz2;have hs1:=siz_b hokH.out (j+1);have hst:=siz_take hz2;rw[hst]at hs1;obtain⟨sv,hsv⟩:∃ v,sizF (x.works.l.take j)=v:=⟨_,rfl⟩;rw[hsv]at hs hs1 hst ⊢;obtain⟨id,nd,sz,af⟩:=z;simp only at e0 e1 e2 e3 hs1 hst;have g2:(wr.alloc (.cells #[.string id,.slice nd.A nd.n nd.cap,.int .i64 sz,.slice af.A af.n af.cap] 86)).cell? ⟨wr.heap.size,2,none⟩=some (.int .i64 sz):=cell_new _ _ _ 2;have w1':IntKind.i64.wrap (sv+sz)=sv+sz:=IntWalk.i64_in _ (by omega);have R:∀ W,Below wr.heap.size wr W→LxRel x _ (.int .i64 (sv+sz)) (.int .i64 ((j:Int)+1)) W:=fun W h=>⟨j+1,(by have:=hNlH.out;omega),by go_num,by rw[hst],hbq.trans (h.mono hbq.size)⟩;have R:=R (wr.alloc (.cells #[.string id,.slice nd.A nd.n nd.cap,.int .i64 sz,.slice af.A af.n af.cap] 86)) ((Below.refl _ _).alloc (Nat.le_refl _) _);clear hst hs hs1;obtain⟨RH,hbqH,hb3H,hslxH,hAxH,hz2H,hsvH⟩:=hq2 R (hq2 hbq (hqb hb3 hslx hAx hz2 (Lib.hid hsv)));clear R hbq hb3 hslx hAx hz2 hsv;go_wp2;refine⟨?rel,?measure⟩
      case measure=>(simp[intOf];omega)
      case rel=>first | exact RH.out | exact⟨rfl,RH.out⟩
     ·obtain rfl:j=N:=by have:=hNlH.out;omega
      have e:x.works.l.take j=x.works.l:=List.take_of_length_le (by have:=hNlH.out;omega);rw[e]at hs ⊢;obtain⟨sv,hsv⟩:∃ v,sizF x.works.l=v:=⟨_,rfl⟩;rw[hsv]at hs ⊢;clear e;obtain⟨c0,c1⟩:=hKH.out wr hb3;have hslx:=hxsH.out.below hb3;have hcr:=crit_any xA j xc x.works.l wr hslx hokH.out.wo;obtain⟨hbqH,hb3H,hslxH,hsvH,hcrH⟩:=hqb hbq hb3 hslx hsv (Lib.hid hcr);clear hbq hb3 hslx hsv hcr;go_wp2_with fail;refine hcrH.out.mono ?_;rintro e w5 ⟨B,S,rfl,hS,hC,hCb,hB1,hB2,hb5⟩;have hSl:S.length=j:=hS.len;have hwb:=way_b hSl hCb j;rw[List.take_of_length_le (by omega)]at hwb;have hS0:S≠[]:=fun e=>hN0 (by rw[← hSl,e];rfl);have hSn:∀ a∈S,0≤a:=fun a ha=>by
       obtain⟨i,hi,e⟩:=List.mem_iff_getElem.1 ha;have:=(hCb i (by omega)).1;unfold gt at this;rw[List.getD_eq_getElem?_getD,List.getElem?_eq_getElem hi,Option.getD_some,e]at this;exact this
      have hmx:=way_max hS0 hSn;have hmc:=Tryz.slices_Max_int B 0 j j S w5 (by omega) (by omega) (by omega) (fun i hi=>by
       have h1:=(hS.cells i _ (List.getElem?_eq_getElem hi)).1;rw[Nat.zero_add,List.getD_eq_getElem?_getD,List.getElem?_eq_getElem hi,Option.getD_some];exact h1)
      rw[List.take_of_length_le (by omega),hmx]at hmc;obtain⟨wv,hwv⟩:∃ v,wayF S=v:=⟨_,rfl⟩;rw[hwv]at hmc hwb;clear c0 c1;obtain⟨hSH,hCH,hCbH,hb5H,hS0H,hSnH,hmxH,hmcH,hwvH,hSlH⟩:=hq2 hS (hqc hC hCb hb5 hS0 hSn hmx hmc hwv (Lib.hid hSl));clear hS hC hCb hb5 hS0 hSn hmx hmc hwv hSl;go_wp2_with fail;refine hmcH.out.mono ?_;rintro e w6 ⟨rfl,rfl⟩;go_wp2_with fail;refine(up_any wv fa _ hwb.1 hwb.2 hf0 (by omega) _ rfl).mono ?_;rintro e w7 ⟨rfl,hb7⟩;have hb7H:=Lib.hid hb7;clear hb7;go_wp2_with fail;refine(up_any sv pw _ hs.1 hs.2 hp0 hp.2 _ rfl).mono ?_;rintro e w8 ⟨rfl,hb8⟩;have R:Z (.returned (.tuple #[.int .i64 (max (upI wv fa) (upI sv pw)),.int .i64 0])) w8:=by
       rw[← hZH.out];have q1:=hbbH.out.trans (hb3H.out.mono hbbH.out.size);have q2:=q1.trans (hb5H.out.mono q1.size);have q3:=q2.trans (hb7H.out.mono q2.size);refine⟨q3.trans (hb8.mono q3.size),.inr (.inr (.inr ⟨rfl,hwneH.out,hkneH.out,S,by rw[hSlH.out];exact hNlH.out.symm,by rw[hNlH.out];exact hCH.out,?_⟩))⟩;unfold leV;rw[hwvH.out,hfaH.out,hsvH.out,hpwH.out]
      clear hwb hs hp hf hf0 hp0;obtain⟨RH,hb8H⟩:=hq2 R (Lib.hid hb8);clear R hb8;go_wp2;exact RH.out
 ·have R:Z (.returned (.tuple #[.int .i64 0,.int .i64 c])) w1:=by
   rw[← hZH.out];exact⟨hbb,.inl ⟨h1,rfl⟩⟩
  have h1':(c != 0)=true:=by simpa using h1
  clear h1;obtain⟨RH,hb1H,hx2H,hbbH⟩:=hq2 R (hq2 hb1 (hq2 hx2 (Lib.hid hbb)));clear R hb1 hx2 hbb;go_wp2;exact RH.out
end Go.Proofs.YtbnkoefljcekbaaGreatDoor.C9
namespace Go.Proofs.YtbnkoefljcekbaaGreatDoor.C9
open Go.ChangeShapes Go.WideShapes Go.Deep Go.RowKit
theorem rfarm_any (x:Farm) (w:World) (hx:RFarm.ok w x) (c:Int) (hF:farmF x=c) :
  Calls Tryz.prog 13 #[farmV x] w (CfAns c w):=by
 obtain⟨hx0,hx1,hx2,hx3,hx4⟩:=hx;unfold farmV;obtain⟨Z,hZ⟩:∃ Z,CfAns c w=Z:=⟨_,rfl⟩;have hZ':∀ W,Below w.heap.size w W→Z (.returned (.int .i64 c)) W:=fun W h=>by rw[← hZ];exact⟨rfl,h⟩
 rw[hZ];clear hZ;unfold farmF at hF;obtain⟨⟨wA,wn,wc,wsl⟩,⟨xA,xn,xc,xsl⟩,⟨lA,ln,lc,lsl⟩,tr,db⟩:=x;simp only at hx0 hx1 hx2 hx3 hx4 hF ⊢;obtain⟨W1,hW1⟩:∃ Y,w.alloc (.cells #[.slice wA wn wc,.slice xA xn xc,.slice lA ln lc,.int .i64 tr,.bool db] 26)=Y:=⟨_,rfl⟩;obtain⟨xb,hxb⟩:∃ b,w.heap.size=b:=⟨_,rfl⟩;have hba:Below w.heap.size w W1:=by rw[← hW1];exact(Below.refl _ _).alloc (Nat.le_refl _) _
 have c0:W1.cell? ⟨xb,0,none⟩=some (.slice wA wn wc):=by rw[← hW1,← hxb];exact cell_new _ _ _ 0
 have c1:W1.cell? ⟨xb,1,none⟩=some (.slice xA xn xc):=by rw[← hW1,← hxb];exact cell_new _ _ _ 1
 have c2:W1.cell? ⟨xb,2,none⟩=some (.slice lA ln lc):=by rw[← hW1,← hxb];exact cell_new _ _ _ 2
 have c3:W1.cell? ⟨xb,3,none⟩=some (.int .i64 tr):=by rw[← hW1,← hxb];exact cell_new _ _ _ 3
 have hw1:SlAt RWorker W1 wA wn wsl:=hx0.1.below hba;have hw2:SlAt RWork W1 xA xn xsl:=hx1.1.below hba;have hw3:SlAt RLoss W1 lA ln lsl:=hx2.1.below hba;have hm2:ln≤lc∧lc≤maxLen:=⟨hx2.2.1,hx2.2.2.1⟩;have hC:∀ W,Below W1.heap.size W1 W→W.cell? ⟨xb,2,none⟩=some (.slice lA ln lc)∧W.cell? ⟨xb,0,none⟩=some (.slice wA wn wc)∧W.cell? ⟨xb,3,none⟩=some (.int .i64 tr):=fun W h=>⟨keepC h c2,keepC h c0,keepC h c3⟩;have hll:lsl.length=ln:=hw3.1;have hwl:wsl.length=wn:=hw1.1;obtain⟨f1,hf1⟩:∃ f,workersF wsl=f:=⟨_,rfl⟩;obtain⟨f2,hf2⟩:∃ f,worksF xsl=f:=⟨_,rfl⟩;rw[hf1,hf2]at hF;have RZ:∀ W,Below W1.heap.size W1 W→Z (.returned (.int .i64 c)) W:=fun W h=>hZ' W (hba.trans (h.mono hba.size));obtain⟨hCH,hZ'H,hx0H,hx1H,hx2H,hx3H,hx4H,hW1H,hxbH,hbaH,hw1H,hw2H,hw3H,hFH,hf1H,hf2H,hllH,hwlH,RZH⟩:=hq2 hC (hq2 hZ' (hqc hx0 hx1 hx2 hx3 hx4 hW1 hxb hba (hqc hw1 hw2 hw3 hF hf1 hf2 hll hwl (Lib.hid RZ))));clear hC hZ' hx0 hx1 hx2 hx3 hx4 hW1 hxb hba hw1 hw2 hw3 hF hf1 hf2 hll hwl RZ;go_enter Tryz.func13,Tryz.ntmps13;go_wp2_with fail;rw[hW1H.out,hxbH.out];refine(rworkers_any wA wn wc wsl _ hw1H.out f1 hf1H.out).mono ?_;rintro e w1 ⟨rfl,hb1⟩;have c0:=keepC hb1 c0;have c1:=keepC hb1 c1;have c2:=keepC hb1 c2;have c3:=keepC hb1 c3;have hF:=hFH.out;clear hFH
 by_cases h1:f1=0
 ·subst h1;rw[if_pos rfl]at hF;obtain⟨hb1H,hFH⟩:=hq2 hb1 (Lib.hid hF);clear hb1 hF;go_wp2_with fail;refine(rworks_any xA xn xc xsl _ (hw2H.out.below hb1H.out) f2 hf2H.out).mono ?_;rintro e w2 ⟨rfl,hb2⟩;have c0:=keepC hb2 c0;have c2:=keepC hb2 c2;have c3:=keepC hb2 c3;have hb2:=hb1H.out.trans (hb2.mono hb1H.out.size);have hF:=hFH.out;clear hFH
  by_cases h2:f2=0
  ·subst h2;rw[if_pos rfl,hllH.out]at hF
   by_cases h3:ln≤200
   ·rw[if_pos h3]at hF;obtain⟨d,hd⟩:∃ d,lossErr wsl none lsl=d:=⟨_,rfl⟩;rw[hd]at hF;have hst:LosRel wsl lsl d W1 (.int .i64 0) w2:=⟨0,Nat.zero_le _,rfl,hd,hb2⟩;have hrise:wsl.length≤50∧wsl.Pairwise fun a b=>cmpS a.name b.name = -1:=by
     have h:=hf1H.out;unfold workersF at h
     by_cases h6:wsl.length≤50
     ·rw[if_pos h6]at h;exact⟨h6,(workersErr_ok _ _ h).2.1⟩
     ·rw[if_neg h6]at h;exact absurd h (by decide)
    have he5:(5:Int)=d→c=5:=fun e=>by rw[← e,if_neg (by decide)]at hF;exact hF.symm
    have he1:(1:Int)=d→c=1:=fun e=>by rw[← e,if_neg (by decide)]at hF;exact hF.symm
    have he8:(8:Int)=d→c=8:=fun e=>by rw[← e,if_neg (by decide)]at hF;exact hF.symm
    have he0:(0:Int)=d→(if inR 1 10 tr=true then 0 else 1)=c:=fun e=>by rw[← e,if_pos rfl]at hF;exact hF
    clear hF;obtain⟨hb2H,hstH,hdH,hriseH,he5H,he1H,he8H,he0H⟩:=hq2 hb2 (hq2 hst (hq2 hd (hqb hrise he5 he1 he8 (Lib.hid he0))));clear hb2 hst hd hrise he5 he1 he8 he0;go_wp2_with fail;clear c0 c1 c2 c3
    go_loopw [26] (fun i w5=>LosRel wsl lsl d W1 i w5) (fun i _=>ln-(intOf i).toNat)
    case atStart=>exact hstH.out
    case round =>
     clear hstH;obtain⟨k,hk,rfl,hck,hb⟩:=hrel;have hkl:k≤ln:=by have:=hllH.out;omega
     have hbs:=hb.size;obtain⟨c2,c0,c3⟩:=hCH.out wr hb
     by_cases hlt:k<ln
     ·have hsl:=hw3H.out.below hb;obtain⟨bl,ol,hA9,_⟩:=hsl.2.1 (by omega);subst hA9;obtain⟨y,hy⟩:∃ y,lsl[k]? = some y:=⟨lsl[k]'(by have:=hllH.out;omega),List.getElem?_eq_getElem _⟩;obtain⟨d0,d1⟩:=cells_Loss hsl hy;have hok:=hsl.2.2 y (List.mem_of_getElem? hy);rw[drop_lo hy,lossErr]at hck;have hkl2:k+1≤lsl.length:=by have:=hllH.out;omega
      have hpn:prevLo lsl (k+1)=some y:=by rw[prevLo,if_neg (by omega),show k+1-1=k from rfl,hy]
      obtain⟨nm,mt⟩:=y;simp only at d0 d1 hck;have hba:=hb.alloc hbs (.cells #[.string nm,.int .i64 mt] 71);have hbas:=hba.size;have c0a:=keepC ((Below.refl wr.heap.size wr).alloc (Nat.le_refl _) (.cells #[.string nm,.int .i64 mt] 71)) c0;have hwk:=(hw1H.out.below hba);have n5:hasNm wsl nm=false→c=5:=fun h=>he5H.out (by rw[h]at hck;rw[if_neg (by decide)]at hck;exact hck);obtain⟨hn,hhn⟩:∃ b,hasNm wsl nm=b:=⟨_,rfl⟩;rw[hhn]at n5;obtain⟨hyH,hckH,hbH,hbaH,hbasH,hokH,hpnH,hkl2H,hwkH,hslH,n5H,hhnH⟩:=hq2 hy (hq2 hck (hq2 hb (hqc hba hbas hok hpn hkl2 hwk hsl n5 (Lib.hid hhn))));clear hy hck hb hba hbas hok hpn hkl2 hwk hsl n5 hhn;go_wp2_with fail;refine(workerOf_any wA wn wc wsl nm _ (by have:=hriseH.out.1;have:=hwlH.out;omega) hwkH.out).mono ?_;rintro e w4 ⟨rfl,hw4⟩;have hwf:wkF wsl nm=if hn=true then ((ixNm wsl nm:Nat):Int) else -1:=by unfold wkF;rw[hhnH.out]
      rw[hwf];have q0:w4.cell? ⟨wr.heap.size,0,none⟩=some (.string nm):=(hw4.cell (by simp)).trans (cell_new _ _ _ 0);have q1:w4.cell? ⟨wr.heap.size,1,none⟩=some (.int .i64 mt):=(hw4.cell (by simp)).trans (cell_new _ _ _ 1);have hb4:=hbaH.out.trans (hw4.mono hbasH.out);clear c0 c0a c2 c3 d0 d1;have c2:=(hCH.out w4 hb4).1
      cases hn
      ·obtain rfl:=n5H.out rfl;have R:=RZH.out _ hb4;rw[if_neg (by decide)];clear hwf;obtain⟨RH,hb4H,hw4H⟩:=hq2 R (hq2 hb4 (Lib.hid hw4));clear R hb4 hw4;go_wp2;exact RH.out
      ·have hck:=hckH.out;clear hckH;rw[if_pos hhnH.out]at hck;rw[if_pos rfl];clear hwf;obtain⟨ixn,hixn⟩:∃ v,ixNm wsl nm=v:=⟨_,rfl⟩;rw[hixn];have dix:decide ((ixn:Int)<0)=false:=decide_eq_false (by omega);clear hixn
       by_cases i1:inR 0 1000000000 mt=true
       ·rw[if_pos i1]at hck
        by_cases hk0:k=0
        ·subst hk0;have R:∀ nq,LosRel wsl lsl d W1 (.int .i64 1) (w4.drewN nq):=by
          refine fun nq=>⟨1,hkl2H.out,by go_num,?_,bel_drewN hb4 nq⟩;rw[prevLo,if_pos rfl,Option.map_none,if_neg (by decide)]at hck;rw[show prevLo lsl 1=_ from hpnH.out];exact hck
         obtain⟨RH,hckH,hb4H,hw4H⟩:=hq2 R (hq2 hck (hq2 hb4 (Lib.hid hw4)));clear R hck hb4 hw4;go_wp2_with (go_at_call 47;refine(within_r _ _ _ _).mono ?_;rintro e wz ⟨rfl,rfl⟩)
         go_quiet (fail)
         go_wp2;refine⟨?rel,?measure⟩
         case measure=>(simp[intOf];omega)
         case rel=>first | exact(RH.out _) | exact⟨rfl,(RH.out _)⟩
        ·obtain⟨j,rfl⟩:∃ j,k=j+1:=⟨k-1,by omega⟩;obtain⟨y,hy⟩:∃ y,lsl[j]? = some y:=⟨lsl[j]'(by have:=hllH.out;omega),List.getElem?_eq_getElem _⟩;obtain⟨d0,d1⟩:=cells_Loss (hw3H.out.below hb4) hy;have hpr:prevLo lsl (j+1)=some y:=by rw[prevLo,if_neg (by omega),show j+1-1=j from rfl,hy]
         rw[hpr,Option.map_some]at hck;clear hpr;obtain⟨ynm,ymt⟩:=y;simp only at d0 d1;have f0:(0:Int)≤(j:Int):=by omega
         have f1:(j:Int)<(ln:Int):=by omega
         have hln2:ln≤200:=h3;have f2:IntKind.i64.wrap ((j:Int)+1-1)=(j:Int):=by rw[show (j:Int)+1-1=(j:Int) by omega];exact IntWalk.i64_in _ (by omega)
         have f3:(j:Int).toNat=j:=by omega
         have f4:IntKind.i64.wrap (j:Int)=(j:Int):=IntWalk.i64_in _ (by omega);have f5:IntKind.i64.wrap (((j+1:Nat):Int)-1)=(j:Int):=by rw[show ((j+1:Nat):Int)-1=(j:Int) by omega];exact f4
         have hLE:lossLe ⟨nm,mt⟩ ⟨ynm,ymt⟩=(decide (mt<ymt)||(decide (mt=ymt)&&sle nm ynm)):=rfl;rw[hLE]at hck;clear hLE
         by_cases hA:mt<ymt
         ·have dA:decide (mt<ymt)=true:=decide_eq_true hA;rw[dA,Bool.true_or,if_pos rfl]at hck;obtain rfl:=he8H.out hck;have R:∀ nq,Z (.returned (.int .i64 8)) (w4.drewN nq):=fun nq=>RZH.out _ (bel_drewN hb4 nq);obtain⟨hckH,hb4H,hw4H,RH,hyH⟩:=hqb hck hb4 hw4 R (Lib.hid hy);clear hck hb4 hw4 R hy;go_wp2_with (go_at_call 47;refine(within_r _ _ _ _).mono ?_;rintro e wz ⟨rfl,rfl⟩)
          go_quiet (fail)
          go_wp2;exact RH.out _
         ·have dA:decide (mt<ymt)=false:=decide_eq_false hA;rw[dA,Bool.false_or]at hck
          by_cases hB:mt=ymt
          ·have dB:(mt==ymt)=true:=by simpa using hB
           rw[decide_eq_true hB,Bool.true_and]at hck
           cases hle:sle nm ynm
           ·have hle':(Op.bytesLess nm.toList ynm.toList||nm.toList==ynm.toList)=false:=hle;rw[hle,if_neg (by decide)]at hck;have R:∀ nq,LosRel wsl lsl d W1 (.int .i64 (j+1+1)) (w4.drewN nq):=by
             refine fun nq=>⟨j+1+1,hkl2H.out,by go_num,?_,bel_drewN hb4 nq⟩;rw[hpnH.out];exact hck
            clear hB;obtain⟨hckH,hleH,hb4H,hw4H,RH,hyH⟩:=hq2 hck (hqb hle hb4 hw4 R (Lib.hid hy));clear hck hle hb4 hw4 R hy;go_wp2_with (go_at_call 47;refine(within_r _ _ _ _).mono ?_;rintro e wz ⟨rfl,rfl⟩)
            go_quiet (fail)
            go_wp2;refine⟨?rel,?measure⟩
            case measure=>(simp[intOf];omega)
            case rel=>first | exact(RH.out _) | exact⟨rfl,(RH.out _)⟩
           ·have hle':(Op.bytesLess nm.toList ynm.toList||nm.toList==ynm.toList)=true:=hle;rw[hle,if_pos rfl]at hck;obtain rfl:=he8H.out hck;have R:∀ nq,Z (.returned (.int .i64 8)) (w4.drewN nq):=fun nq=>RZH.out _ (bel_drewN hb4 nq);clear hB;obtain⟨hckH,hleH,hb4H,hw4H,RH,hyH⟩:=hq2 hck (hqb hle hb4 hw4 R (Lib.hid hy));clear hck hle hb4 hw4 R hy;go_wp2_with (go_at_call 47;refine(within_r _ _ _ _).mono ?_;rintro e wz ⟨rfl,rfl⟩)
            go_quiet (fail)
            go_wp2;exact RH.out _
          ·have dB:(mt==ymt)=false:=by simpa using hB
           rw[decide_eq_false hB,Bool.false_and,if_neg (by decide)]at hck;have R:∀ nq,LosRel wsl lsl d W1 (.int .i64 (j+1+1)) (w4.drewN nq):=by
            refine fun nq=>⟨j+1+1,hkl2H.out,by go_num,?_,bel_drewN hb4 nq⟩;rw[hpnH.out];exact hck
           clear hB;obtain⟨hckH,hb4H,hw4H,RH,hyH⟩:=hqb hck hb4 hw4 R (Lib.hid hy);clear hck hb4 hw4 R hy;go_wp2_with (go_at_call 47;refine(within_r _ _ _ _).mono ?_;rintro e wz ⟨rfl,rfl⟩)
           go_quiet (fail)
           go_wp2;refine⟨?rel,?measure⟩
           case measure=>(simp[intOf];omega)
           case rel=>first | exact(RH.out _) | exact⟨rfl,(RH.out _)⟩
       ·rw[if_neg i1]at hck;obtain rfl:=he1H.out hck;have R:=RZH.out _ hb4;have i1':inR 0 1000000000 mt=false:=by simpa using i1
        clear i1;obtain⟨RH,hb4H,hw4H,hckH⟩:=hq2 R (hq2 hb4 (hq2 hw4 (Lib.hid hck)));clear R hb4 hw4 hck;go_wp2_with (go_at_call 47;refine(within_r _ _ _ _).mono ?_;rintro e wz ⟨rfl,rfl⟩);exact RH.out
     ·obtain rfl:k=ln:=by omega
      have e:lsl.drop k = []:=List.drop_eq_nil_of_le (by have:=hllH.out;omega);rw[e,lossErr]at hck;have hF:=he0H.out hck;clear e hck
      by_cases i1:inR 1 10 tr=true
      ·rw[if_pos i1]at hF;subst hF;have R:=RZH.out _ hb;obtain⟨RH,hbH⟩:=hq2 R (Lib.hid hb);clear R hb;go_wp2_with (go_at_call 47;refine(within_r _ _ _ _).mono ?_;rintro e wz ⟨rfl,rfl⟩);exact RH.out
      ·rw[if_neg i1]at hF;subst hF;have i1':inR 1 10 tr=false:=by simpa using i1
       clear i1;have R:=RZH.out _ hb;obtain⟨RH,hbH⟩:=hq2 R (Lib.hid hb);clear R hb;go_wp2_with (go_at_call 47;refine(within_r _ _ _ _).mono ?_;rintro e wz ⟨rfl,rfl⟩);exact RH.out
   ·rw[if_neg h3]at hF;subst hF;have R:=RZH.out _ hb2;obtain⟨RH,hb2H⟩:=hq2 R (Lib.hid hb2);clear R hb2;go_wp2;exact RH.out
  ·rw[if_neg h2]at hF;subst hF;have R:=RZH.out _ hb2;have h2':(f2 != 0)=true:=by simpa using h2
   clear h2;obtain⟨RH,hb2H⟩:=hq2 R (Lib.hid hb2);clear R hb2;go_wp2;exact RH.out
 ·rw[if_neg h1]at hF;subst hF;have R:=RZH.out _ hb1;have h1':(f1 != 0)=true:=by simpa using h1
  clear h1;obtain⟨RH,hb1H⟩:=hq2 R (Lib.hid hb1);clear R hb1;go_wp2;exact RH.out
end Go.Proofs.YtbnkoefljcekbaaGreatDoor.C9
namespace Go.Proofs.YtbnkoefljcekbaaGreatDoor.C9
open Go.ChangeShapes Go.WideShapes Go.Deep Go.RowKit Go.Maps
theorem rLeast_any (x:Farm) (w:World) (hx:RFarm.ok w x) (c:Int) (hF:farmF x=c) :
  Calls Tryz.prog 23 #[farmV x] w (LeAns x c w):=by
 unfold farmV;have hN:x.works.n=x.works.l.length:=hx.2.1.1.1.symm;obtain⟨W1,hW1⟩:∃ Y,w.alloc (.cells #[.slice x.workers.A x.workers.n x.workers.cap,.slice x.works.A x.works.n x.works.cap,.slice x.lost.A x.lost.n x.lost.cap,.int .i64 x.tries,.bool x.doubles] 26)=Y:=⟨_,rfl⟩;obtain⟨xb,hxb⟩:∃ b,w.heap.size=b:=⟨_,rfl⟩;have hba:Below w.heap.size w W1:=by rw[← hW1];exact(Below.refl _ _).alloc (Nat.le_refl _) _
 have hx1:=RFarm.mono _ _ _ hba hx;have c0:W1.cell? ⟨xb,0,none⟩=some (.slice x.workers.A x.workers.n x.workers.cap):=by rw[← hW1,← hxb];exact cell_new _ _ _ 0
 have c1:W1.cell? ⟨xb,1,none⟩=some (.slice x.works.A x.works.n x.works.cap):=by rw[← hW1,← hxb];exact cell_new _ _ _ 1
 have c2:W1.cell? ⟨xb,2,none⟩=some (.slice x.lost.A x.lost.n x.lost.cap):=by rw[← hW1,← hxb];exact cell_new _ _ _ 2
 have c3:W1.cell? ⟨xb,3,none⟩=some (.int .i64 x.tries):=by rw[← hW1,← hxb];exact cell_new _ _ _ 3
 have c4:W1.cell? ⟨xb,4,none⟩=some (.bool x.doubles):=by rw[← hW1,← hxb];exact cell_new _ _ _ 4
 obtain⟨Z,hZ⟩:∃ Z,LeAns x c w=Z:=⟨_,rfl⟩;rw[hZ];obtain⟨hZH,hxH,hx1H,hW1H,hxbH,hbaH,hFH,hNH⟩:=hq2 hZ (hq2 hx (hq2 hx1 (hqb hW1 hxb hba hF (Lib.hid hN))));clear hZ hx hx1 hW1 hxb hba hF hN;go_enter Tryz.func23,Tryz.ntmps23;go_wp2_with fail;rw[hW1H.out,hxbH.out];refine(rfarm_any x _ hx1H.out c hFH.out).mono ?_;rintro e w1 ⟨rfl,hb1⟩;have c0:=keepC hb1 c0;have c1:=keepC hb1 c1;have c2:=keepC hb1 c2;have c3:=keepC hb1 c3;have c4:=keepC hb1 c4;have hx2:=RFarm.mono _ _ _ hb1 hx1H.out;have hbb:=hbaH.out.trans (hb1.mono hbaH.out.size)
 by_cases h1:c=0
 ·subst h1;have hok:=farmOk_of hFH.out;obtain⟨N,hNe⟩:∃ n,x.works.n=n:=⟨_,rfl⟩;have hNl:x.works.l.length=N:=by rw[← hNe];exact hNH.out.symm
  have hN2:N≤200:=by have:=hok.wo.len;omega
  obtain⟨M,hMe⟩:∃ n,x.workers.n=n:=⟨_,rfl⟩;have hMl:x.workers.l.length=M:=by rw[← hMe];exact hx2.1.1.1
  have hM2:M≤50:=by have:=hok.wkn;omega
  have hxs:=hx2.2.1.1;have hws:=hx2.1.1;rw[hNe]at c1 hxs;rw[hMe]at c0 hws;obtain⟨xA,hxA⟩:∃ a,x.works.A=a:=⟨_,rfl⟩;obtain⟨xc,hxc⟩:∃ a,x.works.cap=a:=⟨_,rfl⟩;obtain⟨wA,hwA⟩:∃ a,x.workers.A=a:=⟨_,rfl⟩;obtain⟨wc,hwc⟩:∃ a,x.workers.cap=a:=⟨_,rfl⟩;rw[hxA]at c1 hxs;rw[hxc]at c1;rw[hwA]at c0 hws;rw[hwc]at c0;have hK:∀ W,Below w1.heap.size w1 W→W.cell? ⟨xb,0,none⟩=some (.slice wA M wc)∧W.cell? ⟨xb,1,none⟩=some (.slice xA N xc):=fun W h=>⟨keepC h c0,keepC h c1⟩;clear c2 c3 c4
  by_cases hN0:N=0
  ·have hz:((N:Int)==0)=true:=by rw[hN0];rfl
   have R:Z (.returned (.tuple #[.int .i64 0,.int .i64 0])) w1:=by
    rw[← hZH.out];exact⟨hbb,.inr (.inl ⟨rfl,List.length_eq_zero_iff.1 (by omega),rfl⟩)⟩
   clear hN0;obtain⟨RH,hb1H,hx2H,hbbH,hokH,hxsH,hwsH,hxAH,hxcH,hwAH,hwcH,hNeH,hMeH,hNlH,hMlH,hKH⟩:=hq2 R (hq2 hb1 (hq2 hx2 (hqb hbb hok hxs hws (hqc hxA hxc hwA hwc hNe hMe hNl hMl (Lib.hid hK)))));clear R hb1 hx2 hbb hok hxs hws hxA hxc hwA hwc hNe hMe hNl hMl hK;go_wp2;exact RH.out
  have hz:((N:Int)==0)=false:=by
   rw[beq_eq_false_iff_ne];omega
  have hwne:x.works.l≠[]:=fun e=>hN0 (by rw[← hNl,e];rfl)
  by_cases hM0:M=0
  ·have hzm:((M:Int)==0)=true:=by rw[hM0];rfl
   have R:Z (.returned (.tuple #[.int .i64 0,.int .i64 9])) w1:=by
    rw[← hZH.out];exact⟨hbb,.inr (.inr (.inl ⟨rfl,hwne,List.length_eq_zero_iff.1 (by omega),rfl⟩))⟩
   clear hM0;obtain⟨RH,hb1H,hx2H,hbbH,hokH,hxsH,hwsH,hxAH,hxcH,hwAH,hwcH,hNeH,hMeH,hNlH,hMlH,hKH,hwneH⟩:=hqc R hb1 hx2 hbb hok hxs hws hxA (hqc hxc hwA hwc hNe hMe hNl hMl hK (Lib.hid hwne));clear R hb1 hx2 hbb hok hxs hws hxA hxc hwA hwc hNe hMe hNl hMl hK hwne;go_wp2;exact RH.out
  have hzm:((M:Int)==0)=false:=by
   rw[beq_eq_false_iff_ne];omega
  have hkne:x.workers.l≠[]:=fun e=>hM0 (by rw[← hMl,e];rfl);have hcr:=rcrit_any xA N xc x.works.l w1 hxs hok.wo;obtain⟨hb1H,hx2H,hbbH,hokH,hxsH,hwsH,hxAH,hxcH,hwAH,hwcH,hNeH,hMeH,hNlH,hMlH,hKH,hwneH,hkneH,hcrH⟩:=hq2 hb1 (hqc hx2 hbb hok hxs hws hxA hxc hwA (hqc hwc hNe hMe hNl hMl hK hwne hkne (Lib.hid hcr)));clear hb1 hx2 hbb hok hxs hws hxA hxc hwA hwc hNe hMe hNl hMl hK hwne hkne hcr;go_wp2_with fail;refine hcrH.out.mono ?_;rintro e w5 ⟨B,S,rfl,hS,hC,hCb,hB1,hB2,hb5⟩;have hSl:S.length=N:=hS.len;have hst:LyRel x S w5 (.int .i64 0) (.int .i64 0) (.int .i64 0) w5:=⟨0,Nat.zero_le _,rfl,rfl,rfl,Below.refl _ _⟩;clear c0 c1;obtain⟨hSH,hCH,hCbH,hb5H,hSlH,hstH⟩:=hq2 hS (hqb hC hCb hb5 hSl (Lib.hid hst));clear hS hC hCb hb5 hSl hst;go_wp2_with fail
  go_loopw [5,6,30] (fun v p i wr=>LyRel x S w5 v p i wr) (fun _ _ i _=>N-(intOf i).toNat)
  case atStart=>exact hstH.out
  case round =>
   clear hstH;obtain⟨k,hk,rfl,rfl,rfl,hb⟩:=hrel;have hb15:=hb5H.out.trans (hb.mono hb5H.out.size);have hwb:=way_b hSlH.out hCbH.out k;have hs:=siz_b hokH.out k
   by_cases hlt:k<N
   ·obtain⟨c0,c1⟩:=hKH.out wr hb15;have hslx:=hxsH.out.below hb15;obtain⟨bx,ox,hAx,_⟩:=hslx.2.1 (by omega);rw[hAx]at hslx c1;obtain⟨z,hz2⟩:∃ z,x.works.l[k]? = some z:=⟨x.works.l[k]'(by have:=hNlH.out;omega),List.getElem?_eq_getElem _⟩;have e2:=(cells_Work hslx hz2).2.2.1;obtain⟨a,ha⟩:∃ a,S[k]? = some a:=⟨S[k]'(by have:=hSlH.out;omega),List.getElem?_eq_getElem _⟩;have ea:=keepC hb (hSH.out.cells k a ha).1;have hs1:=siz_b hokH.out (k+1);have hst:=siz_take hz2;rw[hst]at hs1;have hwt:=way_take ha;obtain⟨sv,hsv⟩:∃ v,sizF (x.works.l.take k)=v:=⟨_,rfl⟩;obtain⟨wv,hwv⟩:∃ v,wayF (S.take k)=v:=⟨_,rfl⟩;rw[hsv]at hs hs1 hst ⊢;rw[hwv]at hwb hwt ⊢;obtain⟨id,nd,sz,af⟩:=z;simp only at e2 hs1 hst;have w1':IntKind.i64.wrap (sv+sz)=sv+sz:=IntWalk.i64_in _ (by omega);have hk0:(0:Int)≤(k:Int):=by omega
    have hkN:(k:Int)<(N:Int):=by omega
    have R:LyRel x S w5 (.int .i64 (max wv a)) (.int .i64 (sv+sz)) (.int .i64 ((k:Int)+1)) wr.drew:=⟨k+1,(by have:=hNlH.out;omega),by go_num,by rw[hwt],by rw[hst],hb.drew⟩;clear hst hs hs1 hwt hwb;obtain⟨RH,hbH,hb15H,hslxH,hAxH,hz2H,hsvH,hwvH,haH⟩:=hqc R hb hb15 hslx hAx hz2 hsv hwv (Lib.hid ha);clear R hb hb15 hslx hAx hz2 hsv hwv ha;go_wp2_with fail
    go_region
    go_wp2;refine⟨?rel,?measure⟩
    case measure=>(simp[intOf];omega)
    case rel=>first | exact RH.out | exact⟨rfl,RH.out⟩
   ·obtain rfl:k=N:=by have:=hNlH.out;omega
    have e:x.works.l.take k=x.works.l:=List.take_of_length_le (by have:=hNlH.out;omega);have e':S.take k=S:=List.take_of_length_le (by have:=hSlH.out;omega);rw[e]at hs ⊢;rw[e']at hwb ⊢;obtain⟨sv,hsv⟩:∃ v,sizF x.works.l=v:=⟨_,rfl⟩;obtain⟨wv,hwv⟩:∃ v,wayF S=v:=⟨_,rfl⟩;rw[hsv]at hs ⊢;rw[hwv]at hwb ⊢;clear e e';obtain⟨c0,c1⟩:=hKH.out wr hb15;have hst2:LwRel x wr (.int .i64 0) (.int .i64 0) (.int .i64 0) wr:=⟨0,Nat.zero_le _,rfl,rfl,rfl,Below.refl _ _⟩;obtain⟨hbH,hb15H,hsvH,hwvH,hst2H⟩:=hqb hb hb15 hsv hwv (Lib.hid hst2);clear hb hb15 hsv hwv hst2;go_wp2_with fail;clear c0 c1
    go_loopw [7,8,50] (fun v p i wq=>LwRel x wr v p i wq) (fun _ _ i _=>M-(intOf i).toNat)
    case atStart=>exact hst2H.out
    case round =>
     clear hst2H;obtain⟨k,hk,rfl,rfl,rfl,hb⟩:=hrel;have hbs:=hb.size;have hf:=fast_b hokH.out k;have hp:=pow_b hokH.out k
     by_cases hlt:k<M
     ·have hslw:=hwsH.out.below (hb15H.out.trans (hb.mono hb15H.out.size));obtain⟨bw,ow,hAw,_⟩:=hslw.2.1 (by omega);rw[hAw]at hslw ⊢;obtain⟨y,hy⟩:∃ y,x.workers.l[k]? = some y:=⟨x.workers.l[k]'(by have:=hMlH.out;omega),List.getElem?_eq_getElem _⟩;obtain⟨d0,d1,d2,d3,d4,d5,d6⟩:=cells_Worker hslw hy;have hm:=slot_b (hokH.out.wk y (List.mem_of_getElem? hy));have hf1:=fast_b hokH.out (k+1);have hp1:=pow_b hokH.out (k+1);rw[fast_take hy]at hf1;rw[pow_take hy]at hp1;have hft:=fast_take hy;have hpt:=pow_take hy;obtain⟨fa,hfa⟩:∃ v,fastF (x.workers.l.take k)=v:=⟨_,rfl⟩;obtain⟨pw,hpw⟩:∃ v,powF (x.workers.l.take k)=v:=⟨_,rfl⟩;rw[hfa]at hf hf1 hft;rw[hpw]at hp hp1 hpt;rw[hfa,hpw];obtain⟨yn,yh,ysl,ysp,yfr,yto,yst⟩:=y;simp only at d0 d1 d2 d3 d4 d5 d6 hm hf1 hp1 hft hpt;have g2:(wr.alloc (.cells #[.string yn,.slice yh.A yh.n yh.cap,.int .i64 ysl,.int .i64 ysp,.int .i64 yfr,.int .i64 yto,.slice yst.A yst.n yst.cap] 84)).cell? ⟨wr.heap.size,2,none⟩=some (.int .i64 ysl):=cell_new _ _ _ 2;have g3:(wr.alloc (.cells #[.string yn,.slice yh.A yh.n yh.cap,.int .i64 ysl,.int .i64 ysp,.int .i64 yfr,.int .i64 yto,.slice yst.A yst.n yst.cap] 84)).cell? ⟨wr.heap.size,3,none⟩=some (.int .i64 ysp):=cell_new _ _ _ 3;have w1':IntKind.i64.wrap (ysl*ysp)=ysl*ysp:=IntWalk.i64_in _ (by omega);have w2':IntKind.i64.wrap (pw+ysl*ysp)=pw+ysl*ysp:=IntWalk.i64_in _ (by omega);have R:LwRel x _ (.int .i64 (max fa ysp)) (.int .i64 (pw+ysl*ysp)) (.int .i64 ((k:Int)+1)) (wr.alloc (.cells #[.string yn,.slice yh.A yh.n yh.cap,.int .i64 ysl,.int .i64 ysp,.int .i64 yfr,.int .i64 yto,.slice yst.A yst.n yst.cap] 84)).drew :=
       ⟨k+1,(by have:=hMlH.out;omega),by go_num,by rw[hft],by rw[hpt],(hb.alloc hbs _).drew⟩
      clear hft hpt hf hp hf1 hp1 hm;obtain⟨RH,hbH,hslwH,hAwH,hyH,hfaH,hpwH⟩:=hq2 R (hq2 hb (hqb hslw hAw hy hfa (Lib.hid hpw)));clear R hb hslw hAw hy hfa hpw;go_wp2_with fail
      go_region
      go_wp2;refine⟨?rel,?measure⟩
      case measure=>(simp[intOf];omega)
      case rel=>first | exact RH.out | exact⟨rfl,RH.out⟩
     ·obtain rfl:k=M:=by have:=hMlH.out;omega
      have e:x.workers.l.take k=x.workers.l:=List.take_of_length_le (by have:=hMlH.out;omega);rw[e]at hf hp ⊢;obtain⟨fa,hfa⟩:∃ v,fastF x.workers.l=v:=⟨_,rfl⟩;obtain⟨pw,hpw⟩:∃ v,powF x.workers.l=v:=⟨_,rfl⟩;have hf0:=fast_pos hokH.out hkneH.out;have hp0:=pow_pos hokH.out hkneH.out;rw[hfa]at hf hf0;rw[hpw]at hp hp0;rw[hfa,hpw];clear e;obtain⟨hbH,hfaH,hpwH⟩:=hq2 hb (hq2 hfa (Lib.hid hpw));clear hb hfa hpw;go_wp2_with fail;refine(rup_any wv fa _ hwb.1 hwb.2 hf0 (by omega) _ rfl).mono ?_;rintro e w7 ⟨rfl,hb7⟩;have hb7H:=Lib.hid hb7;clear hb7;go_wp2_with fail;refine(rup_any sv pw _ hs.1 hs.2 hp0 hp.2 _ rfl).mono ?_;rintro e w8 ⟨rfl,hb8⟩;have R:Z (.returned (.tuple #[.int .i64 (max (upI wv fa) (upI sv pw)),.int .i64 0])) w8:=by
       rw[← hZH.out];have q1:=hbbH.out.trans (hb15H.out.mono hbbH.out.size);have q2:=q1.trans (hbH.out.mono q1.size);have q3:=q2.trans (hb7H.out.mono q2.size);refine⟨q3.trans (hb8.mono q3.size),.inr (.inr (.inr ⟨rfl,hwneH.out,hkneH.out,S,by rw[hSlH.out];exact hNlH.out.symm,by rw[hNlH.out];exact hCH.out,?_⟩))⟩;unfold leV;rw[hwvH.out,hfaH.out,hsvH.out,hpwH.out]
      clear hwb hs hp hf hf0 hp0;obtain⟨RH,hb8H⟩:=hq2 R (Lib.hid hb8);clear R hb8;go_wp2;exact RH.out
 ·have R:Z (.returned (.tuple #[.int .i64 0,.int .i64 c])) w1:=by
   rw[← hZH.out];exact⟨hbb,.inl ⟨h1,rfl⟩⟩
  have h1':(c != 0)=true:=by simpa using h1
  clear h1;obtain⟨RH,hb1H,hx2H,hbbH⟩:=hq2 R (hq2 hb1 (hq2 hx2 (Lib.hid hbb)));clear R hb1 hx2 hbb;go_wp2;exact RH.out
end Go.Proofs.YtbnkoefljcekbaaGreatDoor.C9