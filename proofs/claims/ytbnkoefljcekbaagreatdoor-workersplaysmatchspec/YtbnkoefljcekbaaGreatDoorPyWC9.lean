/-
 Several texts of mine as one, without what is not wanted here: XRqO, XEqR, XSrtK, XDelW.
-/
import Derived.Test.YtbnkoefljcekbaaGreatDoorPyVC9
import Derived.Test.YtbnkoefljcekbaaGreatDoorPyGl
import Derived.Test.YtbnkoefljcekbaaGreatDoorPyShelf
import Derived.Shelf.SlSortCmp.NoneTotal
import Derived.Lib.OwnBridge
set_option linter.unusedVariables false
set_option linter.unusedSimpArgs false
set_option maxRecDepth 100000
set_option maxHeartbeats 8000000
namespace Go.Proofs.YtbnkoefljcekbaaGreatDoor.C9
open Go.ChangeShapes Go.WideShapes Go.Deep Go.RowKit Go.Maps
def RPlAns (x:Farm) (c:Int) (w:World) (e:Ending) (w':World):Prop :=
 (c≠0∧e = .returned (.tuple #[.slice none 0 0,.int .i64 c])∧Below w.heap.size w w') ∨
 (c=0∧∃ (A:Option Addr) (n cap:Nat) (q:QS) (O:List Run),e = .returned (.tuple #[.slice A n cap,.int .i64 0])∧SlAt RRun w' A n O∧QTrace (fpx x) q0 q∧InsO (q.runs.map (toRun x)) q.runs.length O∧Below w.heap.size w w')
def RpRel (R:List Run) (n:Nat) (w3:World) (v i:Value) (wr:World):Prop :=
 ∃ (k c:Nat) (A:Option Addr) (O:List Run),k≤n∧i = .int .i64 k∧v = .slice A k c∧Own RRun 34 wr w3.heap.size v O∧InsO R k O∧Below w3.heap.size w3 wr
def RiRel (O:List Run) (r:Run) (m:Nat) (W5:World) (v:Value) (wr:World):Prop :=
 ∃ a:Nat,a≤m∧v = .int .i64 a∧(∀ y∈O.drop a,runLt r y=true)∧Below W5.heap.size W5 wr
theorem keep10o {W5 W W':World} {a0 a1 a2 a3 a4 a5 a6 a7 a8 a9:Addr} {v0 v1 v2 v3 v4 v5 v6 v7 v8 v9:Value} (hb:Below W.heap.size W W') (h:Below W5.heap.size W5 W∧W.cell? a0=some v0∧W.cell? a1=some v1∧W.cell? a2=some v2∧W.cell? a3=some v3∧W.cell? a4=some v4∧W.cell? a5=some v5∧W.cell? a6=some v6∧W.cell? a7=some v7∧W.cell? a8=some v8∧W.cell? a9=some v9) :
  Below W5.heap.size W5 W'∧W'.cell? a0=some v0∧W'.cell? a1=some v1∧W'.cell? a2=some v2∧W'.cell? a3=some v3∧W'.cell? a4=some v4∧W'.cell? a5=some v5∧W'.cell? a6=some v6∧W'.cell? a7=some v7∧W'.cell? a8=some v8∧W'.cell? a9=some v9:=by
 obtain⟨h,h0,h1,h2,h3,h4,h5,h6,h7,h8,h9⟩:=h;exact⟨h.trans (hb.mono h.size),keepC hb h0,keepC hb h1,keepC hb h2,keepC hb h3,keepC hb h4,keepC hb h5,keepC hb h6,keepC hb h7,keepC hb h8,keepC hb h9⟩
theorem heap_newQ (w:World) (vs:Array Value) (T:TypeId):(w.alloc (.cells vs T)).heap[w.heap.size]? = some (.cells vs T (0,0)):=heap_alloc_new w (.cells vs T)
theorem rPlay_any (x:Farm) (w:World) (hx:RFarm.ok w x) (c:Int) (hF:farmF x=c) :
  Calls Tryz.prog 11 #[farmV x] w (RPlAns x c w):=by
 unfold farmV;have hN:x.works.n=x.works.l.length:=hx.2.1.1.1.symm;obtain⟨W1,hW1⟩:∃ Y,w.alloc (.cells #[.slice x.workers.A x.workers.n x.workers.cap,.slice x.works.A x.works.n x.works.cap,.slice x.lost.A x.lost.n x.lost.cap,.int .i64 x.tries,.bool x.doubles] 26)=Y:=⟨_,rfl⟩;obtain⟨xb,hxb⟩:∃ b,w.heap.size=b:=⟨_,rfl⟩;have hba:Below w.heap.size w W1:=by rw[← hW1];exact(Below.refl _ _).alloc (Nat.le_refl _) _
 have hx1:=RFarm.mono _ _ _ hba hx;have c0:W1.cell? ⟨xb,0,none⟩=some (.slice x.workers.A x.workers.n x.workers.cap):=by rw[← hW1,← hxb];exact cell_new _ _ _ 0
 have c1:W1.cell? ⟨xb,1,none⟩=some (.slice x.works.A x.works.n x.works.cap):=by rw[← hW1,← hxb];exact cell_new _ _ _ 1
 have c2:W1.cell? ⟨xb,2,none⟩=some (.slice x.lost.A x.lost.n x.lost.cap):=by rw[← hW1,← hxb];exact cell_new _ _ _ 2
 have c3:W1.cell? ⟨xb,3,none⟩=some (.int .i64 x.tries):=by rw[← hW1,← hxb];exact cell_new _ _ _ 3
 have c4:W1.cell? ⟨xb,4,none⟩=some (.bool x.doubles):=by rw[← hW1,← hxb];exact cell_new _ _ _ 4
 obtain⟨Z,hZ⟩:∃ Z,RPlAns x c w=Z:=⟨_,rfl⟩;rw[hZ];obtain⟨hZH,hxH,hx1H,hW1H,hxbH,hbaH,hFH,hNH⟩:=hq2 hZ (hq2 hx (hq2 hx1 (hqb hW1 hxb hba hF (Lib.hid hN))));clear hZ hx hx1 hW1 hxb hba hF hN;go_enter Tryz.func11,Tryz.ntmps11;go_wp2_with fail;rw[hW1H.out,hxbH.out];refine(rfarm_any x _ hx1H.out c hFH.out).mono ?_;rintro e w1 ⟨rfl,hb1⟩;have c0:=keepC hb1 c0;have c1:=keepC hb1 c1;have c2:=keepC hb1 c2;have c3:=keepC hb1 c3;have c4:=keepC hb1 c4;have hx2:=RFarm.mono _ _ _ hb1 hx1H.out;have hbb:=hbaH.out.trans (hb1.mono hbaH.out.size)
 by_cases h1:c=0
 ·subst h1;obtain⟨hb1H,hx2H,hbbH⟩:=hq2 hb1 (hq2 hx2 (Lib.hid hbb));clear hb1 hx2 hbb;go_wp2_with fail;refine(follow_any x _ hx2H.out (farmOk_of hFH.out)).mono ?_;rintro e w3 ⟨X,rv,q,rfl,hXx,hXF,hS,hA,hT,hNq,lo,hi,hI⟩;obtain⟨A0,cap0,hrv,hrv1⟩:=hA.row;obtain⟨nR,hnR⟩:∃ n,q.runs.length=n:=⟨_,rfl⟩;rw[hnR]at hrv hrv1;have hn4:nR≤4000:=by rw[← hnR];exact hNq.len
  have b7:=(hA.blk 7 _ rfl).1;rw[hrv]at b7;obtain⟨R,hR⟩:∃ R,q.runs.map (toRun x)=R:=⟨_,rfl⟩;have hRl:R.length=nR:=by rw[← hR,List.length_map];exact hnR
  have hsl:SlAt RRun w3 A0 nR R:=by
   have:=hA.runs;rw[hrv,hXx,hR]at this;exact this.slAt
  have hkn:R.Pairwise keyNe:=by
   rw[← hR];exact keys_of (farmOk_of hFH.out) hI.named hI.dis
  have hbw3:Below w.heap.size w w3:=hbbH.out.trans (hA.bel.mono hbbH.out.size);have hst:RpRel R nR w3 (.slice none 0 0) (.int .i64 0) w3:=⟨0,0,none,[],Nat.zero_le _,rfl,rfl,Own.nil _ _,⟨by simp,List.Pairwise.nil⟩,Below.refl _ _⟩;clear c0 c1 c2 c3 c4;obtain⟨hXxH,hXFH,hSH,hAH,hTH,hNqH,hIH,hrvH,hrv1H,hnRH,hRH,hRlH,hslH,hknH,hbw3H,hstH⟩:=hq2 hXx (hq2 hXF (hq2 hS (hqb hA hT hNq hI (hqc hrv hrv1 hnR hR hRl hsl hkn hbw3 (Lib.hid hst)))));clear hXx hXF hS hA hT hNq hI hrv hrv1 hnR hR hRl hsl hkn hbw3 hst;go_wp2_with fail;clear b7
  go_loopw [5,20] (fun v i wr=>RpRel R nR w3 v i wr) (fun _ i _=>nR-(intOf i).toNat)
  case atStart=>exact hstH.out
  case round =>
   clear hstH;obtain⟨k,cap,A,O,hk,rfl,rfl,hown,hO,hb⟩:=hrel;have hOl:O.length=k:=hown.len
   by_cases hlt:k<nR
   ·have hslr:=hslH.out.below hb;obtain⟨br,or_,hAr,_⟩:=hslr.2.1 (by omega);rw[hAr]at hslr ⊢;obtain⟨r,hr⟩:∃ r,R[k]? = some r:=⟨R[k]'(by have:=hRlH.out;omega),List.getElem?_eq_getElem _⟩;obtain⟨e0,e1,e2,e3,e4⟩:=cells_Run hslr hr;have hrok:=hslr.2.2 r (List.mem_of_getElem? hr);obtain⟨ri,rwk,rf,rt,re⟩:=r;simp only at e0 e1 e2 e3 e4;obtain⟨W5,hW5⟩:∃ Y,wr.alloc (.cells #[.string ri,.string rwk,.int .i64 rf,.int .i64 rt,.int .i64 re] 34)=Y:=⟨_,rfl⟩;obtain⟨wb,hwb⟩:∃ b,wr.heap.size=b:=⟨_,rfl⟩;have hbr5:Below wr.heap.size wr W5:=by rw[← hW5];exact(Below.refl _ _).alloc (Nat.le_refl _) _
    have hB5:Blk W5 wb [.string ri,.string rwk,.int .i64 rf,.int .i64 rt,.int .i64 re]:=by rw[← hW5,← hwb];exact blk_new wr [.string ri,.string rwk,.int .i64 rf,.int .i64 rt,.int .i64 re] 34
    have hb5:=hb.trans (hbr5.mono hb.size);have hown5:=own_kp hown (below_g hbr5) (fun b _=>by simp) (fun x _ hx=>run_ok_any _ _ x hx);have Rnx:∀ a,a≤k→(∀ y∈O.drop a,runLt (⟨ri,rwk,rf,rt,re⟩:Run) y=true)→(∀ y,0<a→O[a-1]? = some y→runLt (⟨ri,rwk,rf,rt,re⟩:Run) y=false)→∀ V A' c',Own RRun 34 V w3.heap.size (.slice A' (k+1) c') (O.take a++(⟨ri,rwk,rf,rt,re⟩:Run)::O.drop a)→Below w3.heap.size w3 V→RpRel R nR w3 (.slice A' (k+1) c') (.int .i64 ((k:Int)+1)) V:=fun a ha h1 h2 V A' c' ho hV =>
     ⟨k+1,c',A',_,hlt,by go_num,rfl,ho,hO.put hr hknH.out (by omega) h1 h2,hV⟩
    have hst2:RiRel O (⟨ri,rwk,rf,rt,re⟩:Run) k W5 (.int .i64 k) W5:=⟨k,Nat.le_refl _,rfl,fun y hy=>(by rw[List.drop_of_length_le (by omega)]at hy;cases hy),Below.refl _ _⟩;have hm4:k≤4000:=by omega
    obtain⟨hownH,hOH,hbH,hOlH,hslrH,hArH,hrH,hrokH,hW5H,hwbH,hbr5H,hB5H,hb5H,hown5H,RnxH,hst2H⟩:=hq2 hown (hq2 hO (hq2 hb (hqb hOl hslr hAr hr (hqc hrok hW5 hwb hbr5 hB5 hb5 hown5 Rnx (Lib.hid hst2)))));clear hown hO hb hOl hslr hAr hr hrok hW5 hwb hbr5 hB5 hb5 hown5 Rnx hst2;go_wp2_with fail;simp only[hW5H.out,hwbH.out];clear e0 e1 e2 e3 e4
    go_loopw [8] (fun v wq=>RiRel O (⟨ri,rwk,rf,rt,re⟩:Run) k W5 v wq) (fun v _=>(intOf v).toNat)
    case atStart=>exact hst2H.out
    case round =>
     clear hst2H;obtain⟨a,ha,rfl,hdrop,hbq⟩:=hrel;have hBr:=blk_below hB5H.out (by simp) hbq
     by_cases ha0:a=0
     ·subst ha0;have hlast:∀ y,0<0→O[0-1]? = some y→runLt (⟨ri,rwk,rf,rt,re⟩:Run) y=false:=fun y h=>absurd h (Nat.lt_irrefl _);have hS0:Below W5.heap.size W5 wr:=hbq;obtain⟨hBrH,hbqH⟩:=hq2 hBr (Lib.hid hbq);clear hBr hbq;go_wp2_with fail;refine wp_region_held_drew (S:=fun V:World=>Below W5.heap.size W5 V) (by kernel_rfl) hS0.drew (fun hHeld=>?_);refine tkS [(0,26),(1,27),(2,28)] ?_;(iterate 3 (refine tkL ?_ ?_ ?_;rotate_left;(· intro w hSw;(try dsimp only at hSw);go_simp;(try with_reducible rfl));(try simp only[Act.put,tkA,tkB,tkC])));refine tkE ?_;refine tkS [(3,29),(4,30),(5,31),(6,32),(7,33),(8,34),(9,35)] ?_;(iterate 7 (refine skL ?_;(try simp only[Act.put,tkA,tkB,tkC])));refine tkE ?_;refine tkS [(10,36)] ?_;(iterate 1 (refine tkL ?_ ?_ ?_;rotate_left;(· intro w hSw;(try dsimp only at hSw);go_simp;(try with_reducible rfl));(try simp only[Act.put,tkA,tkB,tkC])));refine tkE ?_;refine wpAnyH_done (by kernel_rfl) ?_ _;clear hHeld;have hBq:=blk_below hB5H.out (by simp) hS0.drew;have g0:=(hBq 0 _ rfl).1;have g1:=(hBq 1 _ rfl).1;have g2:=(hBq 2 _ rfl).1;have g3:=(hBq 3 _ rfl).1;have g4:=(hBq 4 _ rfl).1;have hownq:=own_kp hown5H.out (below_g hS0.drew) (fun b _=>by simp) (fun x _ hx=>run_ok_any _ _ x hx);have hba:=(Below.refl (wr.drew:World).heap.size wr.drew).alloc (Nat.le_refl _) (.cells #[.string ri,.string rwk,.int .i64 rf,.int .i64 rt,.int .i64 re] 34);have hownb:=own_kp hownq (below_g hba) (fun b _=>by simp) (fun x _ hx=>run_ok_any _ _ x hx);have hnew:((wr.drew:World).alloc (.cells #[.string ri,.string rwk,.int .i64 rf,.int .i64 rt,.int .i64 re] 34)).heap[(wr.drew:World).heap.size]? = some (.cells (RRun.vals (⟨ri,rwk,rf,rt,re⟩:Run)).toArray 34 (0,0)):=heap_newQ _ _ _
      have hwx:=(hS0.drew:Below W5.heap.size W5 wr.drew);have hbq3:Below w3.heap.size w3 wr.drew:=hb5H.out.trans (hwx.mono hb5H.out.size);have hcall:=ins_anyRn w3.heap.size k cap 0 (wr.drew:World).heap.size A (O.take 0) (O.drop 0) (⟨ri,rwk,rf,rt,re⟩:Run) _ (by rw[List.length_take,hOlH.out];omega) (by rw[List.take_append_drop];exact hownb) hnew (run_ok_any _ _ _ hrokH.out) (fun g hg=>by have:=(hownq.1.lt g hg).2;omega) (Nat.le_trans hbq3.size hba.size) (by omega)
      (try rw[hcd]at hcall)
      have Rn:=RnxH.out 0 (by omega) hdrop hlast;clear hBq hownq hownb hnew;obtain⟨hbaH,hwxH,hbq3H,hcallH,RnH⟩:=hqb hba hwx hbq3 hcall (Lib.hid Rn);clear hba hwx hbq3 hcall Rn;clear hdrop hlast;go_wp2_with fail;clear g0 g1 g2 g3 g4;refine hcallH.out.mono ?_;rintro e w9 ⟨A9,c9,rfl,ho9,hg9⟩;have hb9:Below w3.heap.size w3 w9:=(hbq3H.out.trans (hbaH.out.mono hbq3H.out.size)).grown hg9 (by have:=hbq3H.out.size;have:=hbaH.out.size;omega) (fun b hb=>(hown5H.out.1.lt b hb).1);have R:=RnH.out w9 A9 c9 ho9 hb9;clear ho9 hg9 hb9;have RH:=Lib.hid R;clear R;go_wp2;refine⟨?rel,?measure⟩
      case measure=>(simp[intOf];omega)
      case rel=>first | exact RH.out | exact⟨rfl,RH.out⟩
     ·obtain⟨b,rfl⟩:∃ b,a=b+1:=⟨a-1,by omega⟩;have hal:b<O.length:=by have:=hOlH.out;omega
      obtain⟨y,hy⟩:∃ y,O[b]? = some y:=⟨O[b]'hal,List.getElem?_eq_getElem _⟩;have hownq:=own_kp hown5H.out (below_g hbq) (fun b _=>by simp) (fun x _ hx=>run_ok_any _ _ x hx);have hso:=hownq.slAt;obtain⟨bo,oo,hAo,_⟩:=hso.2.1 (by omega);subst hAo;obtain⟨f0,f1,f2,f3,f4⟩:=cells_Run hso hy;have hcd:((b+1:Nat):Int)=(b:Int)+1:=by omega
      have hbk:(b:Int)<(k:Int):=by omega
      have hsu:(b:Int)+1-1=(b:Int):=by omega
      have hgt:decide ((b:Int)+1>0)=true:=decide_eq_true (by omega);have hwr:IntKind.i64.wrap (b:Int)=(b:Int):=IntWalk.i64_in _ (by omega);obtain⟨yi,yw,yf,yt,ye⟩:=y;simp only at f0 f1 f2 f3 f4;obtain⟨bf,hbf⟩:∃ v,runLt (⟨ri,rwk,rf,rt,re⟩:Run) (⟨yi,yw,yf,yt,ye⟩:Run)=v:=⟨_,rfl⟩;have hS0:Below W5.heap.size W5 wr∧wr.cell? ⟨wb,0,none⟩=some (.string ri)∧wr.cell? ⟨wb,1,none⟩=some (.string rwk)∧wr.cell? ⟨wb,2,none⟩=some (.int .i64 rf)∧wr.cell? ⟨wb,3,none⟩=some (.int .i64 rt)∧wr.cell? ⟨wb,4,none⟩=some (.int .i64 re)∧wr.cell? ⟨bo,oo+b*5,none⟩=some (.string yi)∧wr.cell? ⟨bo,oo+b*5+1,none⟩=some (.string yw)∧wr.cell? ⟨bo,oo+b*5+2,none⟩=some (.int .i64 yf)∧wr.cell? ⟨bo,oo+b*5+3,none⟩=some (.int .i64 yt)∧wr.cell? ⟨bo,oo+b*5+4,none⟩=some (.int .i64 ye) :=
       ⟨hbq,(hBr 0 _ rfl).1,(hBr 1 _ rfl).1,(hBr 2 _ rfl).1,(hBr 3 _ rfl).1,(hBr 4 _ rfl).1,f0,f1,f2,f3,f4⟩
      clear f0 f1 f2 f3 f4 hownq;simp only[hcd];obtain⟨hBrH,hbqH,hsoH,hS0H,hbfH,hyH,halH⟩:=hq2 hBr (hq2 hbq (hqb hso hS0 hbf hy (Lib.hid hal)));clear hBr hbq hso hS0 hbf hy hal;go_wp2_with fail;refine wp_region_held_drew (S:=fun V:World=>Below W5.heap.size W5 V∧V.cell? ⟨wb,0,none⟩=some (.string ri)∧V.cell? ⟨wb,1,none⟩=some (.string rwk)∧V.cell? ⟨wb,2,none⟩=some (.int .i64 rf)∧V.cell? ⟨wb,3,none⟩=some (.int .i64 rt)∧V.cell? ⟨wb,4,none⟩=some (.int .i64 re)∧V.cell? ⟨bo,oo+b*5,none⟩=some (.string yi)∧V.cell? ⟨bo,oo+b*5+1,none⟩=some (.string yw)∧V.cell? ⟨bo,oo+b*5+2,none⟩=some (.int .i64 yf)∧V.cell? ⟨bo,oo+b*5+3,none⟩=some (.int .i64 yt)∧V.cell? ⟨bo,oo+b*5+4,none⟩=some (.int .i64 ye)) (by kernel_rfl) (keep10o (Below.refl _ _).drew hS0H.out) (fun hHeld=>?_);refine tkS [(0,26),(1,27),(2,28),(3,29),(4,30),(5,31),(6,32),(7,33),(8,34)] ?_;(iterate 9 (refine tkL ?_ ?_ ?_;rotate_left;(· intro w hSw;(try dsimp only at hSw);go_simp;(try with_reducible rfl));(try simp only[Act.put,tkA,tkB,tkC])));refine tkE ?_;refine wpAnyH_ready (rs:=[9]) (by kernel_rfl) (by simp) ?_;refine AllReadyH.cons (i:=9) rfl (fun K hK=>?_) AllReadyH.nil;go_simp;go_at_call 34;refine(before_any (⟨ri,rwk,rf,rt,re⟩:Run) (⟨yi,yw,yf,yt,ye⟩:Run) _ bf hbfH.out).mono ?_;rintro e w7 ⟨rfl,hb7⟩;have hHeld:=keep10o hb7 hHeld;clear hb7;refine hK.out _ _ hHeld (fun hHeld=>?_);clear hK K
      (try simp only[Act.put,tkA,tkB,tkC])
      refine tkS [(10,36)] ?_;(iterate 1 (refine tkL ?_ ?_ ?_;rotate_left;(· intro w hSw;(try dsimp only at hSw);go_simp;(try with_reducible rfl));(try simp only[Act.put,tkA,tkB,tkC])));refine tkE ?_;refine wpAnyH_done (by kernel_rfl) ?_ _;have hS7:=hHeld.1;clear hHeld
      cases bf
      ·have hlast:∀ y,0<b+1→O[b+1-1]? = some y→runLt (⟨ri,rwk,rf,rt,re⟩:Run) y=false:=fun y _ h=>by
        rw[Nat.add_sub_cancel,hyH.out]at h;injection h with h;rw[← h];exact hbfH.out
       obtain⟨a,hab⟩:∃ a,b+1=a:=⟨_,rfl⟩;have hbi:(b:Int)+1=(a:Int):=by omega
       rw[hab]at ha hdrop hlast;rw[hbi];clear hcd hsu hgt hbi hwr hbk;have hBq:=blk_below hB5H.out (by simp) hS7;have g0:=(hBq 0 _ rfl).1;have g1:=(hBq 1 _ rfl).1;have g2:=(hBq 2 _ rfl).1;have g3:=(hBq 3 _ rfl).1;have g4:=(hBq 4 _ rfl).1;have hownq:=own_kp hown5H.out (below_g hS7) (fun b _=>by simp) (fun x _ hx=>run_ok_any _ _ x hx);have hba:=(Below.refl (w7:World).heap.size w7).alloc (Nat.le_refl _) (.cells #[.string ri,.string rwk,.int .i64 rf,.int .i64 rt,.int .i64 re] 34);have hownb:=own_kp hownq (below_g hba) (fun b _=>by simp) (fun x _ hx=>run_ok_any _ _ x hx);have hnew:((w7:World).alloc (.cells #[.string ri,.string rwk,.int .i64 rf,.int .i64 rt,.int .i64 re] 34)).heap[(w7:World).heap.size]? = some (.cells (RRun.vals (⟨ri,rwk,rf,rt,re⟩:Run)).toArray 34 (0,0)):=heap_newQ _ _ _;have hwx:=(hS7:Below W5.heap.size W5 w7);have hbq3:Below w3.heap.size w3 w7:=hb5H.out.trans (hwx.mono hb5H.out.size);have hcall:=ins_anyRn w3.heap.size k cap a (w7:World).heap.size (some ⟨bo,oo,none⟩) (O.take a) (O.drop a) (⟨ri,rwk,rf,rt,re⟩:Run) _ (by rw[List.length_take,hOlH.out];omega) (by rw[List.take_append_drop];exact hownb) hnew (run_ok_any _ _ _ hrokH.out) (fun g hg=>by have:=(hownq.1.lt g hg).2;omega) (Nat.le_trans hbq3.size hba.size) (by omega)
       (try rw[hcd]at hcall)
       have Rn:=RnxH.out a (by omega) hdrop hlast;clear hBq hownq hownb hnew;obtain⟨hbaH,hwxH,hbq3H,hcallH,RnH⟩:=hqb hba hwx hbq3 hcall (Lib.hid Rn);clear hba hwx hbq3 hcall Rn;clear hdrop hlast;go_wp2_with fail;clear g0 g1 g2 g3 g4;refine hcallH.out.mono ?_;rintro e w9 ⟨A9,c9,rfl,ho9,hg9⟩;have hb9:Below w3.heap.size w3 w9:=(hbq3H.out.trans (hbaH.out.mono hbq3H.out.size)).grown hg9 (by have:=hbq3H.out.size;have:=hbaH.out.size;omega) (fun b hb=>(hown5H.out.1.lt b hb).1);have R:=RnH.out w9 A9 c9 ho9 hb9;clear ho9 hg9 hb9;have RH:=Lib.hid R;clear R;go_wp2;refine⟨?rel,?measure⟩
       case measure=>(simp[intOf];omega)
       case rel=>first | exact RH.out | exact⟨rfl,RH.out⟩
      ·have R:RiRel O (⟨ri,rwk,rf,rt,re⟩:Run) k W5 (.int .i64 (b:Int)) w7:=⟨b,by omega,rfl,fun y hy=>(by
        obtain⟨b1,b2⟩:=List.getElem?_eq_some_iff.1 hyH.out;rw[List.drop_eq_getElem_cons b1,b2]at hy
        rcases List.mem_cons.1 hy with rfl | hy
        ·exact hbfH.out
        ·exact hdrop y hy),hS7⟩
       clear hdrop hS7;have RH:=Lib.hid R;clear R;go_wp2;refine⟨?rel,?measure⟩
       case measure=>exact(by simp[intOf])
       case rel=>first | exact RH.out | exact⟨rfl,RH.out⟩
   ·obtain rfl:k=nR:=by omega
    have R:Z (.returned (.tuple #[.slice A k cap,.int .i64 0])) wr:=by
     rw[← hZH.out];exact .inr ⟨rfl,A,k,cap,q,O,rfl,hown.slAt,hTH.out,by rw[hRH.out,hnRH.out];exact hO,hbw3H.out.trans (hb.mono hbw3H.out.size)⟩
    obtain⟨RH,hownH,hOH,hbH,hOlH⟩:=hqb R hown hO hb (Lib.hid hOl);clear R hown hO hb hOl;go_wp2;exact RH.out
 ·have R:Z (.returned (.tuple #[.slice none 0 0,.int .i64 c])) w1:=by
   rw[← hZH.out];exact .inl ⟨h1,rfl,hbb⟩
  have h1':(c != 0)=true:=by simpa using h1
  clear h1;obtain⟨RH,hb1H,hx2H,hbbH⟩:=hq2 R (hq2 hb1 (hq2 hx2 (Lib.hid hbb)));clear R hb1 hx2 hbb;go_wp2;exact RH.out
end Go.Proofs.YtbnkoefljcekbaaGreatDoor.C9
namespace Go.Proofs.YtbnkoefljcekbaaGreatDoor.C9
open Go.ChangeShapes Go.WideShapes Go.Deep Go.RowKit
def EqrRel (n:Nat) (w0:World) (i:Value) (wr:World):Prop:=∃ k:Nat,k≤n∧i = .int .i64 k∧Below w0.heap.size w0 wr
theorem equal_runs (A1 A2:Option Addr) (n1 c1 n2 c2:Nat) (L:List Run) (w:World) (h1:SlAt RRun w A1 n1 L) (h2:SlAt RRun w A2 n2 L) (hn:n1≤9223372036854775807) :
  Calls Tryz.prog 14 #[.slice A1 n1 c1,.slice A2 n2 c2] w fun e w'=>e = .returned (.bool true)∧Below w.heap.size w w':=by
 obtain rfl:n1=n2:=h1.1.symm.trans h2.1;obtain⟨h1H,h2H⟩:=hq2 h1 (Lib.hid h2);clear h1 h2;go_enter Tryz.func14,Tryz.ntmps14;go_wp2_with fail
 go_loopw [13] (fun i wr=>EqrRel n1 w i wr) (fun i _=>n1-(intOf i).toNat)
 case atStart=>exact⟨0,Nat.zero_le _,rfl,Below.refl _ _⟩
 case round =>
  obtain⟨k,hk,rfl,hb⟩:=hrel
  by_cases hlt:k<n1
  ·have g1:=h1H.out.below hb;have g2:=h2H.out.below hb;obtain⟨b1,o1,hA1,_⟩:=g1.2.1 (by omega);obtain⟨b2,o2,hA2,_⟩:=g2.2.1 (by omega);subst hA1;subst hA2;obtain⟨x,hx⟩:∃ x,L[k]? = some x:=⟨L[k]'(by have:=h1H.out.1;omega),List.getElem?_eq_getElem _⟩;obtain⟨a0,a1,a2,a3,a4⟩:=cells_Run g1 hx;obtain⟨d0,d1,d2,d3,d4⟩:=cells_Run g2 hx;obtain⟨xi,xw,xf,xt,xe⟩:=x;simp only at a0 a1 a2 a3 a4 d0 d1 d2 d3 d4;have R:∀ nq,EqrRel n1 w (.int .i64 (k+1)) (wr.drewN nq):=fun nq=>⟨k+1,by omega,by go_num,bel_drewN hb nq⟩;obtain⟨hxH,hbH,RH,g1H,g2H⟩:=hqb hx hb R g1 (Lib.hid g2);clear hx hb R g1 g2;go_wp2_with fail
   go_quiet (fail)
   go_wp2;refine⟨?rel,?measure⟩
   case measure=>(simp[intOf];omega)
   case rel=>first | exact(RH.out _) | exact⟨rfl,(RH.out _)⟩
  ·have hbH:=Lib.hid hb;clear hb;go_wp2;go_ret;exact⟨rfl,hbH.out⟩
end Go.Proofs.YtbnkoefljcekbaaGreatDoor.C9
namespace Go.Proofs.YtbnkoefljcekbaaGreatDoor.C9
open Go.ChangeShapes Go.WideShapes Go.Deep Go.RowKit Go.Sort
section
variable {α:Type} [Inhabited α] {R:Rd α} {e:TypeId} {w w':World} {base g n cap:Nat} {l:List α}
theorem flat_toList (l:List α):(flatK R.vals R.size l.toArray).toList=l.flatMap R.vals:=by
 apply List.ext_getElem?;intro t
 by_cases ht:t<l.length*R.size
 ·have hs:0<R.size:=by
   rcases Nat.eq_zero_or_pos R.size with h | h
   ·rw[h]at ht;simp at ht
   ·exact h
  have hi:t / R.size<l.length:=Nat.div_lt_of_lt_mul (by rw[Nat.mul_comm];exact ht);have hj:t % R.size<R.size:=Nat.mod_lt _ hs;have hte:t=t / R.size*R.size+t % R.size:=by rw[Nat.mul_comm];exact(Nat.div_add_mod t R.size).symm
  have hv:(R.vals (l[t / R.size]'hi))[t % R.size]? = some ((R.vals (l[t / R.size]'hi))[t % R.size]'(by rw[R.len];exact hj)):=List.getElem?_eq_getElem _;have hg:=flatMap_vals_get l (t / R.size) (t % R.size) _ _ (List.getElem?_eq_getElem hi) hv;rw[← hte]at hg;rw[hg];have h1:(flatK R.vals R.size l.toArray).toList[t]? = some ((flatK R.vals R.size l.toArray)[t]!):=by
   rw[Array.getElem?_toList,Array.getElem?_eq_getElem (by simpa using ht),getElem!_pos _ _ (by simpa using ht)]
  rw[h1,get_flatK _ _ _ _ (by simpa using ht)]
  congr 1
  simp only[List.getElem!_toArray];rw[getElem!_pos l _ hi,getElem!_pos (R.vals (l[t / R.size]'hi)) _ (by rw[R.len];exact hj)]
 ·rw[List.getElem?_eq_none (by simp;omega),List.getElem?_eq_none (by rw[flatMap_vals_length];omega)]
theorem holdsK_of_own (h:Own R e w base (.slice (some ⟨g,0,none⟩) n cap) l):HoldsK R.vals R.size w g 0 l.toArray:=by
 obtain⟨cur,a,b,c,d,e1,f,hl⟩:=own_open h;intro j hj;have hj':j<n*R.size:=by rw[← hl];simpa using hj
 have hnc:n*R.size≤cap*R.size:=Nat.mul_le_mul_right _ c;refine⟨?_,by simp[World.frozen?,b]⟩;have e2:(cur.toList.take (n*R.size))[j]? = (flatK R.vals R.size l.toArray).toList[j]?:=by rw[f,flat_toList]
 rw[List.getElem?_take,if_pos hj',Array.getElem?_toList,Array.getElem?_toList]at e2;simp only[World.cell?,b,Nat.zero_add,Option.isSome_none,Bool.false_eq_true,if_false];rw[e2,Array.getElem?_eq_getElem hj,getElem!_pos (flatK R.vals R.size l.toArray) j hj];rfl
theorem heap_sortK (d:Array α) (m:Nat) (os:Array Obj) (k:Nat) (hk:k<w.heap.size) (hne:k≠g):(sortWorldK R.vals R.size w g 0 m d os).heap[k]? = w.heap[k]?:=by
 unfold sortWorldK putRowK putRow mapBlock grow Sort.ahead;simp only;rw[Array.getElem?_append_left (by simpa using hk),Array.getElem?_modify,if_neg (Ne.symm hne)]
theorem grown_sortK (d:Array α) (m:Nat) (os:Array Obj):w.grownBy (sortWorldK R.vals R.size w g 0 m d os) (some g) :=
 ⟨rfl,rfl,rfl,by unfold sortWorldK putRowK putRow mapBlock grow Sort.ahead;simp,fun k hk hne=>heap_sortK d m os k hk (fun e=>hne (by rw[e]))⟩
theorem own_sortK (h:Own R e w base (.slice (some ⟨g,0,none⟩) n cap) l) (l':List α) (hl':l'.length=n) (m:Nat) (os:Array Obj) (hok:∀ x∈l',R.ok (sortWorldK R.vals R.size w g 0 m l'.toArray os) x) :
  Own R e (sortWorldK R.vals R.size w g 0 m l'.toArray os) base (.slice (some ⟨g,0,none⟩) n cap) l':=by
 obtain⟨cur,a,b,c,d,e1,f,hl⟩:=own_open h;have hnc:n*R.size≤cap*R.size:=Nat.mul_le_mul_right _ c;have hg:g<w.heap.size:=(h.1.lt g rfl).2;have hcur:(sortWorldK R.vals R.size w g 0 m l'.toArray os).heap[g]? = some (.cells (putCells id 0 (flatK R.vals R.size l'.toArray) cur) e (0,0)):=by
  unfold sortWorldK putRowK putRow mapBlock grow Sort.ahead;simp only;rw[Array.getElem?_append_left (by simpa using hg),Array.getElem?_modify,if_pos rfl,b];rfl
 refine own_make a hcur c d (by simpa[putCells]using e1) ?_ hl' hok;rw[← flat_toList];apply List.ext_getElem?;intro j;rw[List.getElem?_take,Array.getElem?_toList,Array.getElem?_toList];have hsz:(flatK R.vals R.size l'.toArray).size=n*R.size:=by simp[hl']
 by_cases hj:j<n*R.size
 ·have hjc:j<cur.size:=by omega
  simp only[if_pos hj,putCells,Array.getElem?_mapIdx,Array.getElem?_eq_getElem hjc,Option.map_some];rw[if_pos (by omega),Array.getElem?_eq_getElem (by omega),Nat.sub_zero,getElem!_pos (flatK R.vals R.size l'.toArray) j (by omega)];rfl
 ·rw[if_neg hj,Array.getElem?_eq_none (by omega)]
theorem perm_of_in {d d':Array α} (h:PermIn 0 d.size d d'):d'.toList.Perm d.toList∧d'.size=d.size:=by
 obtain⟨h1,_,h3⟩:=h;refine⟨?_,h1⟩;have e1:d.extract 0 d.size=d:=by simp
 have e2:d'.extract 0 d.size=d':=by rw[← h1];simp
 rw[e1,e2]at h3;exact h3
theorem sorted_of_in {lt:α→α→Bool} {d:Array α} {n:Nat} (hn:d.size=n) (h:SortedIn lt 0 n d):d.toList.Pairwise fun x y=>lt y x=false:=by
 rw[List.pairwise_iff_getElem];intro i j hi hj hij;have:=h i j (Nat.zero_le _) hij (by rw[← hn];simpa using hj);rw[getElem!_pos d j (by simpa using hj),getElem!_pos d i (by simpa using hi)]at this
 simpa using this
end
end Go.Proofs.YtbnkoefljcekbaaGreatDoor.C9
namespace Go.Proofs.YtbnkoefljcekbaaGreatDoor.C9
open Go.ChangeShapes Go.WideShapes Go.Deep Go.RowKit
def gvals (x:GRun):Array Value:=#[.int .i64 x.work,.int .i64 x.worker,.int .i64 x.from_,.int .i64 x.end_]
structure DelP (g:Nat) (lb:Array Value) (p:GRun→Bool) (L:List GRun) (rb:Nat) (I:Nat→World→Prop):Prop where
 stab:∀ k W W',I k W→W.grownBy W' (some rb)→I k W'
 call:∀ k x W0 W,L[k]? = some x→I k W0→Below W0.heap.size W0 W→Calls Tryz.prog g (#[.agg (gvals x)]++lb) W fun e w'=>e = .returned (.bool (p x))∧I (k+1) w'∧W.heap.size≤w'.heap.size∧∀ b,(b=rb∨W0.heap.size≤b)→b<W.heap.size→w'.heap[b]? = W.heap[b]?
def IxRel (base rb n cap:Nat) (L:List GRun) (p:GRun→Bool) (I:Nat→World→Prop) (i:Value) (wr:World):Prop :=
 ∃ k:Nat,k≤n∧i = .int .i64 k∧Own RGRun 144 wr base (.slice (some ⟨rb,0,none⟩) n cap) L∧I k wr∧(∀ x∈L.take k,p x=false)
def IxAns (base rb n cap:Nat) (L:List GRun) (p:GRun→Bool) (I:Nat→World→Prop) (e:Ending) (w':World):Prop :=
 Own RGRun 144 w' base (.slice (some ⟨rb,0,none⟩) n cap) L∧((e = .returned (.int .i64 (-1))∧I n w'∧(∀ x∈L,p x=false))∨∃ k:Nat,k<n∧e = .returned (.int .i64 k)∧I (k+1) w'∧(∀ x∈L.take k,p x=false)∧∃ x,L[k]? = some x∧p x=true)
theorem own_lt {base rb n cap:Nat} {L:List GRun} {w:World} (h:Own RGRun 144 w base (.slice (some ⟨rb,0,none⟩) n cap) L):rb<w.heap.size:=(h.1.lt rb rfl).2
theorem own_fz {base rb n cap:Nat} {L:List GRun} {w:World} (h:Own RGRun 144 w base (.slice (some ⟨rb,0,none⟩) n cap) L) (j:Nat):w.frozen? ⟨rb,j,none⟩=false:=by
 obtain⟨cur,a,b,_⟩:=own_open h;exact frozen_of_row w rb _ cur _ b
theorem grun_okW (w w':World) (y:GRun) (h:RGRun.ok w y):RGRun.ok w' y:=h
theorem take_all {L:List GRun} {p:GRun→Bool} {k:Nat} {x:GRun} (h:∀ y∈L.take k,p y=false) (hx:L[k]? = some x) (hp:p x=false):∀ y∈L.take (k+1),p y=false:=fun y hy=>by
 rw[List.take_add_one,hx,Option.toList_some]at hy
 rcases List.mem_append.1 hy with hy | hy
 ·exact h y hy
 ·rw[List.mem_singleton.1 hy];exact hp
theorem indexG_any (g:Nat) (lb:Array Value) (eg:∀ args w,(callFunc g args).run Tryz.prog w = .ok (.enter g args) w) (p:GRun→Bool) (base rb n cap:Nat) (L:List GRun) (I:Nat→World→Prop) (w:World)
  (hP:DelP g lb p L rb I) (hO:Own RGRun 144 w base (.slice (some ⟨rb,0,none⟩) n cap) L) (hI:I 0 w) (hn:n≤1000000) :
  Calls Tryz.prog 157 #[.slice (some ⟨rb,0,none⟩) n cap,.func (.func g) #[] lb] w (IxAns base rb n cap L p I):=by
 have hl:=hO.len;obtain⟨hPH,hOH,hIH,hlH⟩:=hq2 hP (hq2 hO (hq2 hI (Lib.hid hl)));clear hP hO hI hl;go_enter Tryz.func157,Tryz.ntmps157;go_wp2_with fail
 go_loopw [8] (fun i wr=>IxRel base rb n cap L p I i wr) (fun i _=>n-(intOf i).toNat)
 case atStart=>exact⟨0,Nat.zero_le _,rfl,hOH.out,hIH.out,by simp⟩
 case round =>
  clear hOH hIH;obtain⟨k,hk,rfl,hO,hI,hall⟩:=hrel
  by_cases hlt:k<n
  ·obtain⟨x,hx⟩:∃ x,L[k]? = some x:=⟨L[k]'(by have:=hlH.out;omega),List.getElem?_eq_getElem _⟩;obtain⟨d0,d1,d2,d3⟩:=cells_GRun hO.slAt hx;rw[Nat.zero_add]at d0 d1 d2 d3;have hcall:=hPH.out.call k x wr wr hx hI (Below.refl _ _);have hlt2:=own_lt hO;unfold gvals at hcall
   cases hp:p x
   ·rw[hp]at hcall;have hall2:=take_all hall hx hp;have R:∀ w',I (k+1) w'→w'.heap[rb]? = wr.heap[rb]?→IxRel base rb n cap L p I (.int .i64 ((k:Int)+1)) w':=fun w' h1 h2 =>
     ⟨k+1,hlt,by go_num,own_same hO h2 (fun y _ hy=>grun_okW _ _ y hy),h1,hall2⟩
    clear hall hall2;obtain⟨hOH,hIH,hxH,hpH,hcallH,RH,hlt2H⟩:=hq2 hO (hq2 hI (hqb hx hp hcall R (Lib.hid hlt2)));clear hO hI hx hp hcall R hlt2;go_wp2_with fail
    go_at_fn g
    refine hcallH.out.mono ?_;rintro e w5 ⟨rfl,h5,h6,h7⟩;have R5:=RH.out w5 h5 (h7 rb (.inl rfl) hlt2H.out);clear h5 h6 h7;have R5H:=Lib.hid R5;clear R5;go_wp2;refine⟨?rel,?measure⟩
    case measure=>(simp[intOf];omega)
    case rel=>first | exact R5H.out | exact⟨rfl,R5H.out⟩
   ·rw[hp]at hcall;have R:∀ w',I (k+1) w'→w'.heap[rb]? = wr.heap[rb]?→IxAns base rb n cap L p I (.returned (.int .i64 (k:Int))) w':=fun w' h1 h2 =>
     ⟨own_same hO h2 (fun y _ hy=>grun_okW _ _ y hy),.inr ⟨k,hlt,rfl,h1,hall,x,hx,hp⟩⟩
    clear hall;obtain⟨hOH,hIH,hxH,hpH,hcallH,RH,hlt2H⟩:=hq2 hO (hq2 hI (hqb hx hp hcall R (Lib.hid hlt2)));clear hO hI hx hp hcall R hlt2;go_wp2_with fail
    go_at_fn g
    refine hcallH.out.mono ?_;rintro e w5 ⟨rfl,h5,h6,h7⟩;have R5:=RH.out w5 h5 (h7 rb (.inl rfl) hlt2H.out);clear h5 h6 h7;have R5H:=Lib.hid R5;clear R5;go_wp2;go_ret;exact R5H.out
  ·obtain rfl:k=n:=by omega
   rw[List.take_of_length_le (by have:=hlH.out;omega)]at hall;have R:IxAns base rb k cap L p I (.returned (.int .i64 (-1))) wr:=⟨hO,.inl ⟨rfl,hI,hall⟩⟩;clear hall;obtain⟨hOH,hIH,RH⟩:=hq2 hO (hq2 hI (Lib.hid R));clear hO hI R;go_wp2;go_ret;exact RH.out
structure DelI (L M:List GRun) (p:GRun→Bool) (i j:Nat):Prop where
 len:M.length=L.length
 low:M.take i=(L.take j).filter fun x=>!p x
 high:M.drop j=L.drop j
 lt:i<j
theorem DelI.start {L:List GRun} {p:GRun→Bool} {k:Nat} {x:GRun} (h:∀ y∈L.take k,p y=false) (hx:L[k]? = some x) (hp:p x=true):DelI L L p k (k+1):=by
 refine⟨rfl,?_,rfl,by omega⟩;rw[List.take_add_one,hx,Option.toList_some,List.filter_append,List.filter_eq_self.2 (fun y hy=>by rw[h y hy];rfl)];simp[hp]
theorem DelI.skip {L M:List GRun} {p:GRun→Bool} {i j:Nat} {x:GRun} (h:DelI L M p i j) (hx:L[j]? = some x) (hp:p x=true):DelI L M p i (j+1):=by
 refine⟨h.len,?_,?_,by have:=h.lt;omega⟩
 ·rw[h.low,List.take_add_one,hx,Option.toList_some,List.filter_append];simp[hp]
 ·rw[show j+1=j+1 from rfl,← List.drop_drop,h.high,List.drop_drop]
theorem DelI.keep {L M:List GRun} {p:GRun→Bool} {i j:Nat} {x:GRun} (h:DelI L M p i j) (hx:L[j]? = some x) (hp:p x=false):DelI L (M.set i x) p (i+1) (j+1):=by
 have hlt:=h.lt;have hj:=(List.getElem?_eq_some_iff.1 hx).1;have hl:=h.len;refine⟨by rw[List.length_set];exact hl,?_,?_,by omega⟩
 ·rw[List.take_add_one,List.take_set_of_le (Nat.le_refl _),List.getElem?_set_self (by omega),Option.toList_some,h.low,List.take_add_one,hx,Option.toList_some,List.filter_append];simp[hp]
 ·rw[List.drop_set_of_lt (by omega),← List.drop_drop,h.high,List.drop_drop]
def DeRel (base rb n cap:Nat) (L:List GRun) (p:GRun→Bool) (I:Nat→World→Prop) (iv jv:Value) (wr:World):Prop :=
 ∃ (i j:Nat) (M:List GRun),j≤n∧iv = .int .i64 i∧jv = .int .i64 j∧DelI L M p i j∧Own RGRun 144 wr base (.slice (some ⟨rb,0,none⟩) n cap) M∧I j wr
def DeAns (base:Nat) (A:Option Addr) (n cap:Nat) (L:List GRun) (p:GRun→Bool) (I:Nat→World→Prop) (e:Ending) (w':World):Prop :=
 ∃ k,k≤n∧e = .returned (.slice A k cap)∧Own RGRun 144 w' base (.slice A k cap) (L.filter fun x=>!p x)∧I n w'
theorem deleteG_any (g:Nat) (lb:Array Value) (eg:∀ args w,(callFunc g args).run Tryz.prog w = .ok (.enter g args) w) (p:GRun→Bool) (base rb n cap:Nat) (L:List GRun) (I:Nat→World→Prop) (w:World)
  (hP:DelP g lb p L rb I) (hO:Own RGRun 144 w base (.slice (some ⟨rb,0,none⟩) n cap) L) (hI:I 0 w) (hn:n≤1000000) :
  Calls Tryz.prog 113 #[.slice (some ⟨rb,0,none⟩) n cap,.func (.func g) #[] lb] w (DeAns base (some ⟨rb,0,none⟩) n cap L p I):=by
 have hl:=hO.len;have hcap:=hO.cap_le;have hix:=indexG_any g lb eg p base rb n cap L I w hP hO hI hn;obtain⟨hPH,hOH,hIH,hlH,hixH⟩:=hqb hP hO hI hl (Lib.hid hix);clear hP hO hI hl hix;go_enter Tryz.func113,Tryz.ntmps113;go_wp2_with fail;refine hixH.out.mono ?_;rintro e w1 ⟨hO1,⟨rfl,hI1,hno⟩ | ⟨k,hk,rfl,hI1,hall,x,hx,hpx⟩⟩
 ·have R:DeAns base (some ⟨rb,0,none⟩) n cap L p I (.returned (.slice (some ⟨rb,0,none⟩) n cap)) w1 :=
   ⟨n,Nat.le_refl _,rfl,by rw[List.filter_eq_self.2 (fun y hy=>by rw[hno y hy];rfl)];exact hO1,hI1⟩
  clear hO1 hI1 hno;have RH:=Lib.hid R;clear R;go_wp2;go_ret;exact RH.out
 ·have hst:DeRel base rb n cap L p I (.int .i64 (k:Int)) (.int .i64 ((k:Int)+1)) w1:=⟨k,k+1,L,hk,rfl,by go_num,DelI.start hall hx hpx,hO1,hI1⟩;have hk1:((k:Int) == -1)=false:=beq_eq_false_iff_ne.2 (by omega);clear hO1 hI1 hall hx hpx;have hstH:=Lib.hid hst;clear hst;go_wp2_with fail;clear hOH hIH hixH hk1
  go_loopw [5,6] (fun i j wr=>DeRel base rb n cap L p I i j wr) (fun _ j _=>n-(intOf j).toNat)
  case atStart=>exact hstH.out
  case round =>
   clear hstH;obtain⟨i,j,M,hj,rfl,rfl,hD,hO,hI⟩:=hrel;have hij:=hD.lt;have hMl:M.length=n:=hD.len.trans hlH.out;have hlt2:=own_lt hO
   by_cases hlt:j<n
   ·obtain⟨x,hx⟩:∃ x,L[j]? = some x:=⟨L[j]'(by have:=hlH.out;omega),List.getElem?_eq_getElem _⟩;have hMx:M[j]? = some x:=by
     have h1:M[j]? = (M.drop j)[0]?:=by rw[List.getElem?_drop,Nat.add_zero]
     rw[h1,hD.high,List.getElem?_drop,Nat.add_zero];exact hx
    obtain⟨d0,d1,d2,d3⟩:=cells_GRun hO.slAt hMx;rw[Nat.zero_add]at d0 d1 d2 d3;obtain⟨o,ho⟩:∃ o,M[i]? = some o:=⟨M[i]'(by omega),List.getElem?_eq_getElem _⟩;have hba:=(Below.refl wr.heap.size wr).alloc (Nat.le_refl _) (.cells #[.int .i64 x.work,.int .i64 x.worker,.int .i64 x.from_,.int .i64 x.end_] 144);have hcall:=hPH.out.call j x wr _ hx hI hba;unfold gvals at hcall;have hxok:RGRun.ok wr x:=hO.2 x (List.mem_of_getElem? hMx)
    cases hp:p x
    ·rw[hp]at hcall;have hD2:=hD.keep hx hp;have R:∀ w',I (j+1) w'→w'.heap[rb]? = (wr.alloc (.cells #[.int .i64 x.work,.int .i64 x.worker,.int .i64 x.from_,.int .i64 x.end_] 144)).heap[rb]? →
       (∀ c,c<4→w'.frozen? ⟨rb,0+i*4+c,none⟩=false∧∃ u,w'.cell? ⟨rb,0+i*4+c,none⟩=some u)∧DeRel base rb n cap L p I (.int .i64 ((i:Int)+1)) (.int .i64 ((j:Int)+1)) ((((w'.setCell ⟨rb,i*4,none⟩ (.int .i64 x.work)).setCell ⟨rb,i*4+1,none⟩ (.int .i64 x.worker)).setCell ⟨rb,i*4+2,none⟩ (.int .i64 x.from_)).setCell ⟨rb,i*4+3,none⟩ (.int .i64 x.end_)):=by
      intro w' h1 h2;have hO2:Own RGRun 144 w' base (.slice (some ⟨rb,0,none⟩) n cap) M:=own_same hO (h2.trans (hba.block rb hlt2)) (fun y _ hy=>grun_okW _ _ y hy);obtain⟨u0,u1,u2,u3⟩:=cells_GRun hO2.slAt ho;refine⟨fun c hc=>⟨own_fz hO2 _,?_⟩,i+1,j+1,M.set i x,hlt,by go_num,by go_num,hD2,?_,?_⟩
      ·match c,hc with
       | 0,_=>exact⟨_,u0⟩
       | 1,_=>exact⟨_,u1⟩
       | 2,_=>exact⟨_,u2⟩
       | 3,_=>exact⟨_,u3⟩
      ·exact own_put hO2 (by omega) x (grun_okW _ _ x hxok) (fun y hy=>grun_okW _ _ y hy)
      ·exact hPH.out.stab _ _ _ h1 (grown_setCells rb (RGRun.vals x) (i*4) w')
     clear hD hD2;obtain⟨hOH,hIH,hxH,hpH,hcallH,RH,hlt2H,hMxH,hoH,hbaH,hMlH,hxokH⟩:=hq2 hO (hq2 hI (hq2 hx (hqc hp hcall R hlt2 hMx ho hba hMl (Lib.hid hxok))));clear hO hI hx hp hcall R hlt2 hMx ho hba hMl hxok;go_wp2_with fail
     go_at_fn g
     refine hcallH.out.mono ?_;rintro e w5 ⟨rfl,h5,h6,h7⟩;have hv:=h7 wr.heap.size (.inr (Nat.le_refl _)) (by simp);have v0:=(World.cell?_of_block (a:=⟨wr.heap.size,0,none⟩) hv).trans (cell_new wr _ _ 0);have v1:=(World.cell?_of_block (a:=⟨wr.heap.size,1,none⟩) hv).trans (cell_new wr _ _ 1);have v2:=(World.cell?_of_block (a:=⟨wr.heap.size,2,none⟩) hv).trans (cell_new wr _ _ 2);have v3:=(World.cell?_of_block (a:=⟨wr.heap.size,3,none⟩) hv).trans (cell_new wr _ _ 3);simp only[List.getElem?_toArray,List.getElem?_cons_succ,List.getElem?_cons_zero]at v0 v1 v2 v3;obtain⟨R4,R5⟩:=RH.out w5 h5 (h7 rb (.inl rfl) (by simp;have:=hlt2H.out;omega));obtain⟨f0,c0',k0⟩:=R4 0 (by omega);obtain⟨f1,c1',k1⟩:=R4 1 (by omega);obtain⟨f2,c2',k2⟩:=R4 2 (by omega);obtain⟨f3,c3',k3⟩:=R4 3 (by omega);simp only[Nat.add_zero,Nat.zero_add]at f0 f1 f2 f3 k0 k1 k2 k3;clear h5 h6 h7 hv R4;have R5H:=Lib.hid R5;clear R5;go_wp2;refine⟨?rel,?measure⟩
     case measure=>(simp[intOf];omega)
     case rel=>first | exact R5H.out | exact⟨rfl,R5H.out⟩
    ·rw[hp]at hcall;have hD2:=hD.skip hx hp;have R:∀ w',I (j+1) w'→w'.heap[rb]? = (wr.alloc (.cells #[.int .i64 x.work,.int .i64 x.worker,.int .i64 x.from_,.int .i64 x.end_] 144)).heap[rb]? →
       DeRel base rb n cap L p I (.int .i64 (i:Int)) (.int .i64 ((j:Int)+1)) w':=fun w' h1 h2 =>
      ⟨i,j+1,M,hlt,rfl,by go_num,hD2,own_same hO (h2.trans (hba.block rb hlt2)) (fun y _ hy=>grun_okW _ _ y hy),h1⟩
     clear hD hD2;obtain⟨hOH,hIH,hxH,hpH,hcallH,RH,hlt2H,hMxH,hoH,hbaH,hMlH,hxokH⟩:=hq2 hO (hq2 hI (hq2 hx (hqc hp hcall R hlt2 hMx ho hba hMl (Lib.hid hxok))));clear hO hI hx hp hcall R hlt2 hMx ho hba hMl hxok;go_wp2_with fail
     go_at_fn g
     refine hcallH.out.mono ?_;rintro e w5 ⟨rfl,h5,h6,h7⟩;have R5:=RH.out w5 h5 (h7 rb (.inl rfl) (by simp;have:=hlt2H.out;omega));clear h5 h6 h7;have R5H:=Lib.hid R5;clear R5;go_wp2;refine⟨?rel,?measure⟩
     case measure=>(simp[intOf];omega)
     case rel=>first | exact R5H.out | exact⟨rfl,R5H.out⟩
   ·obtain rfl:j=n:=by omega
    have hcells:∀ q,q<(j-i)*4→(wr.cell? ⟨rb,i*4+q,none⟩).isSome=true∧wr.frozen? ⟨rb,i*4+q,none⟩=false:=by
     intro q hq;obtain⟨cur,a,b,c,d,e1,f,_⟩:=own_open hO;refine⟨?_,own_fz hO _⟩;have hlt4:i*4+q<cur.size:=by rw[e1];show _<cap*4;omega
     unfold World.cell?;rw[b];simp[hlt4]
    obtain⟨vs,hvl,hclr⟩:∃ vs:List Value,vs.length=(j-i)*4∧∀ ty,(Builtin.clear_ #[58] ty #[.slice (some ⟨rb,i*4,none⟩) (j-i) (cap-i)]).run Tryz.prog wr = .ok (.tuple #[]) (wr.setCells rb (i*4) vs):=by
     have h0:=fun ty=>run_clear_N (P:=Tryz.prog) wr 58 144 ty (.agg #[.int .i64 0,.int .i64 0,.int .i64 0,.int .i64 0]) 4 Tryz.underlying58 Tryz.zeroValue144 (by decide) (by decide) rb (i*4) (j-i) (cap-i) (by omega) (by omega) (fun q hq=>(hcells q hq).1) (fun q hq=>(hcells q hq).2);exact⟨_,(h0 0).1,fun ty=>(h0 ty).2⟩
    have hO2:=own_wipe hO (i:=i) (by omega) vs hvl (fun y hy=>grun_okW _ _ y hy);have hI2:=hPH.out.stab _ _ _ hI (grown_setCells rb vs (i*4) wr);have R:DeAns base (some ⟨rb,0,none⟩) j cap L p I (.returned (.slice (some ⟨rb,0,none⟩) i cap)) (wr.setCells rb (i*4) vs) :=
     ⟨i,by omega,rfl,by rw[hD.low,List.take_of_length_le (by have:=hlH.out;omega)]at hO2;exact hO2,hI2⟩
    have hji:i≤j:=by omega
    have hjc:j≤cap:=by omega
    clear hD hO2 hI2 hcells hcap;obtain⟨hOH,hIH,hvlH,RH,hMlH,hlt2H⟩:=hq2 hO (hqb hI hvl R hMl (Lib.hid hlt2));clear hO hI hvl R hMl hlt2;go_wp2;go_ret;exact RH.out
end Go.Proofs.YtbnkoefljcekbaaGreatDoor.C9