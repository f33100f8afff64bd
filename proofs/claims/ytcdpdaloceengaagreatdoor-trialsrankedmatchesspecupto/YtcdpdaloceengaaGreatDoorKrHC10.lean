/-
 Several texts of mine as one, without what is not wanted here: XRnK.
-/
import Derived.Test.YtcdpdaloceengaaGreatDoorKrEC10
import Derived.Test.YtcdpdaloceengaaGreatDoorKrFC10
set_option linter.unusedVariables false
set_option linter.unusedSimpArgs false
set_option maxRecDepth 100000
set_option maxHeartbeats 8000000
namespace Go.Proofs.YtcdpdaloceengaaGreatDoor.C10
open Go.ChangeShapes Go.WideShapes Go.Deep Go.RowKit Go.Maps
theorem own_nr {w w':World} (x:NRec) (h:RNRec.ok w x):RNRec.ok w' x:=h
def rowN (f:ByteArray→Rec) (O:List ByteArray):List NRec:=O.map fun s=>nrec s (f s)
def RkRel (f:ByteArray→Rec) (names:List ByteArray) (w3:World) (v i:Value) (wr:World):Prop :=
 ∃ (k c:Nat) (A:Option Addr) (O:List ByteArray),k≤names.length∧i = .int .i64 k∧v = .slice A k c∧Own RNRec 49 wr w3.heap.size v (rowN f O)∧InsN f names k O∧Below w3.heap.size w3 wr
def RjRel (f:ByteArray→Rec) (O:List ByteArray) (s:ByteArray) (m:Nat) (W5:World) (v:Value) (wr:World):Prop :=
 ∃ a:Nat,a≤m∧v = .int .i64 a∧(∀ y∈O.drop a,earB (f s) (f y)=true)∧Below W5.heap.size W5 wr
def RoRelN (O:List ByteArray) (w3:World) (v i:Value) (wr:World):Prop :=
 ∃ (k c:Nat) (A:Option Addr),k≤O.length∧i = .int .i64 k∧v = .slice A k c∧Own RStr 9 wr w3.heap.size v (O.take k)∧Below w3.heap.size w3 wr
theorem keep8q {W5 W W':World} {a0 a1 a2 a3 a4 a5 a6 a7:Addr} {v0 v1 v2 v3 v4 v5 v6 v7:Value} (hb:Below W.heap.size W W') (h:Below W5.heap.size W5 W∧W.cell? a0=some v0∧W.cell? a1=some v1∧W.cell? a2=some v2∧W.cell? a3=some v3∧W.cell? a4=some v4∧W.cell? a5=some v5∧W.cell? a6=some v6∧W.cell? a7=some v7) :
  Below W5.heap.size W5 W'∧W'.cell? a0=some v0∧W'.cell? a1=some v1∧W'.cell? a2=some v2∧W'.cell? a3=some v3∧W'.cell? a4=some v4∧W'.cell? a5=some v5∧W'.cell? a6=some v6∧W'.cell? a7=some v7:=by
 obtain⟨h,h0,h1,h2,h3,h4,h5,h6,h7⟩:=h;exact⟨h.trans (hb.mono h.size),keepC hb h0,keepC hb h1,keepC hb h2,keepC hb h3,keepC hb h4,keepC hb h5,keepC hb h6,keepC hb h7⟩
theorem heap_newN (w:World) (vs:Array Value) (T:TypeId):(w.alloc (.cells vs T)).heap[w.heap.size]? = some (.cells vs T (0,0)):=heap_alloc_new w (.cells vs T)
theorem rranked_any (A An:Option Addr) (len cap nn nc:Nat) (l:List TestRun) (names:List ByteArray) (last:Int) (w:World) (hm:MaxLenAt w) (hl:SlAt RTestRun w A len l) (hn:SlAt RStr w An nn names) (hsz:∀ r∈l,r.test.size<4294967281) (hszN:∀ s∈names,s.size<4294967281) (hnn:nn≤9223372036854775807) (c:Int) (hF:rankF l names last=c) :
  Calls Tryz.prog 5 #[.slice A len cap,.slice An nn nc,.int .i64 last] w (RankOut l names last c w):=by
 have hll:=hl.1;have hnl:=hn.1;obtain⟨Z,hZ⟩:∃ Z,RankOut l names last c w=Z:=⟨_,rfl⟩;rw[hZ];unfold rankF at hF;obtain⟨h0,hh⟩:∃ h0,histF l=h0:=⟨_,rfl⟩;rw[hh]at hF;obtain⟨hmH,hlH,hllH,hnH,hnlH,hszH,hszNH,hZH,hFH,hhH⟩:=hq2 hm (hqc hl hll hn hnl hsz hszN hZ hF (Lib.hid hh));clear hm hl hll hn hnl hsz hszN hZ hF hh;go_enter Tryz.func5,Tryz.ntmps5;go_wp2_with fail;refine(rhist_any A len cap l _ hmH.out hlH.out hszH.out h0 hhH.out).mono ?_;rintro e w1 ⟨rfl,hw1⟩
 by_cases e0:h0=0
 ·subst e0;have hF:=hFH.out;clear hFH;rw[if_pos rfl]at hF
  by_cases hn3:nn≤300
  ·have hg3:decide ((nn:Int)>300)=false:=decide_eq_false (by omega);rw[if_pos (by have:=hnlH.out;omega)]at hF;obtain⟨d,hd⟩:∃ d,nmErr none names=d:=⟨_,rfl⟩;rw[hd]at hF;have RF:d≠0→∀ W,Below w.heap.size w W→Z (.returned (.tuple #[.slice none 0 0,.int .i64 d])) W:=fun hd0 W h=>by
    rw[if_neg hd0]at hF;rw[← hZH.out,← hF];exact rank_nil _ _ _ _ _ _ hd0 h
   obtain⟨hw1H,hdH,RFH,hFH⟩:=hq2 hw1 (hq2 hd (hq2 RF (Lib.hid hF)));clear hw1 hd RF hF;go_wp2_with fail
   go_loopw [29] (fun i wr=>NmRel names d w i wr) (fun i _=>nn-(intOf i).toNat)
   case atStart=>exact⟨0,Nat.zero_le _,rfl,hdH.out,hw1H.out⟩
   case round =>
    obtain⟨k,hk,rfl,hck,hb⟩:=hrel;have hkl:k≤nn:=by have:=hnlH.out;omega
    have hbs:=hb.size
    by_cases hlt:k<nn
    ·obtain⟨b,off,hA,_⟩:=hnH.out.2.1 (by omega);have hsn:=hnH.out.below hb;rw[hA]at hsn ⊢;obtain⟨x,hx⟩:∃ x,names[k]? = some x:=⟨names[k]'(by have:=hnlH.out;omega),List.getElem?_eq_getElem _⟩;have c0:=cell_Str hsn hx;have hkl2:k+1≤names.length:=by have:=hnlH.out;omega
     have hpn:prevN names (k+1)=some x:=by rw[prevN,if_neg (by omega),show k+1-1=k from rfl,hx]
     have hxz:=hszNH.out x (List.mem_of_getElem? hx);rw[drop_cons hx,nmErr]at hck;obtain⟨b1,hb1⟩:∃ b,pathB x=b:=⟨_,rfl⟩;rw[hb1]at hck;obtain⟨hxH,hbH,hb1H,hpnH,hckH,hkl2H,hxzH,hsnH,hAH⟩:=hqc hx hb hb1 hpn hck hkl2 hxz hsn (Lib.hid hA);clear hx hb hb1 hpn hck hkl2 hxz hsn hA;go_wp2_with fail;refine(risPath_any x _ (hmH.out.below hbH.out) hxzH.out b1 hb1H.out).mono ?_;rintro e w2 ⟨rfl,hw2⟩;have hbw1:=hbH.out.trans (hw2.mono hbs);obtain⟨hw2H,hbw1H⟩:=hq2 hw2 (Lib.hid hbw1);clear hw2 hbw1;have hck:=hckH.out;clear hckH
     cases b1
     ·rw[if_neg (by simp)]at hck;have hcd:d=5:=hck.symm;subst hcd;have R:=RFH.out (by decide) _ hbw1H.out;clear hck;have RH:=Lib.hid R;clear R;go_wp2;exact RH.out
     ·rw[if_pos rfl]at hck
      by_cases hk0:k=0
      ·subst hk0;rw[show prevN names 0=none from rfl,Option.map_none,if_neg (by decide)]at hck;have R:NmRel names d w (.int .i64 1) w2:=⟨1,hkl2H.out,by go_num,by rw[show prevN names 1=_ from hpnH.out];exact hck,hbw1H.out⟩;obtain⟨RH,hckH⟩:=hq2 R (Lib.hid hck);clear R hck;go_wp2;refine⟨?rel,?measure⟩
       case measure=>(simp[intOf];omega)
       case rel=>first | exact RH.out | exact⟨rfl,RH.out⟩
      ·obtain⟨j,rfl⟩:∃ j,k=j+1:=⟨k-1,by omega⟩;obtain⟨y,hy⟩:∃ y,names[j]? = some y:=⟨names[j]'(by have:=hnlH.out;omega),List.getElem?_eq_getElem _⟩;have hsn2:=hnH.out.below hbw1H.out;rw[hAH.out]at hsn2;have d0:=cell_Str hsn2 hy;have hpr:prevN names (j+1)=some y:=by rw[prevN,if_neg (by omega),show j+1-1=j from rfl,hy]
       rw[hpr,Option.map_some]at hck;clear hpr
       cases hle:sle x y
       ·have hle':(Op.bytesLess x.toList y.toList||x.toList==y.toList)=false:=hle;rw[hle,if_neg (by decide)]at hck;have R:NmRel names d w (.int .i64 (j+1+1)) w2:=⟨j+1+1,hkl2H.out,by go_num,by rw[hpnH.out];exact hck,hbw1H.out⟩;obtain⟨RH,hleH,hckH,hyH,hsn2H⟩:=hqb R hle hck hy (Lib.hid hsn2);clear R hle hck hy hsn2;go_wp2;refine⟨?rel,?measure⟩
        case measure=>(simp[intOf];omega)
        case rel=>first | exact RH.out | exact⟨rfl,RH.out⟩
       ·have hle':(Op.bytesLess x.toList y.toList||x.toList==y.toList)=true:=hle;rw[hle,if_pos rfl]at hck;have hcd:d=8:=hck.symm;subst hcd;have R:=RFH.out (by decide) _ hbw1H.out;clear hck;obtain⟨RH,hleH,hyH,hsn2H⟩:=hq2 R (hq2 hle (hq2 hy (Lib.hid hsn2)));clear R hle hy hsn2;go_wp2;exact RH.out
    ·obtain rfl:k=nn:=by omega
     have e:names.drop k = []:=List.drop_eq_nil_of_le (by have:=hnlH.out;omega);rw[e]at hck;have hc0:d=0:=by rw[← hck];unfold nmErr;rfl
     subst hc0;clear hck e;have hF:=hFH.out;rw[if_pos rfl]at hF
     by_cases hi:inR 1 3000 last=true
     ·rw[if_pos hi]at hF;subst hF;have hj:=inR_true hi;obtain⟨hl3,_⟩:=histF_ok hhH.out;have hsec:=histF_secs hhH.out;obtain⟨f,hf⟩:∃ f,recOf last l=f:=⟨_,rfl⟩;have hfp:∀ s,RecP (f s):=fun s=>by rw[← hf];exact recOf_p hhH.out last s
      have hfo:∀ s,RecOk 3000 (f s):=fun s=>by rw[← hf];exact recOf_ok hhH.out last s
      have hrise:=(nmErr_rise names none hdH.out).2;have hb0:=hb;obtain⟨hbH,hsecH,hfH,hfpH,hfoH,hriseH,hb0H⟩:=hq2 hb (hq2 hsec (hqb hf hfp hfo hrise (Lib.hid hb0)));clear hb hsec hf hfp hfo hrise hb0;go_wp2_with (go_at_call 21;refine(within_r _ _ _ _).mono ?_;rintro e wz ⟨rfl,rfl⟩);obtain⟨w3,rfl⟩:∃ W,W=wz:=⟨_,rfl⟩;have hst:RkRel f names w3 (.slice none 0 0) (.int .i64 0) w3:=⟨0,0,none,[],Nat.zero_le _,rfl,rfl,Own.nil _ _,⟨by simp,List.Pairwise.nil⟩,Below.refl _ _⟩;have hbw3:Below w.heap.size w w3:=hbH.out;obtain⟨hstH,hbw3H⟩:=hq2 hst (Lib.hid hbw3);clear hst hbw3
      go_loopw [11,54] (fun v i wr=>RkRel f names w3 v i wr) (fun _ i _=>k-(intOf i).toNat)
      case atStart=>exact hstH.out
      case round =>
       clear hstH;obtain⟨m,cap2,A2,O,hm2,rfl,rfl,hown,hO,hb2⟩:=hrel;have hOl:O.length=m:=hO.len hm2;have hbww:=hbw3H.out.trans (hb2.mono hbw3H.out.size);have hkl3:names.length=k:=hnlH.out
       by_cases hlt2:m<k
       ·have hsn:=hnH.out.below hbww;obtain⟨bn,on,hAn,_⟩:=hsn.2.1 (by omega);rw[hAn]at hsn ⊢;obtain⟨s,hs⟩:∃ s,names[m]? = some s:=⟨names[m]'(by omega),List.getElem?_eq_getElem _⟩;have es:=cell_Str hsn hs;have hsok:=hsn.2.2 s (List.mem_of_getElem? hs);have hfs:recF last s l=f s:=by rw[← hfH.out];rfl
        have hrec:=recordOf_any A len cap l s last wr (hlH.out.below hbww) (by have:=hllH.out;omega) hsecH.out hj.1 hj.2;have hfos:=hfoH.out s;rw[hfs]at hrec;obtain⟨fs,hfe⟩:∃ x,f s=x:=⟨_,rfl⟩;rw[hfe]at hrec hfos;obtain⟨sb,st,sa⟩:=fs;simp only at hrec;have hrok:RNRec.ok w (⟨s,sb,st,sa⟩:NRec):=by
         obtain⟨⟨p1,p2⟩,⟨p3,p4⟩,p5,p6⟩:=hfos;simp only at p1 p2 p3 p4 p5 p6;refine⟨hsok,?_,?_,?_⟩
         ·show I64 sb;unfold I64;omega
         ·show I64 st;unfold I64;omega
         ·show I64 sa;unfold I64;omega
        have hm0:(0:Int)≤(m:Int):=by omega
        have hmn:(m:Int)<(k:Int):=by omega
        obtain⟨hownH,hOH,hb2H,hOlH,hbwwH,hsnH,hAnH,hsH,hsokH,hfsH,hrecH,hfosH,hfeH,hrokH,hkl3H⟩:=hq2 hown (hq2 hO (hqb hb2 hOl hbww hsn (hqc hAn hs hsok hfs hrec hfos hfe hrok (Lib.hid hkl3))));clear hown hO hb2 hOl hbww hsn hAn hs hsok hfs hrec hfos hfe hrok hkl3;go_wp2_with fail;refine hrecH.out.mono ?_;rintro e w4 ⟨rfl,hb4⟩;obtain⟨W5,hW5⟩:∃ Y,w4.alloc (.cells #[.string s,.int .i64 sb,.int .i64 st,.int .i64 sa] 49)=Y:=⟨_,rfl⟩;obtain⟨wb,hwb⟩:∃ b,w4.heap.size=b:=⟨_,rfl⟩;have hbr5:Below w4.heap.size w4 W5:=by rw[← hW5];exact(Below.refl _ _).alloc (Nat.le_refl _) _
        have hB5:Blk W5 wb [.string s,.int .i64 sb,.int .i64 st,.int .i64 sa]:=by rw[← hW5,← hwb];exact blk_new w4 [.string s,.int .i64 sb,.int .i64 st,.int .i64 sa] _
        have hb45:=hb4.trans (hbr5.mono hb4.size);have hb5:=hb2H.out.trans (hb45.mono hb2H.out.size);have hown5:=own_kp hownH.out (below_g hb45) (fun b _=>by simp) (fun x _ hx=>own_nr x hx);have Rnx:∀ a,a≤m→(∀ y∈O.drop a,earB (f s) (f y)=true)→(∀ y,0<a→O[a-1]? = some y→earB (f s) (f y)=false)→∀ V A' c',Own RNRec 49 V w3.heap.size (.slice A' (m+1) c') (rowN f (O.take a)++(⟨s,sb,st,sa⟩:NRec)::rowN f (O.drop a))→Below w3.heap.size w3 V→RkRel f names w3 (.slice A' (m+1) c') (.int .i64 ((m:Int)+1)) V:=fun a ha h1 h2 V A' c' ho hV=>by
         refine⟨m+1,c',A',O.take a++s::O.drop a,by have:=hkl3H.out;omega,by go_num,rfl,?_,hOH.out.put hfpH.out hsH.out hriseH.out (by have:=hOlH.out;omega) h1 h2,hV⟩;unfold rowN at ho ⊢;rw[List.map_append,List.map_cons];have:nrec s (f s)=⟨s,sb,st,sa⟩:=by rw[hfeH.out];rfl
         rw[this];exact ho
        have hst2:RjRel f O s m W5 (.int .i64 m) W5:=⟨m,Nat.le_refl _,rfl,fun y hy=>(by rw[List.drop_of_length_le (by have:=hOlH.out;omega)]at hy;cases hy),Below.refl _ _⟩;have hm4:m≤4000:=by have:=hkl3H.out;omega
        clear es;obtain⟨hb4H,hW5H,hwbH,hbr5H,hB5H,hb45H,hb5H,hown5H,RnxH,hst2H⟩:=hq2 hb4 (hqc hW5 hwb hbr5 hB5 hb45 hb5 hown5 Rnx (Lib.hid hst2));clear hb4 hW5 hwb hbr5 hB5 hb45 hb5 hown5 Rnx hst2;go_wp2_with fail;simp only[hW5H.out,hwbH.out]
        go_loopw [15] (fun v wq=>RjRel f O s m W5 v wq) (fun v _=>(intOf v).toNat)
        case atStart=>exact hst2H.out
        case round =>
         clear hst2H;obtain⟨a,ha,rfl,hdrop,hbq⟩:=hrel;have hBr:=blk_below hB5H.out (by simp) hbq
         by_cases ha0:a=0
         ·subst ha0;have hlast:∀ y,0<0→O[0-1]? = some y→earB (f s) (f y)=false:=fun y h=>absurd h (Nat.lt_irrefl _);have hS0:Below W5.heap.size W5 wr:=hbq;obtain⟨hBrH,hbqH⟩:=hq2 hBr (Lib.hid hbq);clear hBr hbq;go_wp2_with fail;refine wp_region_held_drew (S:=fun V:World=>Below W5.heap.size W5 V) (by kernel_rfl) hS0.drew (fun hHeld=>?_);refine tkS [(0,64),(1,65),(2,66)] ?_;(iterate 3 (refine tkL ?_ ?_ ?_;rotate_left;(· intro w hSw;(try dsimp only at hSw);go_simp;(try with_reducible rfl));(try simp only[Act.put,tkA,tkB,tkC])));refine tkE ?_;refine tkS [(3,67),(4,68),(5,69),(6,70),(7,71),(8,72),(9,73)] ?_;(iterate 7 (refine skL ?_;(try simp only[Act.put,tkA,tkB,tkC])));refine tkE ?_;refine tkS [(10,74)] ?_;(iterate 1 (refine tkL ?_ ?_ ?_;rotate_left;(· intro w hSw;(try dsimp only at hSw);go_simp;(try with_reducible rfl));(try simp only[Act.put,tkA,tkB,tkC])));refine tkE ?_;refine wpAnyH_done (by kernel_rfl) ?_ _;clear hHeld;have hBq:=blk_below hB5H.out (by simp) hS0.drew;have g0:=(hBq 0 _ rfl).1;have g1:=(hBq 1 _ rfl).1;have g2:=(hBq 2 _ rfl).1;have g3:=(hBq 3 _ rfl).1;have hownq:=own_kp hown5H.out (below_g hS0.drew) (fun b _=>by simp) (fun x _ hx=>own_nr x hx);have hba:=(Below.refl (wr.drew:World).heap.size wr.drew).alloc (Nat.le_refl _) (.cells #[.string s,.int .i64 sb,.int .i64 st,.int .i64 sa] 49);have hownb:=own_kp hownq (below_g hba) (fun b _=>by simp) (fun x _ hx=>own_nr x hx);have hnew:((wr.drew:World).alloc (.cells #[.string s,.int .i64 sb,.int .i64 st,.int .i64 sa] 49)).heap[(wr.drew:World).heap.size]? = some (.cells (RNRec.vals (⟨s,sb,st,sa⟩:NRec)).toArray 49 (0,0)):=heap_newN _ _ _
          have hwx:=(hS0.drew:Below W5.heap.size W5 wr.drew);have hbq3:Below w3.heap.size w3 wr.drew:=hb5H.out.trans (hwx.mono hb5H.out.size);have hcall:=ins_anyNr w3.heap.size m cap2 0 (wr.drew:World).heap.size A2 (rowN f (O.take 0)) (rowN f (O.drop 0)) (⟨s,sb,st,sa⟩:NRec) _ (by unfold rowN;rw[List.length_map,List.length_take,hOlH.out];omega) (by unfold rowN;rw[← List.map_append,List.take_append_drop];exact hownb) hnew (own_nr _ hrokH.out) (fun g hg=>by have:=(hownq.1.lt g hg).2;omega) (Nat.le_trans hbq3.size hba.size) (by omega)
          (try rw[hcd]at hcall)
          have Rn:=RnxH.out 0 (by omega) hdrop hlast;clear hBq hownq hownb hnew;obtain⟨hbaH,hwxH,hbq3H,hcallH,RnH⟩:=hqb hba hwx hbq3 hcall (Lib.hid Rn);clear hba hwx hbq3 hcall Rn;clear hdrop hlast;go_wp2_with fail;clear g0 g1 g2 g3;refine hcallH.out.mono ?_;rintro e w9 ⟨A9,c9,rfl,ho9,hg9⟩;have hb9:Below w3.heap.size w3 w9:=(hbq3H.out.trans (hbaH.out.mono hbq3H.out.size)).grown hg9 (by have:=hbq3H.out.size;have:=hbaH.out.size;omega) (fun b hb=>(hown5H.out.1.lt b hb).1);have R:=RnH.out w9 A9 c9 ho9 hb9;clear ho9 hg9 hb9;have RH:=Lib.hid R;clear R;go_wp2;refine⟨?rel,?measure⟩
          case measure=>(simp[intOf];omega)
          case rel=>first | exact RH.out | exact⟨rfl,RH.out⟩
         ·obtain⟨b,rfl⟩:∃ b,a=b+1:=⟨a-1,by omega⟩;have hal:b<O.length:=by have:=hOlH.out;omega
          obtain⟨y,hy⟩:∃ y,O[b]? = some y:=⟨O[b]'hal,List.getElem?_eq_getElem _⟩;have hyr:(rowN f O)[b]? = some (nrec y (f y)):=by unfold rowN;rw[List.getElem?_map,hy];rfl
          have hownq:=own_kp hown5H.out (below_g hbq) (fun b _=>by simp) (fun x _ hx=>own_nr x hx);have hso:=hownq.slAt;obtain⟨bo,oo,hAo,_⟩:=hso.2.1 (by omega);subst hAo;obtain⟨f0,f1,f2,f3⟩:=cells_NRec hso hyr;have hcd:((b+1:Nat):Int)=(b:Int)+1:=by omega
          have hbk:(b:Int)<(m:Int):=by omega
          have hsu:(b:Int)+1-1=(b:Int):=by omega
          have hgt:decide ((b:Int)+1>0)=true:=decide_eq_true (by omega);have hwr:IntKind.i64.wrap (b:Int)=(b:Int):=IntWalk.i64_in _ (by omega);obtain⟨bf,hbf⟩:∃ v,earB (f s) (f y)=v:=⟨_,rfl⟩;have hyo:=hfoH.out y;have hsy:=hfosH.out;have hee:earB (f s) (f y)=earB (⟨sb,st,sa⟩:Rec) (f y):=by rw[hfeH.out]
          obtain⟨fy,hfy⟩:∃ x,f y=x:=⟨_,rfl⟩;rw[hfy]at hyo hee f1 f2 f3;obtain⟨yb,yt,ya⟩:=fy;simp only[nrec]at f0 f1 f2 f3;have hS0:Below W5.heap.size W5 wr∧wr.cell? ⟨wb,0,none⟩=some (.string s)∧wr.cell? ⟨wb,1,none⟩=some (.int .i64 sb)∧wr.cell? ⟨wb,2,none⟩=some (.int .i64 st)∧wr.cell? ⟨wb,3,none⟩=some (.int .i64 sa)∧wr.cell? ⟨bo,oo+b*4,none⟩=some (.string y)∧wr.cell? ⟨bo,oo+b*4+1,none⟩=some (.int .i64 yb)∧wr.cell? ⟨bo,oo+b*4+2,none⟩=some (.int .i64 yt)∧wr.cell? ⟨bo,oo+b*4+3,none⟩=some (.int .i64 ya) :=
           ⟨hbq,(hBr 0 _ rfl).1,(hBr 1 _ rfl).1,(hBr 2 _ rfl).1,(hBr 3 _ rfl).1,f0,f1,f2,f3⟩
          clear f0 f1 f2 f3 hownq;simp only[hcd];obtain⟨hBrH,hbqH,hsoH,hS0H,hbfH,hyH,halH,hyrH,hyoH,hsyH,heeH,hfyH⟩:=hq2 hBr (hq2 hbq (hq2 hso (hqc hS0 hbf hy hal hyr hyo hsy hee (Lib.hid hfy))));clear hBr hbq hso hS0 hbf hy hal hyr hyo hsy hee hfy;go_wp2_with fail;refine wp_region_held_drew (S:=fun V:World=>Below W5.heap.size W5 V∧V.cell? ⟨wb,0,none⟩=some (.string s)∧V.cell? ⟨wb,1,none⟩=some (.int .i64 sb)∧V.cell? ⟨wb,2,none⟩=some (.int .i64 st)∧V.cell? ⟨wb,3,none⟩=some (.int .i64 sa)∧V.cell? ⟨bo,oo+b*4,none⟩=some (.string y)∧V.cell? ⟨bo,oo+b*4+1,none⟩=some (.int .i64 yb)∧V.cell? ⟨bo,oo+b*4+2,none⟩=some (.int .i64 yt)∧V.cell? ⟨bo,oo+b*4+3,none⟩=some (.int .i64 ya)) (by kernel_rfl) (keep8q (Below.refl _ _).drew hS0H.out) (fun hHeld=>?_);refine tkS [(0,64),(1,65),(2,66),(3,67),(4,68),(5,69),(6,70),(7,71),(8,72)] ?_;(iterate 9 (refine tkL ?_ ?_ ?_;rotate_left;(· intro w hSw;(try dsimp only at hSw);go_simp;(try with_reducible rfl));(try simp only[Act.put,tkA,tkB,tkC])));refine tkE ?_;refine wpAnyH_ready (rs:=[9]) (by kernel_rfl) (by simp) ?_;refine AllReadyH.cons (i:=9) rfl (fun K hK=>?_) AllReadyH.nil;go_simp;go_at_call 23;refine(earlier_any (⟨s,sb,st,sa⟩:NRec) (⟨y,yb,yt,ya⟩:NRec) _ hsyH.out hyoH.out bf (heeH.out.symm.trans (by rw[← hfyH.out];exact hbfH.out))).mono ?_;rintro e w7 ⟨rfl,hb7⟩;have hHeld:=keep8q hb7 hHeld;clear hb7;refine hK.out _ _ hHeld (fun hHeld=>?_);clear hK K
          (try simp only[Act.put,tkA,tkB,tkC])
          refine tkS [(10,74)] ?_;(iterate 1 (refine tkL ?_ ?_ ?_;rotate_left;(· intro w hSw;(try dsimp only at hSw);go_simp;(try with_reducible rfl));(try simp only[Act.put,tkA,tkB,tkC])));refine tkE ?_;refine wpAnyH_done (by kernel_rfl) ?_ _;have hS7:=hHeld.1;clear hHeld
          cases bf
          ·have hlast:∀ y,0<b+1→O[b+1-1]? = some y→earB (f s) (f y)=false:=fun y _ h=>by
            rw[Nat.add_sub_cancel,hyH.out]at h;injection h with h;rw[← h];exact hbfH.out
           obtain⟨a,hab⟩:∃ a,b+1=a:=⟨_,rfl⟩;have hbi:(b:Int)+1=(a:Int):=by omega
           rw[hab]at ha hdrop hlast;rw[hbi];clear hcd hsu hgt hbi hwr hbk;have hBq:=blk_below hB5H.out (by simp) hS7;have g0:=(hBq 0 _ rfl).1;have g1:=(hBq 1 _ rfl).1;have g2:=(hBq 2 _ rfl).1;have g3:=(hBq 3 _ rfl).1;have hownq:=own_kp hown5H.out (below_g hS7) (fun b _=>by simp) (fun x _ hx=>own_nr x hx);have hba:=(Below.refl (w7:World).heap.size w7).alloc (Nat.le_refl _) (.cells #[.string s,.int .i64 sb,.int .i64 st,.int .i64 sa] 49);have hownb:=own_kp hownq (below_g hba) (fun b _=>by simp) (fun x _ hx=>own_nr x hx);have hnew:((w7:World).alloc (.cells #[.string s,.int .i64 sb,.int .i64 st,.int .i64 sa] 49)).heap[(w7:World).heap.size]? = some (.cells (RNRec.vals (⟨s,sb,st,sa⟩:NRec)).toArray 49 (0,0)):=heap_newN _ _ _;have hwx:=(hS7:Below W5.heap.size W5 w7);have hbq3:Below w3.heap.size w3 w7:=hb5H.out.trans (hwx.mono hb5H.out.size);have hcall:=ins_anyNr w3.heap.size m cap2 a (w7:World).heap.size (some ⟨bo,oo,none⟩) (rowN f (O.take a)) (rowN f (O.drop a)) (⟨s,sb,st,sa⟩:NRec) _ (by unfold rowN;rw[List.length_map,List.length_take,hOlH.out];omega) (by unfold rowN;rw[← List.map_append,List.take_append_drop];exact hownb) hnew (own_nr _ hrokH.out) (fun g hg=>by have:=(hownq.1.lt g hg).2;omega) (Nat.le_trans hbq3.size hba.size) (by omega)
           (try rw[hcd]at hcall)
           have Rn:=RnxH.out a (by omega) hdrop hlast;clear hBq hownq hownb hnew;obtain⟨hbaH,hwxH,hbq3H,hcallH,RnH⟩:=hqb hba hwx hbq3 hcall (Lib.hid Rn);clear hba hwx hbq3 hcall Rn;clear hdrop hlast;go_wp2_with fail;clear g0 g1 g2 g3;refine hcallH.out.mono ?_;rintro e w9 ⟨A9,c9,rfl,ho9,hg9⟩;have hb9:Below w3.heap.size w3 w9:=(hbq3H.out.trans (hbaH.out.mono hbq3H.out.size)).grown hg9 (by have:=hbq3H.out.size;have:=hbaH.out.size;omega) (fun b hb=>(hown5H.out.1.lt b hb).1);have R:=RnH.out w9 A9 c9 ho9 hb9;clear ho9 hg9 hb9;have RH:=Lib.hid R;clear R;go_wp2;refine⟨?rel,?measure⟩
           case measure=>(simp[intOf];omega)
           case rel=>first | exact RH.out | exact⟨rfl,RH.out⟩
          ·have R:RjRel f O s m W5 (.int .i64 (b:Int)) w7:=⟨b,by omega,rfl,fun y hy=>(by
            obtain⟨b1,b2⟩:=List.getElem?_eq_some_iff.1 hyH.out;rw[List.drop_eq_getElem_cons b1,b2]at hy
            rcases List.mem_cons.1 hy with rfl | hy
            ·exact hbfH.out
            ·exact hdrop y hy),hS7⟩
           clear hdrop hS7;have RH:=Lib.hid R;clear R;go_wp2;refine⟨?rel,?measure⟩
           case measure=>exact(by simp[intOf])
           case rel=>first | exact RH.out | exact⟨rfl,RH.out⟩
       ·obtain rfl:m=k:=by omega
        have hans:RankAns l names last 0 O:=by
         unfold RankAns;rw[if_pos rfl,hfH.out,hkl3];exact hO
        have hsR:=hown.slAt;have hst9:RoRelN O wr (.slice none 0 0) (.int .i64 0) wr:=⟨0,0,none,Nat.zero_le _,rfl,rfl,Own.nil _ _,Below.refl _ _⟩;have hm5:m≤3000:=by omega
        obtain⟨W9,hW9⟩:∃ Y,wr=Y:=⟨_,rfl⟩;obtain⟨hownH,hOH,hb2H,hOlH,hbwwH,hansH,hsRH,hst9H,hkl3H,hW9H⟩:=hq2 hown (hqc hO hb2 hOl hbww hans hsR hst9 hkl3 (Lib.hid hW9));clear hown hO hb2 hOl hbww hans hsR hst9 hkl3 hW9;go_wp2_with fail
        go_loopw [16,85] (fun v i wq=>RoRelN O W9 v i wq) (fun _ i _=>m-(intOf i).toNat)
        case atStart=>rw[← hW9H.out];exact hst9H.out
        case round =>
         clear hst9H;obtain⟨j,c6,A6,hj6,rfl,rfl,hown6,hb6⟩:=hrel;rw[← hW9H.out]at hown6 hb6;have hb6s:=hb6.size
         by_cases hjl:j<m
         ·have hsR6:=hsRH.out.below hb6;obtain⟨br,or_,hAr,_⟩:=hsR6.2.1 (by omega);rw[hAr]at hsR6 ⊢;obtain⟨y,hy⟩:∃ y,O[j]? = some y:=⟨O[j]'(by have:=hOlH.out;omega),List.getElem?_eq_getElem _⟩;have hyr:(rowN f O)[j]? = some (nrec y (f y)):=by unfold rowN;rw[List.getElem?_map,hy];rfl
          obtain⟨f0,f1,f2,f3⟩:=cells_NRec hsR6 hyr;have hyk:=(hsR6.2.2 _ (List.mem_of_getElem? hyr)).1;have htk:O.take (j+1)=O.take j ++ [y]:=by rw[List.take_add_one,hy];rfl
          obtain⟨fy,hfy⟩:∃ x,f y=x:=⟨_,rfl⟩;rw[hfy]at f1 f2 f3;obtain⟨yb,yt,ya⟩:=fy;simp only[nrec]at f0 f1 f2 f3 hyk;have g0:(wr.alloc (.cells #[.string y,.int .i64 yb,.int .i64 yt,.int .i64 ya] 49)).cell? ⟨wr.heap.size,0,none⟩=some (.string y):=cell_new _ _ _ 0;have hnew:=slAt_new (R:=RStr) (wr.alloc (.cells #[.string y,.int .i64 yb,.int .i64 yt,.int .i64 ya] 49)) 9 y hyk;have hss:(wr.alloc (.cells #[.string y,.int .i64 yb,.int .i64 yt,.int .i64 ya] 49)).heap.size=wr.heap.size+1:=by simp
          rw[hss]at hnew;have hbn:=(hb6.alloc hb6s (.cells #[.string y,.int .i64 yb,.int .i64 yt,.int .i64 ya] 49)).alloc (by simp;omega) (.cells #[.string y] 9);have hownn:=(hown6.alloc (.cells #[.string y,.int .i64 yb,.int .i64 yt,.int .i64 ya] 49)).alloc (.cells #[.string y] 9);rw[hW9H.out]at hownn hbn;have hm0:(0:Int)≤(j:Int):=by omega
          have hmn:(j:Int)<(m:Int):=by omega
          obtain⟨hyH,hyrH,hsR6H,hArH,hykH,htkH,hfyH,hnewH,hbnH,hownnH,hown6H,hb6H⟩:=hq2 hy (hq2 hyr (hq2 hsR6 (hqc hAr hyk htk hfy hnew hbn hownn hown6 (Lib.hid hb6))));clear hy hyr hsR6 hAr hyk htk hfy hnew hbn hownn hown6 hb6;go_wp2_with (at_builtin;go_loud (refine wpList_app rfl (.tmp 89) (.tmp 92) 23 rfl Tryz.underlying23 elem_Str (by decide) rfl hownnH.out (some ⟨wr.heap.size+1,0,none⟩) 1 1 [y] rfl hnewH.out ?nn ?ok ?c1 ?c2 ?c3 (j+1) ?c4 ?_))
          case nn=>intro h;cases h
          case ok=>exact fun _ _ _ _ h=>h
          case c1=>have:=hOlH.out;simp[maxLen] <;> omega
          case c2=>have:=hOlH.out;simp <;> omega
          case c3=>have:=hbnH.out.size;simp at this ⊢;omega
          case c4=>have:=hOlH.out;simp <;> omega
          intro A' c' w7 hown7 hg7 hat7 hb7;have R:RoRelN O W9 (.slice A' (j+1) c') (.int .i64 ((j:Int)+1)) w7:=⟨j+1,c',A',by have:=hOlH.out;omega,by go_num,rfl,by rw[htkH.out];exact hown7,hbnH.out.trans hb7⟩;clear hg7 hat7 hb7 hown7;have RH:=Lib.hid R;clear R;go_wp2;refine⟨?rel,?measure⟩
          case measure=>(simp[intOf];omega)
          case rel=>first | exact RH.out | exact⟨rfl,RH.out⟩
         ·obtain rfl:j=m:=by have:=hOlH.out;omega
          have e:O.take j=O:=List.take_of_length_le (by have:=hOlH.out;omega);rw[e]at hown6;have R:Z (.returned (.tuple #[.slice A6 j c6,.int .i64 0])) wr:=by
           rw[← hZH.out];exact⟨A6,j,c6,O,rfl,hown6.slAt,hansH.out,hm5,hbwwH.out.trans (hb6.mono hbwwH.out.size)⟩
          obtain⟨RH,hown6H,hb6H,eH⟩:=hq2 R (hq2 hown6 (hq2 hb6 (Lib.hid e)));clear R hown6 hb6 e;go_wp2;exact RH.out
     ·have hi2:inR 1 3000 last=false:=by simpa using hi
      rw[if_neg hi]at hF;subst hF;have R:Z (.returned (.tuple #[.slice none 0 0,.int .i64 1])) wr:=by rw[← hZH.out];exact rank_nil _ _ _ _ _ _ (by decide) hb
      clear hi;obtain⟨RH,hbH⟩:=hq2 R (Lib.hid hb);clear R hb;go_wp2_with (go_at_call 21;refine(within_r _ _ _ _).mono ?_;rintro e wz ⟨rfl,rfl⟩);exact RH.out
  ·have hg3:decide ((nn:Int)>300)=true:=decide_eq_true (by omega);rw[if_neg (by have:=hnlH.out;omega)]at hF;subst hF;have R:Z (.returned (.tuple #[.slice none 0 0,.int .i64 2])) w1:=by rw[← hZH.out];exact rank_nil _ _ _ _ _ _ (by decide) hw1
   obtain⟨RH,hw1H⟩:=hq2 R (Lib.hid hw1);clear R hw1;go_wp2;exact RH.out
 ·have hF:=hFH.out;rw[if_neg e0]at hF;subst hF;have h1':(h0 != 0)=true:=by simpa using e0
  have R:Z (.returned (.tuple #[.slice none 0 0,.int .i64 h0])) w1:=by rw[← hZH.out];exact rank_nil _ _ _ _ _ _ e0 hw1
  clear e0 hFH;obtain⟨RH,hw1H⟩:=hq2 R (Lib.hid hw1);clear R hw1;go_wp2;exact RH.out
end Go.Proofs.YtcdpdaloceengaaGreatDoor.C10