/-
 Several texts of mine as one, without what is not wanted here: XRnQ, XTriedP, XAwakeP, XLawVerd, XLawRk.
-/
import Derived.Test.YtcdpdaloceengaaGreatDoorKrKC10
import Derived.Test.YtcdpdaloceengaaGreatDoorKrLC10
import Derived.Test.YtcdpdaloceengaaGreatDoorKrIC10
set_option linter.unusedVariables false
set_option linter.unusedSimpArgs false
set_option maxRecDepth 100000
set_option maxHeartbeats 8000000
namespace Go.Proofs.YtcdpdaloceengaaGreatDoor.C10
open Go.ChangeShapes Go.WideShapes Go.Deep Go.RowKit Go.Maps
theorem elem_TestRunQ:Elem Tryz.prog 39 RTestRun.size 56:=elem_of (z:=.agg #[.string ByteArray.empty,.string ByteArray.empty,.int .i64 0,.bool false,.int .i64 0]) (by kernel_rfl) (by decide)
theorem own_cap {α:Type} {R:Rd α} {e:TypeId} {w:World} {base n cap:Nat} {A:Option Addr} {l:List α} (h:Own R e w base (.slice A n cap) l):n≤cap∧cap≤maxLen:=by
 have hl:=h.len
 rcases h.1.2 with ⟨e0,_⟩ | ⟨g,c,cur,e0,hb,hg,h1,h2,h3,h4⟩
 ·injection e0 with a b c;subst b c;exact⟨Nat.le_refl _,by unfold maxLen;omega⟩
 ·injection e0 with a b c;subst b c;exact⟨by omega,by omega⟩
def QnRel (l:List TestRun) (w:World) (v i:Value) (wr:World):Prop :=
 ∃ (k c:Nat) (A:Option Addr),k≤l.length∧i = .int .i64 k∧v = .slice A k c∧Own RStr 9 wr w.heap.size (.slice A k c) ((l.take k).map (·.test))∧Below w.heap.size w wr
def QoRel (l:List TestRun) (at_:Int) (s:ByteArray) (w:World) (v i:Value) (wr:World):Prop :=
 ∃ (k n c:Nat) (A:Option Addr),k≤l.length∧i = .int .i64 k∧v = .slice A n c∧Own RTestRun 39 wr w.heap.size (.slice A n c) (ownAt (l.take k) at_ s)∧Below w.heap.size w wr
def QaRel (l:List TestRun) (many window good at_:Int) (names:List ByteArray) (w:World) (v i:Value) (wr:World):Prop :=
 ∃ (k n c:Nat) (A:Option Addr),k≤names.length∧i = .int .i64 k∧v = .slice A n c∧Own RStr 9 wr w.heap.size (.slice A n c) ((names.take k).filter fun s=>isAsideF many window good (ownAt l at_ s))∧Below w.heap.size w wr
theorem ownAt_len (l:List TestRun) (at_:Int) (s:ByteArray):(ownAt l at_ s).length≤l.length:=List.length_filter_le _ _
theorem ownAt_take {l:List TestRun} {k:Nat} {r:TestRun} (at_:Int) (s:ByteArray) (h:l[k]? = some r):ownAt (l.take (k+1)) at_ s=ownAt (l.take k) at_ s++if (decide (r.test=s)&&decide (r.at_≤at_))=true then [r] else []:=by
 unfold ownAt;rw[List.take_add_one,h,Option.toList_some,List.filter_append]
 congr 1
 cases e:(decide (r.test=s)&&decide (r.at_≤at_))
 ·simp only[List.filter_cons,e,List.filter_nil] <;> rfl
 ·simp only[List.filter_cons,e,List.filter_nil,if_true]
theorem rising_filter {l:List ByteArray} (h:Rising l) (p:ByteArray→Bool):Rising (l.filter p):=by
 unfold Rising dat at *;exact List.Pairwise.sublist (List.Sublist.map _ List.filter_sublist) h
theorem filt_take {names:List ByteArray} {k:Nat} {s:ByteArray} (p:ByteArray→Bool) (h:names[k]? = some s):(names.take (k+1)).filter p=(names.take k).filter p++if p s=true then [s] else []:=by
 rw[List.take_add_one,h,Option.toList_some,List.filter_append]
 congr 1
 cases e:p s
 ·simp only[List.filter_cons,e,List.filter_nil] <;> rfl
 ·simp only[List.filter_cons,e,List.filter_nil,if_true]
theorem raside_ans {l:List TestRun} {many window good at_:Int} (h:histF l=0):AsideAns l many window good at_ 0 ((compB (sortB (l.map (·.test)))).filter fun s=>isAsideF many window good (ownAt l at_ s)):=by
 rw[AsideAns,if_pos rfl];obtain⟨h1,h2⟩:=rising_comp (l.map (·.test));refine⟨rising_filter h1 _,fun s=>?_⟩;rw[List.mem_filter,h2,asIn_iff h]
 constructor
 ·exact fun h=>h.2
 ·intro hs;refine⟨?_,hs⟩
  by_cases hz:ownAt l at_ s = []
  ·rw[hz]at hs;cases hs
  ·obtain⟨r,hr⟩:=List.exists_mem_of_ne_nil _ hz;unfold ownAt at hr;rw[List.mem_filter,Bool.and_eq_true,decide_eq_true_eq]at hr;exact List.mem_map.2 ⟨r,hr.1,hr.2.1⟩
theorem raside_ok (A:Option Addr) (len cap:Nat) (l:List TestRun) (many window good at_:Int) (w:World) (hm:MaxLenAt w) (hl:SlAt RTestRun w A len l) (hsz:∀ r∈l,r.test.size<4294967281) (hh:histF l=0) (i1:inR 1 100 many=true) (i2:inR 1 1000000000 window=true) (i3:inR 1 100 good=true) (i4:inR 0 1000000000 at_=true) :
  Calls Tryz.prog 8 #[.slice A len cap,.int .i64 many,.int .i64 window,.int .i64 good,.int .i64 at_] w (AsideOut l many window good at_ 0 w):=by
 have hll:=hl.1;obtain⟨hl3,hats⟩:=histF_ok hh;have hok:∀ r∈l,r.test.size≤maxLen∧r.key.size≤maxLen:=fun r hr=>⟨(hl.2.2 r hr).1,(hl.2.2 r hr).2.1⟩;have j2:=inR_true i2;obtain⟨Z,hZ⟩:∃ Z,AsideOut l many window good at_ 0 w=Z:=⟨_,rfl⟩;rw[hZ];obtain⟨hmH,hlH,hllH,hhH,hokH,hatsH,hZH,hszH⟩:=hq2 hm (hq2 hl (hq2 hll (hqb hh hok hats hZ (Lib.hid hsz))));clear hm hl hll hh hok hats hZ hsz;go_enter Tryz.func8,Tryz.ntmps8;go_wp2_with fail;refine(rhist_any A len cap l _ hmH.out hlH.out hszH.out 0 hhH.out).mono ?_;rintro e w1 ⟨rfl,hw1⟩;have hw1H:=Lib.hid hw1;clear hw1;go_wp2_with (go_at_call 21;refine(within_r _ _ _ _).mono ?_;rintro e wz ⟨rfl,rfl⟩);obtain⟨w1,rfl⟩:∃ W,W=wz:=⟨_,rfl⟩
 go_loopw [13,47] (fun v i wr=>QnRel l w v i wr) (fun _ i _=>len-(intOf i).toNat)
 case atStart=>exact⟨0,0,none,Nat.zero_le _,rfl,rfl,Own.nil _ _,hw1H.out⟩
 case round =>
  obtain⟨k,c2,A2,hk,rfl,rfl,hown,hb⟩:=hrel;have hkl:k≤len:=by have:=hllH.out;omega
  have hbs:=hb.size
  by_cases hlt:k<len
  ·obtain⟨b0,off,hA,_⟩:=hlH.out.2.1 (by omega);have hslr:=hlH.out.below hb;rw[hA]at hslr ⊢;obtain⟨x,hx⟩:∃ x,l[k]? = some x:=⟨l[k]'(by have:=hllH.out;omega),List.getElem?_eq_getElem _⟩;obtain⟨e0,e1,e2,e3,e4⟩:=cells_TestRun hslr hx;have o0:=(hslr.2.2 x (List.mem_of_getElem? hx)).1;have htk:(l.take (k+1)).map (·.test)=(l.take k).map (·.test) ++ [x.test]:=by rw[List.take_add_one,hx,Option.toList_some,List.map_append];rfl
   obtain⟨rte,rke,rat,rps,rse⟩:=x;simp only at e0 e1 e2 e3 e4 o0 htk;obtain⟨W5,hW5⟩:∃ Y,wr.alloc (.cells #[.string rte,.string rke,.int .i64 rat,.bool rps,.int .i64 rse] 39)=Y:=⟨_,rfl⟩;have g0:(wr.alloc (.cells #[.string rte,.string rke,.int .i64 rat,.bool rps,.int .i64 rse] 39)).cell? ⟨wr.heap.size,0,none⟩=some (.string rte):=cell_new _ _ _ 0;have hnew:=slAt_new (R:=RStr) (wr.alloc (.cells #[.string rte,.string rke,.int .i64 rat,.bool rps,.int .i64 rse] 39)) 9 rte o0;have hbn:=(hb.alloc hbs (.cells #[.string rte,.string rke,.int .i64 rat,.bool rps,.int .i64 rse] 39)).alloc (by have:=hb.size;simp;omega) (.cells #[.string rte] 9);have hownn:=(hown.alloc (.cells #[.string rte,.string rke,.int .i64 rat,.bool rps,.int .i64 rse] 39)).alloc (.cells #[.string rte] 9);have hss:(wr.alloc (.cells #[.string rte,.string rke,.int .i64 rat,.bool rps,.int .i64 rse] 39)).heap.size=wr.heap.size+1:=by simp
   rw[hss]at hnew;obtain⟨hxH,hbH,hownH,hslrH,hAH,htkH,o0H,hnewH,hbnH,hownnH,hW5H⟩:=hq2 hx (hq2 hb (hqc hown hslr hA htk o0 hnew hbn hownn (Lib.hid hW5)));clear hx hb hown hslr hA htk o0 hnew hbn hownn hW5;go_wp2_with (at_builtin;go_loud (refine wpList_app rfl (.tmp 51) (.tmp 54) 23 rfl Tryz.underlying23 elem_Str (by decide) rfl hownnH.out (some ⟨wr.heap.size+1,0,none⟩) 1 1 [rte] rfl hnewH.out ?nn ?ok ?c1 ?c2 ?c3 (k+1) ?c4 ?_))
   case nn=>intro h;cases h
   case ok=>exact fun _ _ _ _ h=>h
   case c1=>simp[maxLen] <;> omega
   case c2=>simp <;> omega
   case c3=>simp <;> omega
   case c4=>simp <;> omega
   intro A' c' w7 hown7 hg7 hat7 hb7;have R:QnRel l w (.slice A' (k+1) c') (.int .i64 ((k:Int)+1)) w7:=⟨k+1,c',A',by have:=hllH.out;omega,by go_num,rfl,by rw[htkH.out,List.map_take];exact hown7,hbnH.out.trans hb7⟩;clear hg7 hat7 hb7 hown7;have RH:=Lib.hid R;clear R;go_wp2;refine⟨?rel,?measure⟩
   case measure=>(simp[intOf];omega)
   case rel=>first | exact RH.out | exact⟨rfl,RH.out⟩
  ·obtain rfl:k=len:=by omega
   have e:l.take k=l:=List.take_of_length_le (by have:=hllH.out;omega);rw[e]at hown;obtain⟨hbH,eH⟩:=hq2 hb (Lib.hid e);clear hb e;go_wp2_with fail;refine(sort_own A2 k c2 _ _ _ hown (by omega)).mono ?_;rintro e w2 ⟨rfl,hown2,hg2⟩;have hb2:=hbH.out.grown hg2 hbs (fun j hj=>(hown.1.lt j hj).1);have hs2:=hb2.size;clear hg2;obtain⟨hb2H,hown2H,hownH⟩:=hq2 hb2 (hq2 hown2 (Lib.hid hown));clear hb2 hown2 hown;go_wp2_with fail;refine(comp_own A2 k c2 _ _ _ hown2H.out (by omega) hs2).mono ?_;rintro e w3 ⟨k3,hk3,rfl,hown3,hw3⟩;have hb3:=hb2H.out.trans hw3;obtain⟨NS,hNS⟩:∃ N,compB (sortB (l.map (·.test)))=N:=⟨_,rfl⟩;rw[hNS]at hown3;have hsn:=hown3.slAt;have hsnl:=hsn.1;have hans:=raside_ans (many:=many) (window:=window) (good:=good) (at_:=at_) hhH.out;rw[hNS]at hans;have hst:QaRel l many window good at_ NS w3 (.slice none 0 0) (.int .i64 0) w3:=⟨0,0,0,none,Nat.zero_le _,rfl,rfl,Own.nil _ _,Below.refl _ _⟩;clear hw3 hown3;obtain⟨hb3H,hsnH,hansH,hstH,hNSH⟩:=hqb hb3 hsn hans hst (Lib.hid hNS);clear hb3 hsn hans hst hNS;go_wp2_with fail
   go_loopw [16,62] (fun v i wr=>QaRel l many window good at_ NS w3 v i wr) (fun _ i _=>k3-(intOf i).toNat)
   case atStart=>exact hstH.out
   case round =>
    clear hstH;obtain⟨m,n,c4,A4,hm4,rfl,rfl,hown4,hb4⟩:=hrel;have hb4s:=hb4.size;have hn4:=hown4.len;have hn5:n≤3000:=by
     have h1:=List.length_filter_le (fun s=>isAsideF many window good (ownAt l at_ s)) (NS.take m);rw[List.length_take]at h1;omega
    by_cases hml:m<k3
    ·have hsn4:=hsnH.out.below hb4;obtain⟨bn,on,hAn,_⟩:=hsn4.2.1 (by omega);rw[hAn]at hsn4 ⊢;obtain⟨s,hs⟩:∃ s,NS[m]? = some s:=⟨NS[m]'(by omega),List.getElem?_eq_getElem _⟩;have es:=cell_Str hsn4 hs;have hsok:=hsn4.2.2 s (List.mem_of_getElem? hs);have hft:=filt_take (fun s=>isAsideF many window good (ownAt l at_ s)) hs;have hst5:QoRel l at_ s wr (.slice none 0 0) (.int .i64 0) wr:=⟨0,0,0,none,Nat.zero_le _,rfl,rfl,Own.nil _ _,Below.refl _ _⟩;have hb34:=hb3H.out.trans (hb4.mono hb3H.out.size);obtain⟨W4,hW4⟩:∃ Y,wr=Y:=⟨_,rfl⟩;have hm0:(0:Int)≤(m:Int):=by omega
     have hmn:(m:Int)<(k3:Int):=by omega
     obtain⟨hown4H,hb4H,hsH,hsn4H,hAnH,hftH,hst5H,hb34H,hn4H,hsokH,hW4H⟩:=hq2 hown4 (hq2 hb4 (hqc hs hsn4 hAn hft hst5 hb34 hn4 hsok (Lib.hid hW4)));clear hown4 hb4 hs hsn4 hAn hft hst5 hb34 hn4 hsok hW4;go_wp2_with fail
     go_loopw [19,68] (fun v i wq=>QoRel l at_ s W4 v i wq) (fun _ i _=>k-(intOf i).toNat)
     case atStart=>rw[← hW4H.out];exact hst5H.out
     case round =>
      clear hst5H;obtain⟨j,n6,c6,A6,hj,rfl,rfl,hown6,hb6⟩:=hrel;have hb6s:=hb6.size;have hn6:=hown6.len;have hn7:n6≤3000:=by
       have h1:=ownAt_len (l.take j) at_ s;rw[List.length_take]at h1;omega
      rw[← hW4H.out]at hown6 hb6 hb6s
      by_cases hjl:j<k
      ·obtain⟨br,or_,hAr,_⟩:=hlH.out.2.1 (by omega);have hslr:=hlH.out.below (hb34H.out.trans (hb6.mono hb34H.out.size));rw[hAr]at hslr ⊢;obtain⟨x,hx⟩:∃ x,l[j]? = some x:=⟨l[j]'(by have:=hllH.out;omega),List.getElem?_eq_getElem _⟩;obtain⟨e0,e1,e2,e3,e4⟩:=cells_TestRun hslr hx;have hxok:=hslr.2.2 x (List.mem_of_getElem? hx);have hot:=ownAt_take at_ s hx;obtain⟨rte,rke,rat,rps,rse⟩:=x;simp only at e0 e1 e2 e3 e4 hot;have g0:(wr.alloc (.cells #[.string rte,.string rke,.int .i64 rat,.bool rps,.int .i64 rse] 39)).cell? ⟨wr.heap.size,0,none⟩=some (.string rte):=cell_new _ _ _ 0;have g1:(wr.alloc (.cells #[.string rte,.string rke,.int .i64 rat,.bool rps,.int .i64 rse] 39)).cell? ⟨wr.heap.size,1,none⟩=some (.string rke):=cell_new _ _ _ 1;have g2:(wr.alloc (.cells #[.string rte,.string rke,.int .i64 rat,.bool rps,.int .i64 rse] 39)).cell? ⟨wr.heap.size,2,none⟩=some (.int .i64 rat):=cell_new _ _ _ 2;have g3:(wr.alloc (.cells #[.string rte,.string rke,.int .i64 rat,.bool rps,.int .i64 rse] 39)).cell? ⟨wr.heap.size,3,none⟩=some (.bool rps):=cell_new _ _ _ 3;have g4:(wr.alloc (.cells #[.string rte,.string rke,.int .i64 rat,.bool rps,.int .i64 rse] 39)).cell? ⟨wr.heap.size,4,none⟩=some (.int .i64 rse):=cell_new _ _ _ 4;have Rn:∀ (n' c':Nat) (A':Option Addr) (W:World),Own RTestRun 39 W W4.heap.size (.slice A' n' c') (ownAt (l.take (j+1)) at_ s)→Below W4.heap.size W4 W→QoRel l at_ s W4 (.slice A' n' c') (.int .i64 ((j:Int)+1)) W:=fun n' c' A' W h1 h2=>⟨j+1,n',c',A',by have:=hllH.out;omega,by go_num,rfl,h1,h2⟩
       have hownA:=hown6.alloc (.cells #[.string rte,.string rke,.int .i64 rat,.bool rps,.int .i64 rse] 39);have hbA:=hb6.alloc hb6s (.cells #[.string rte,.string rke,.int .i64 rat,.bool rps,.int .i64 rse] 39);rw[hW4H.out]at hownA hbA
       by_cases hq:rte=s∧rat≤at_
       ·have hq1:(rte.toList==s.toList)=true:=by rw[beq_data,decide_eq_true hq.1]
        have hqd2:decide (rat≤at_)=true:=decide_eq_true hq.2;rw[if_pos (by rw[decide_eq_true hq.1,decide_eq_true hq.2];rfl)]at hot;have hnew:=slAt_new (R:=RTestRun) (wr.alloc (.cells #[.string rte,.string rke,.int .i64 rat,.bool rps,.int .i64 rse] 39)) 39 (⟨rte,rke,rat,rps,rse⟩:TestRun) hxok;have hss:(wr.alloc (.cells #[.string rte,.string rke,.int .i64 rat,.bool rps,.int .i64 rse] 39)).heap.size=wr.heap.size+1:=by simp
        rw[hss]at hnew;clear hq;obtain⟨hxH,hb6H,hown6H,hslrH,hArH,hotH,hxokH,RnH,hownAH,hbAH,hnewH,hn6H⟩:=hq2 hx (hq2 hb6 (hq2 hown6 (hqc hslr hAr hot hxok Rn hownA hbA hnew (Lib.hid hn6))));clear hx hb6 hown6 hslr hAr hot hxok Rn hownA hbA hnew hn6;go_wp2_with (at_builtin;go_loud (refine wpList_app rfl (.tmp 82) (.tmp 84) 22 rfl Tryz.underlying22 elem_TestRunQ (by decide) rfl (hownAH.out.alloc _) (some ⟨wr.heap.size+1,0,none⟩) 1 1 [⟨rte,rke,rat,rps,rse⟩] rfl hnewH.out ?nn ?ok ?c1 ?c2 ?c3 (n6+1) ?c4 ?_))
        case nn=>intro h;cases h
        case ok=>exact fun _ _ _ _ h=>h
        case c1=>have:=hn6H.out;simp[maxLen] <;> omega
        case c2=>have:=hn6H.out;omega
        case c3=>have:=hbAH.out.size;simp at this ⊢;omega
        case c4=>have:=hn6H.out;omega
        intro A' c' w7 hown7 hg7 hat7 hb7;have R:=RnH.out (n6+1) c' A' w7 (by rw[hotH.out];exact hown7) ((hbAH.out.alloc hbAH.out.size _).trans hb7);clear hg7 hat7 hb7 hown7;have RH:=Lib.hid R;clear R;go_wp2;refine⟨?rel,?measure⟩
        case measure=>(simp[intOf];omega)
        case rel=>first | exact RH.out | exact⟨rfl,RH.out⟩
       ·have hn:(decide (rte=s)&&decide (rat≤at_))=false:=by
         rw[Bool.eq_false_iff,ne_eq,Bool.and_eq_true,decide_eq_true_eq,decide_eq_true_eq];exact hq
        rw[hn,if_neg (by decide),List.append_nil]at hot;have R:=Rn n6 c6 A6 _ (by rw[hot];exact hownA) hbA
        by_cases hts:rte=s
        ·have hq1:(rte.toList==s.toList)=true:=by rw[beq_data,decide_eq_true hts]
         have hqd2:decide (rat≤at_)=false:=decide_eq_false (fun h=>hq ⟨hts,h⟩);clear hq hts hn hot Rn;obtain⟨RH,hxH,hb6H,hown6H,hslrH,hArH,hxokH,hownAH,hbAH,hn6H⟩:=hq2 R (hqc hx hb6 hown6 hslr hAr hxok hownA hbA (Lib.hid hn6));clear R hx hb6 hown6 hslr hAr hxok hownA hbA hn6;go_wp2;refine⟨?rel,?measure⟩
         case measure=>(simp[intOf];omega)
         case rel=>first | exact RH.out | exact⟨rfl,RH.out⟩
        ·have hq1:(rte.toList==s.toList)=false:=by rw[beq_data,decide_eq_false hts]
         clear hq hts hn hot Rn;obtain⟨RH,hxH,hb6H,hown6H,hslrH,hArH,hxokH,hownAH,hbAH,hn6H⟩:=hq2 R (hqc hx hb6 hown6 hslr hAr hxok hownA hbA (Lib.hid hn6));clear R hx hb6 hown6 hslr hAr hxok hownA hbA hn6;go_wp2;refine⟨?rel,?measure⟩
         case measure=>(simp[intOf];omega)
         case rel=>first | exact RH.out | exact⟨rfl,RH.out⟩
      ·obtain rfl:j=k:=by have:=hllH.out;omega
       have e:l.take j=l:=List.take_of_length_le (by have:=hllH.out;omega);rw[e]at hown6;have hsO:=hown6.slAt;have hcO:n6≤c6∧c6≤maxLen:=own_cap hown6;have hla:=isAside_any A6 n6 c6 (ownAt l at_ s) many window good wr hsO (by omega) hcO.1 hcO.2 (fun r hr=>hatsH.out r (List.mem_filter.1 hr).1) (by omega) j2.2;obtain⟨p,hp⟩:∃ p,isAsideF many window good (ownAt l at_ s)=p:=⟨_,rfl⟩;rw[hp]at hla;have hft:=hftH.out;rw[hp]at hft;have hb46:=hb4H.out.trans (hb6.mono hb4H.out.size);have hown46:=hown4H.out.below hb6;obtain⟨hb6H,hown6H,hsOH,hlaH,hpH,eH,hn6H,hb46H,hown46H⟩:=hqc hb6 hown6 hsO hla hp e hn6 hb46 (Lib.hid hown46);clear hb6 hown6 hsO hla hp e hn6 hb46 hown46;go_wp2_with fail;refine hlaH.out.mono ?_;rintro e w8 ⟨rfl,hb8⟩;have hb48:=hb46H.out.trans (hb8.mono hb46H.out.size);have hown48:=hown46H.out.below hb8
       cases p
       ·rw[if_neg (by decide),List.append_nil]at hft;have R:QaRel l many window good at_ NS w3 (.slice A4 n c4) (.int .i64 ((m:Int)+1)) w8:=⟨m+1,n,c4,A4,by omega,by go_num,rfl,by rw[hft];exact hown48,hb48⟩;clear hft;obtain⟨RH,hb8H,hb48H,hown48H⟩:=hq2 R (hq2 hb8 (hq2 hb48 (Lib.hid hown48)));clear R hb8 hb48 hown48;go_wp2;refine⟨?rel,?measure⟩
        case measure=>(simp[intOf];omega)
        case rel=>first | exact RH.out | exact⟨rfl,RH.out⟩
       ·rw[if_pos rfl]at hft;have hnew:=slAt_new (R:=RStr) w8 9 s hsokH.out;have hb49:=hb48.alloc hb48.size (.cells #[.string s] 9);have hown49:=hown48.alloc (.cells #[.string s] 9);obtain⟨hftH,hb8H,hb48H,hown48H,hnewH,hb49H,hown49H⟩:=hq2 hft (hq2 hb8 (hqb hb48 hown48 hnew hb49 (Lib.hid hown49)));clear hft hb8 hb48 hown48 hnew hb49 hown49;go_wp2_with (at_builtin;go_loud (refine wpList_app rfl (.tmp 92) (.tmp 94) 23 rfl Tryz.underlying23 elem_Str (by decide) rfl hown49H.out (some ⟨w8.heap.size,0,none⟩) 1 1 [s] rfl hnewH.out ?nn ?ok ?c1 ?c2 ?c3 (n+1) ?c4 ?_))
        case nn=>intro h;cases h
        case ok=>exact fun _ _ _ _ h=>h
        case c1=>have:=hn4H.out;simp[maxLen] <;> omega
        case c2=>have:=hn4H.out;omega
        case c3=>have:=hb49H.out.size;simp at this ⊢;omega
        case c4=>have:=hn4H.out;omega
        intro A' c' w9 hown9 hg9 hat9 hb9;have R:QaRel l many window good at_ NS w3 (.slice A' (n+1) c') (.int .i64 ((m:Int)+1)) w9:=⟨m+1,n+1,c',A',by omega,by go_num,rfl,by rw[hftH.out];exact hown9,hb49H.out.trans hb9⟩;clear hg9 hat9 hb9 hown9;have RH:=Lib.hid R;clear R;go_wp2;refine⟨?rel,?measure⟩
        case measure=>(simp[intOf];omega)
        case rel=>first | exact RH.out | exact⟨rfl,RH.out⟩
    ·obtain rfl:m=k3:=by omega
     have e:NS.take m=NS:=List.take_of_length_le (by omega);rw[e]at hown4;have R:Z (.returned (.tuple #[.slice A4 n c4,.int .i64 0])) wr:=by
      rw[← hZH.out];exact⟨A4,n,c4,_,rfl,hown4.slAt,hansH.out,hn5,hb3H.out.trans (hb4.mono hb3H.out.size)⟩
     obtain⟨RH,hown4H,hb4H,hn4H,eH⟩:=hqb R hown4 hb4 hn4 (Lib.hid e);clear R hown4 hb4 hn4 e;go_wp2;exact RH.out
theorem raside_any (A:Option Addr) (len cap:Nat) (l:List TestRun) (many window good at_:Int) (w:World) (hm:MaxLenAt w) (hl:SlAt RTestRun w A len l) (hsz:∀ r∈l,r.test.size<4294967281) (c:Int) (hF:asideF l many window good at_=c) :
  Calls Tryz.prog 8 #[.slice A len cap,.int .i64 many,.int .i64 window,.int .i64 good,.int .i64 at_] w (AsideOut l many window good at_ c w):=by
 unfold asideF at hF
 by_cases hh:histF l=0
 ·rw[if_pos hh]at hF
  by_cases h4:inR 1 100 many=true∧inR 1 1000000000 window=true∧inR 1 100 good=true∧inR 0 1000000000 at_=true
  ·rw[if_pos h4]at hF;subst hF;exact raside_ok A len cap l many window good at_ w hm hl hsz hh h4.1 h4.2.1 h4.2.2.1 h4.2.2.2
  ·rw[if_neg h4]at hF;subst hF;obtain⟨hmH,hlH,hhH,hszH⟩:=hq2 hm (hq2 hl (hq2 hh (Lib.hid hsz)));clear hm hl hh hsz
   by_cases i1:inR 1 100 many=true
   ·by_cases i2:inR 1 1000000000 window=true
    ·by_cases i3:inR 1 100 good=true
     ·have i4:inR 0 1000000000 at_=false:=by
       cases h:inR 0 1000000000 at_
       ·rfl
       ·exact absurd ⟨i1,i2,i3,h⟩ h4
      clear h4;go_enter Tryz.func8,Tryz.ntmps8;go_wp2_with fail;refine(rhist_any A len cap l _ hmH.out hlH.out hszH.out 0 hhH.out).mono ?_;rintro e w1 ⟨rfl,hw1⟩;have hw1H:=Lib.hid hw1;clear hw1;go_wp2_with (go_at_call 21;refine(within_r _ _ _ _).mono ?_;rintro e wz ⟨rfl,rfl⟩)
      go_ret2
      exact aside_nil _ _ _ _ _ _ _ _ (by decide) hw1H.out
     ·have i3:inR 1 100 good=false:=by simpa using i3
      clear h4;go_enter Tryz.func8,Tryz.ntmps8;go_wp2_with fail;refine(rhist_any A len cap l _ hmH.out hlH.out hszH.out 0 hhH.out).mono ?_;rintro e w1 ⟨rfl,hw1⟩;have hw1H:=Lib.hid hw1;clear hw1;go_wp2_with (go_at_call 21;refine(within_r _ _ _ _).mono ?_;rintro e wz ⟨rfl,rfl⟩)
      go_ret2
      exact aside_nil _ _ _ _ _ _ _ _ (by decide) hw1H.out
    ·have i2:inR 1 1000000000 window=false:=by simpa using i2
     clear h4;go_enter Tryz.func8,Tryz.ntmps8;go_wp2_with fail;refine(rhist_any A len cap l _ hmH.out hlH.out hszH.out 0 hhH.out).mono ?_;rintro e w1 ⟨rfl,hw1⟩;have hw1H:=Lib.hid hw1;clear hw1;go_wp2_with (go_at_call 21;refine(within_r _ _ _ _).mono ?_;rintro e wz ⟨rfl,rfl⟩)
     go_ret2
     exact aside_nil _ _ _ _ _ _ _ _ (by decide) hw1H.out
   ·have i1:inR 1 100 many=false:=by simpa using i1
    clear h4;go_enter Tryz.func8,Tryz.ntmps8;go_wp2_with fail;refine(rhist_any A len cap l _ hmH.out hlH.out hszH.out 0 hhH.out).mono ?_;rintro e w1 ⟨rfl,hw1⟩;have hw1H:=Lib.hid hw1;clear hw1;go_wp2_with (go_at_call 21;refine(within_r _ _ _ _).mono ?_;rintro e wz ⟨rfl,rfl⟩)
    go_ret2
    exact aside_nil _ _ _ _ _ _ _ _ (by decide) hw1H.out
 ·rw[if_neg hh]at hF;obtain⟨d,hd⟩:∃ d,histF l=d:=⟨_,rfl⟩;rw[hd]at hF hh;subst hF;have hh1:(d != 0)=true:=by simpa using hh
  obtain⟨hmH,hlH,hdH,hhH,hszH⟩:=hqb hm hl hd hh (Lib.hid hsz);clear hm hl hd hh hsz;go_enter Tryz.func8,Tryz.ntmps8;go_wp2_with fail;refine(rhist_any A len cap l _ hmH.out hlH.out hszH.out d hdH.out).mono ?_;rintro e w1 ⟨rfl,hw1⟩;have hw1H:=Lib.hid hw1;clear hw1;go_wp2
  go_ret2
  exact aside_nil _ _ _ _ _ _ _ _ hhH.out hw1H.out
end Go.Proofs.YtcdpdaloceengaaGreatDoor.C10
namespace Go.Proofs.YtcdpdaloceengaaGreatDoor.C10
open Go.RowKit
def tgo (times need:Nat):List Bool→Nat→Nat→Nat × Nat
 | [],_,n=>(3,n)
 | b::r,g,n =>
  if g+b.toNat=need then (if n+1=need then 2 else 4,n+1)
  else if g+b.toNat+times<need+(n+1) then (3,n+1) else tgo times need r (g+b.toNat) (n+1)
theorem tgo_step {times need k g:Nat} {l:List Bool} {b:Bool} (hk:k<l.length) (hb:l.getD k false=b) :
  tgo times need (l.drop k) g k=if g+b.toNat=need then (if k+1=need then 2 else 4,k+1)
   else if g+b.toNat+times<need+(k+1) then (3,k+1) else tgo times need (l.drop (k+1)) (g+b.toNat) (k+1):=by
 have e:l[k]=b:=by rw[← hb];simp[List.getD,hk]
 rw[List.drop_eq_getElem_cons hk,e];rfl
def TriedAt (times need:Nat) (l:List Bool) (i p:Value) (k g:Nat):Prop :=
 k≤times∧g≤k∧g<need∧i = .int .i64 k∧p = .int .i64 g∧tgo times need l 0 0=tgo times need (l.drop k) g k
theorem tried_ok (times need:Nat) (ad:Addr) (cap:Nat) (l:List Bool) (w:World) (h1:1≤times) (h2:times≤100) (h3:1≤need) (h4:need≤times) (hl:l.length=times)
  (hc:∀ i,i<times→w.cell? (ad.add i)=some (.bool (l.getD i false))) :
  Calls Tryz.prog 29 #[.int .i64 times,.int .i64 need,.slice (some ad) times cap] w fun e w' =>
   e = .returned (.tuple #[.int .i64 (tgo times need l 0 0).1,.int .i64 (tgo times need l 0 0).2,.int .i64 0])∧w=w':=by
 have HL:=Lib.hid hl;clear hl;have HC:=Lib.hid hc;clear hc;go_enter Tryz.func29,Tryz.ntmps29;go_wp2
 go_loop [9,28] (fun p i=>∃ k g:Nat,TriedAt times need l i p k g) (fun _ i=>times-(intOf i).toNat)
 case atStart=>exact⟨0,0,Nat.zero_le _,Nat.le_refl _,h3,rfl,rfl,rfl⟩
 case round =>
  obtain⟨k,g,hk,hgk,hgn,rfl,rfl,ht⟩:=hrel;have HT:=Lib.hid ht;clear ht
  by_cases hlt:k<times
  ·have hcell:=HC.out k hlt
   cases hb:l.getD k false
   all_goals
    rw[hb]at hcell;have HB:=Lib.hid (tgo_step (times:=times) (need:=need) (g:=g) (by rw[HL.out];exact hlt) hb);clear hb;go_wp2
   ·go_ret3
    refine⟨?_,rfl⟩;rw[HT.out,HB.out,if_neg (by simp;omega),if_pos (by simp;omega)];exact ret3_int rfl (by omega) rfl
   ·have R:∃ k' g':Nat,TriedAt times need l (.int .i64 (k+1)) (.int .i64 g) k' g':=by
     refine⟨k+1,g,by omega,by omega,hgn,by go_num,rfl,?_⟩;rw[HT.out,HB.out,if_neg (by simp;omega),if_neg (by simp;omega)];rfl
    refine⟨?rel,?measure⟩
    case measure=>(simp[intOf];omega)
    case rel=>first | exact R | exact⟨rfl,R⟩ | ((try refine⟨rfl,?_⟩);(repeat apply Exists.intro);refine⟨R,?_⟩;((repeat' apply And.intro) <;> rfl))
   ·go_ret3
    refine⟨?_,rfl⟩;rw[HT.out,HB.out,if_pos (by simp;omega),if_pos (by have:=‹(↑k+1==(need:Int))=true›;simp at this;omega)];exact ret3_int rfl (by omega) rfl
   ·go_ret3
    refine⟨?_,rfl⟩;rw[HT.out,HB.out,if_pos (by simp;omega),if_neg (by have:=‹(↑k+1==(need:Int))=false›;simp at this;omega)];exact ret3_int rfl (by omega) rfl
   ·go_ret3
    refine⟨?_,rfl⟩;rw[HT.out,HB.out,if_neg (by simp;omega),if_pos (by simp;omega)];exact ret3_int rfl (by omega) rfl
   ·have R:∃ k' g':Nat,TriedAt times need l (.int .i64 (k+1)) (.int .i64 (g+1)) k' g':=by
     refine⟨k+1,g+1,by omega,by omega,by omega,by go_num,by go_num,?_⟩;rw[HT.out,HB.out,if_neg (by simp;omega),if_neg (by simp;omega)];rfl
    refine⟨?rel,?measure⟩
    case measure=>(simp[intOf];omega)
    case rel=>first | exact R | exact⟨rfl,R⟩ | ((try refine⟨rfl,?_⟩);(repeat apply Exists.intro);refine⟨R,?_⟩;((repeat' apply And.intro) <;> rfl))
  ·go_wp2
   go_ret3
   refine⟨?_,rfl⟩;rw[HT.out,List.drop_eq_nil_of_le (by rw[HL.out];omega)];exact ret3_int rfl (by simp[tgo];omega) rfl
def triedF (t n:Int) (l:List Bool):Int × Int × Int :=
 if 1≤t∧t≤100∧1≤n∧n≤t then
  if (l.length:Int)=t then ((tgo t.toNat n.toNat l 0 0).1,(tgo t.toNat n.toNat l 0 0).2,0) else (0,0,3)
 else (0,0,1)
def BoolsAt (w:World) (A:Option Addr) (len:Nat) (l:List Bool):Prop :=
 l.length=len∧(0<len→∃ ad,A=some ad∧∀ i,i<len→w.cell? (ad.add i)=some (.bool (l.getD i false)))
theorem tried_bad (t n:Int) (A:Option Addr) (len cap:Nat) (w:World) (h:¬ (1≤t∧t≤100∧1≤n∧n≤t)) :
  Calls Tryz.prog 29 #[.int .i64 t,.int .i64 n,.slice A len cap] w fun e w'=>e = .returned (.tuple #[.int .i64 0,.int .i64 0,.int .i64 1])∧w=w':=by
 by_cases a:1≤t
 ·by_cases b:t≤100
  ·by_cases c:1≤n
   ·have d:¬ n≤t:=fun d=>h ⟨a,b,c,d⟩;clear h;go_enter Tryz.func29,Tryz.ntmps29;go_wp2
    go_ret3
    exact⟨rfl,rfl⟩
   ·clear h;go_enter Tryz.func29,Tryz.ntmps29;go_wp2
    go_ret3
    exact⟨rfl,rfl⟩
  ·clear h;go_enter Tryz.func29,Tryz.ntmps29;go_wp2
   go_ret3
   exact⟨rfl,rfl⟩
 ·clear h;go_enter Tryz.func29,Tryz.ntmps29;go_wp2
  go_ret3
  exact⟨rfl,rfl⟩
theorem tried_form (t n:Int) (A:Option Addr) (len cap:Nat) (w:World) (h1:1≤t) (h2:t≤100) (h3:1≤n) (h4:n≤t) (_:((len:Int)==t)=false) (_:((len:Int) != t)=true) :
  Calls Tryz.prog 29 #[.int .i64 t,.int .i64 n,.slice A len cap] w fun e w'=>e = .returned (.tuple #[.int .i64 0,.int .i64 0,.int .i64 3])∧w=w':=by
 go_enter Tryz.func29,Tryz.ntmps29;go_wp2
 go_ret3
 exact⟨rfl,rfl⟩
theorem tried_any (t n:Int) (A:Option Addr) (len cap:Nat) (l:List Bool) (w:World) (hl:BoolsAt w A len l) :
  Calls Tryz.prog 29 #[.int .i64 t,.int .i64 n,.slice A len cap] w fun e w' =>
   e = .returned (.tuple #[.int .i64 (triedF t n l).1,.int .i64 (triedF t n l).2.1,.int .i64 (triedF t n l).2.2])∧w=w':=by
 unfold triedF
 by_cases h:1≤t∧t≤100∧1≤n∧n≤t
 ·rw[if_pos h]
  by_cases hx:(l.length:Int)=t
  ·rw[if_pos hx];obtain⟨h1,h2,h3,h4⟩:=h;obtain⟨rfl,ha⟩:=hl;obtain⟨ad,rfl,hc⟩:=ha (by omega);have:=tried_ok t.toNat n.toNat ad cap l w (by omega) (by omega) (by omega) (by omega) (by omega) (by rw[show t.toNat=l.length by omega];exact hc);rw[show ((t.toNat:Nat):Int)=t by omega,show ((n.toNat:Nat):Int)=n by omega,show t.toNat=l.length by omega]at this;rw[show t.toNat=l.length by omega];exact this
  ·rw[if_neg hx];obtain⟨rfl,ha⟩:=hl;exact tried_form t n A _ cap w h.1 h.2.1 h.2.2.1 h.2.2.2 (by simpa using hx) (by simpa using hx)
 ·rw[if_neg h];exact tried_bad t n A len cap w h
theorem awake_any (w:World):Calls Tryz.prog 9 #[] w fun e w'=>e = .returned (.bool true)∧Below w.heap.size w w':=by
 go_enter Tryz.func9,Tryz.ntmps9;go_wp2_with fail;refine(tried_any 3 1 _ 3 3 [false,true,true] _ ⟨rfl,fun _=>⟨_,rfl,?_⟩⟩).mono ?_
 ·intro i hi
  match i,hi with
  | 0,_=>simp[go_sem]
  | 1,_=>simp[go_sem]
  | 2,_=>simp[go_sem]
 ·rintro e w' ⟨rfl,rfl⟩;rw[show triedF 3 1 [false,true,true]=(4,2,0) by decide];go_wp2;go_ret;exact⟨rfl,(Below.refl _ _).alloc (Nat.le_refl _) _⟩
theorem sumBulk_mem {α:Type} (f:α→Nat):∀ {l:List α} {x:α},x∈l→f x≤sumBulk f l
 | y::s,x,h=>by
  rcases List.mem_cons.1 h with rfl | h
  ·simp only[sumBulk];omega
  ·have:=sumBulk_mem f h;simp only[sumBulk];omega
theorem runs_small {l:SlD TestRun} {B:Nat} (hb:(RSl RTestRun).bulk l≤B):∀ r∈l.l,r.test.size≤B:=by
 intro r hr;have:=sumBulk_mem RTestRun.bulk hr;have h2:(RSl RTestRun).bulk l=sumBulk RTestRun.bulk l.l+1:=rfl;have h3:RTestRun.bulk r=RStr.bulk r.test+RStr.bulk r.key+RInt.bulk r.at_+RBool.bulk r.pass+RInt.bulk r.seconds:=rfl;have h4:RStr.bulk r.test=r.test.size+1:=rfl;omega
theorem names_small {l:SlD ByteArray} {B:Nat} (hb:(RSl RStr).bulk l≤B):∀ s∈l.l,s.size≤B:=by
 intro s hs;have:=sumBulk_mem RStr.bulk hs;have h2:(RSl RStr).bulk l=sumBulk RStr.bulk l.l+1:=rfl;have h4:RStr.bulk s=s.size+1:=rfl;omega
theorem law_rk (l:SlD TestRun) (names:SlD ByteArray) (last many window good at_:Int) (w:World) (hl:(RSl RTestRun).ok w l) (hn:(RSl RStr).ok w names) (_:RInt.ok w last) (_:RInt.ok w many) (_:RInt.ok w window) (_:RInt.ok w good) (_:RInt.ok w at_)
  (hbk:(RSl RTestRun).bulk l+(RSl RStr).bulk names+RInt.bulk last+RInt.bulk many+RInt.bulk window+RInt.bulk good+RInt.bulk at_≤1048576) (hm:MaxLenAt w) :
  Calls Tryz.prog 3 #[.slice l.A l.n l.cap,.slice names.A names.n names.cap,.int .i64 last,.int .i64 many,.int .i64 window,.int .i64 good,.int .i64 at_] w fun e w'=>e = .returned (.bool true)∧Below w.heap.size w w':=by
 have hsz:∀ r∈l.l,r.test.size<4294967281:=fun r hr=>by have:=runs_small (l:=l) (B:=1048576) (by omega) r hr;omega
 have hszN:∀ s∈names.l,s.size<4294967281:=fun s hs=>by have:=names_small (l:=names) (B:=1048576) (by omega) s hs;omega
 obtain⟨A,len,cap,l⟩:=l;obtain⟨An,nn,nc,names⟩:=names;obtain⟨hl,_⟩:=hl;obtain⟨hn,hnc,hncap,_⟩:=hn;simp only at hl hsz hn hszN hnc hncap ⊢;have hnn:nn≤9223372036854775807:=Nat.le_trans hnc hncap;obtain⟨c,hc⟩:∃ x,rankF l names last=x:=⟨_,rfl⟩;obtain⟨d,hd⟩:∃ x,asideF l many window good at_=x:=⟨_,rfl⟩;clear hbk hnc hncap;obtain⟨hlH,hnH,hszH,hszNH,hmH,hcH,hdH⟩:=hq2 hl (hq2 hn (hqb hsz hszN hm hc (Lib.hid hd)));clear hl hn hsz hszN hm hc hd;go_enter Tryz.func3,Tryz.ntmps3;go_wp2_with fail;refine(ranked_any A An len cap nn nc l names last _ hmH.out hlH.out hnH.out hszNH.out hnn c hcH.out).mono ?_;rintro e w1 ⟨A1,n1,c1,L1,rfl,hs1,ha1,hn1,hb1⟩;obtain⟨hs1H,ha1H,hb1H⟩:=hq2 hs1 (hq2 ha1 (Lib.hid hb1));clear hs1 ha1 hb1;go_wp2_with fail;refine(rranked_any A An len cap nn nc l names last _ (hmH.out.below hb1H.out) (hlH.out.below hb1H.out) (hnH.out.below hb1H.out) hszH.out hszNH.out hnn c hcH.out).mono ?_;rintro e w2 ⟨A2,n2,c2,L2,rfl,hs2,ha2,hn2,hb2⟩;obtain rfl:L1=L2:=ha1H.out.uniq ha2;have hs12:=hs1H.out.below hb2;have hb12:=hb1H.out.trans (hb2.mono hb1H.out.size);have hcc:(c==c)=true:=beq_self_eq_true c;have hdd:(d==d)=true:=beq_self_eq_true d;have hcn:(c != c)=false:=by simp
 clear hb2 ha2;obtain⟨hs2H,hs12H,hb12H⟩:=hq2 hs2 (hq2 hs12 (Lib.hid hb12));clear hs2 hs12 hb12;go_wp2_with fail;refine(equal_same A1 A2 n1 c1 n2 c2 L1 _ hs12H.out hs2H.out (by omega)).mono ?_;rintro e w3 ⟨rfl,hb3⟩;have hb13:=hb12H.out.trans (hb3.mono hb12H.out.size);clear hb3;have hb13H:=Lib.hid hb13;clear hb13;go_wp2_with fail;refine(aside_any A len cap l many window good at_ _ (hmH.out.below hb13H.out) (hlH.out.below hb13H.out) d hdH.out).mono ?_;rintro e w4 ⟨A4,n4,c4,L4,rfl,hs4,ha4,hn4,hb4⟩;have hb14:=hb13H.out.trans (hb4.mono hb13H.out.size);clear hb4;obtain⟨hs4H,ha4H,hb14H⟩:=hq2 hs4 (hq2 ha4 (Lib.hid hb14));clear hs4 ha4 hb14;go_wp2_with fail;refine(raside_any A len cap l many window good at_ _ (hmH.out.below hb14H.out) (hlH.out.below hb14H.out) hszH.out d hdH.out).mono ?_;rintro e w5 ⟨A5,n5,c5,L5,rfl,hs5,ha5,hn5,hb5⟩;obtain rfl:L4=L5:=AsideAns.eq (m:=l.length) (cntAt_le _ _) ha4H.out (by rw[List.take_length];exact ha5);have hs45:=hs4H.out.below hb5;have hb15:=hb14H.out.trans (hb5.mono hb14H.out.size);clear hb5 ha5;obtain⟨hs5H,hs45H,hb15H⟩:=hq2 hs5 (hq2 hs45 (Lib.hid hb15));clear hs5 hs45 hb15;go_wp2_with fail;refine(equal_same A4 A5 n4 c4 n5 c5 L4 _ hs45H.out hs5H.out (by omega)).mono ?_;rintro e w6 ⟨rfl,hb6⟩;have hb16:=hb15H.out.trans (hb6.mono hb15H.out.size);clear hb6;have hb16H:=Lib.hid hb16;clear hb16;go_wp2_with fail;refine(awake_any _).mono ?_;rintro e w7 ⟨rfl,hb7⟩;have R:=hb16H.out.trans (hb7.mono hb16H.out.size);clear hb7;have RH:=Lib.hid R;clear R;go_wp2;go_ret
 exact⟨rfl,RH.out⟩
end Go.Proofs.YtcdpdaloceengaaGreatDoor.C10