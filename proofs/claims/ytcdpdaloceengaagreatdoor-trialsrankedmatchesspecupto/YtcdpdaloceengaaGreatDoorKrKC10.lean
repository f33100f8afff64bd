/-
 Several texts of mine as one, without what is not wanted here: XRnI.
-/
import Derived.Test.YtcdpdaloceengaaGreatDoorKrJC10
set_option linter.unusedVariables false
set_option linter.unusedSimpArgs false
set_option maxRecDepth 100000
set_option maxHeartbeats 8000000
namespace Go.Proofs.YtcdpdaloceengaaGreatDoor.C10
open Go.ChangeShapes Go.WideShapes Go.Deep Go.RowKit Go.Maps
theorem raK_b (many window good:Int) (l:List TestRun):∀ k,(0≤(raK many window good l k).row∧(raK many window good l k).row≤k)∧(raK many window good l k).frm≤k
 | 0=>⟨⟨Int.le_refl _,Int.le_refl _⟩,Nat.le_refl _⟩
 | k+1=>by
  obtain⟨⟨a,b⟩,c⟩:=raK_b many window good l k
  cases hr:l[k]? with
  | none =>
   have e:raK many window good l (k+1)=raK many window good l k:=by rw[raK,hr]
   rw[e];omega
  | some r =>
   rw[raK_succ hr];unfold raStep
   by_cases ha:(raK many window good l k).aside=true
   ·rw[if_pos ha]
    by_cases hp:r.pass=true
    ·rw[if_pos hp]
     split <;> (simp only;omega)
    ·rw[if_neg hp]
     split <;> (simp only;omega)
   ·rw[if_neg ha]
    split
    ·simp only;omega
    ·omega
theorem cntS_succ {l:List TestRun} {frm m:Nat} {lo:Int} {y:TestRun} (hf:frm≤m) (hy:l[m]? = some y):cntS l frm (m+1) lo=cntS l frm m lo+if (shkB l m&&decide (lo<y.at_))=true then 1 else 0:=by
 have ha:atK l m=y.at_:=by unfold atK;rw[hy];rfl
 unfold cntS;rw[shL_succ _ _ _ hf,List.filter_append,List.length_append,ha]
 congr 1
 cases hs:shkB l m
 ·simp
 ·by_cases hle:y.at_≤lo
  ·have:¬ lo<y.at_:=by omega
   simp[hle,this]
  ·have:lo<y.at_:=by omega
   simp[hle,this]
def AsRelQ (many window good:Int) (l:List TestRun) (w:World) (a ro fm i:Value) (wr:World):Prop :=
 ∃ k:Nat,k≤l.length∧i = .int .i64 k∧a = .bool (raK many window good l k).aside∧ro = .int .i64 (raK many window good l k).row∧fm = .int .i64 ((raK many window good l k).frm:Nat)∧Below w.heap.size w wr
def AiRel (l:List TestRun) (frm k:Nat) (lo:Int) (w:World) (n i:Value) (wr:World):Prop :=
 ∃ m:Nat,frm≤m∧m≤k+1∧i = .int .i64 m∧n = .int .i64 (cntS l frm m lo:Nat)∧Below w.heap.size w wr
theorem isAside_any (A:Option Addr) (len cap:Nat) (l:List TestRun) (many window good:Int) (w:World) (hl:SlAt RTestRun w A len l) (hlen:len≤3000) (hcap:len≤cap) (hcm:cap≤maxLen) (hat:∀ r∈l,0≤r.at_∧r.at_≤1000000000) (hw0:0≤window) (hw1:window≤1000000000) :
  Calls Tryz.prog 28 #[.slice A len cap,.int .i64 many,.int .i64 window,.int .i64 good] w fun e w'=>e = .returned (.bool (isAsideF many window good l))∧Below w.heap.size w w':=by
 have hll:=hl.1;obtain⟨Z,hZ⟩:∃ Z,(fun (e:Ending) (w':World)=>e = .returned (.bool (isAsideF many window good l))∧Below w.heap.size w w')=Z:=⟨_,rfl⟩;rw[hZ];have hsk:=shaken_any A len cap l w hl hlen hcap hcm;unfold maxLen at hcm;obtain⟨hlH,hllH,hatH,hZH,hskH⟩:=hqb hl hll hat hZ (Lib.hid hsk);clear hl hll hat hZ hsk;go_enter Tryz.func28,Tryz.ntmps28;go_wp2_with fail;refine hskH.out.mono ?_;rintro e w1 ⟨B,rfl,hB,hB1,hB2,hb1⟩;have hst:AsRelQ many window good l w1 (.bool false) (.int .i64 0) (.int .i64 0) (.int .i64 0) w1:=⟨0,Nat.zero_le _,rfl,rfl,rfl,rfl,Below.refl _ _⟩;obtain⟨hBH,hb1H,hstH⟩:=hq2 hB (hq2 hb1 (Lib.hid hst));clear hB hb1 hst;go_wp2_with fail
 go_loopw [9,10,11,21] (fun a ro fm i wr=>AsRelQ many window good l w1 a ro fm i wr) (fun _ _ _ i _=>len-(intOf i).toNat)
 case atStart=>exact hstH.out
 case round =>
  clear hstH;obtain⟨k,hk,rfl,rfl,rfl,rfl,hb⟩:=hrel;have hkn:k≤len:=by have:=hllH.out;omega
  have hrb:=raK_b many window good l k
  by_cases hlt:k<len
  ·obtain⟨br,or_,hA,_⟩:=hlH.out.2.1 (by omega);have hslw:=hlH.out.below hb1H.out;have hslr:=hslw.below hb;rw[hA]at hslr ⊢;obtain⟨r,hr⟩:∃ r,l[k]? = some r:=⟨l[k]'(by have:=hllH.out;omega),List.getElem?_eq_getElem _⟩;obtain⟨e0,e1,e2,e3,e4⟩:=cells_TestRun hslr hr;have hra:=hatH.out r (List.mem_of_getElem? hr);have hnx:=raK_succ (many:=many) (window:=window) (good:=good) hr;obtain⟨S,hS⟩:∃ S,raK many window good l k=S:=⟨_,rfl⟩;rw[hS]at hnx hrb;rw[hS];obtain⟨as_,row,frm⟩:=S;unfold raStep at hnx;obtain⟨rte,rke,rat,rps,rse⟩:=r;simp only at e0 e1 e2 e3 e4 hra hnx hrb;have g3:(wr.alloc (.cells #[.string rte,.string rke,.int .i64 rat,.bool rps,.int .i64 rse] 39)).cell? ⟨wr.heap.size,3,none⟩=some (.bool rps):=cell_new _ _ _ 3;have hbr5:Below wr.heap.size wr (wr.alloc (.cells #[.string rte,.string rke,.int .i64 rat,.bool rps,.int .i64 rse] 39)):=(Below.refl _ _).alloc (Nat.le_refl _) _;have hb5:=hb.trans (hbr5.mono hb.size);have hwr1:IntKind.i64.wrap (row+1)=row+1:=IntWalk.i64_in _ (by omega);have hwk:IntKind.i64.wrap ((k:Int)+1)=(k:Int)+1:=IntWalk.i64_in _ (by omega)
   cases as_
   ·rw[if_neg (by decide)]at hnx;obtain⟨W5,hW5⟩:∃ Y,wr.alloc (.cells #[.string rte,.string rke,.int .i64 rat,.bool rps,.int .i64 rse] 39)=Y:=⟨_,rfl⟩;obtain⟨rb,hrb2⟩:∃ b,wr.heap.size=b:=⟨_,rfl⟩;rw[hW5]at hbr5 hb5;have r2:W5.cell? ⟨rb,2,none⟩=some (.int .i64 rat):=by rw[← hW5,← hrb2];exact cell_new _ _ _ 2
    obtain⟨lo,hlo⟩:∃ v,rat-window=v:=⟨_,rfl⟩;have hwlo:IntKind.i64.wrap (rat-window)=lo:=by rw[hlo];exact IntWalk.i64_in _ (by omega)
    rw[hlo]at hnx;have hst2:AiRel l frm k lo W5 (.int .i64 0) (.int .i64 (frm:Nat)) W5:=by
     refine⟨frm,Nat.le_refl _,by omega,rfl,?_,Below.refl _ _⟩;unfold cntS;rw[shL_self];rfl
    obtain⟨hrH,hslrH,hslwH,hAH,hW5H,hrb2H,hbr5H,hb5H,hst2H,hbH,hnxH,hSH,r2H,hloH⟩:=hq2 hr (hqb hslr hslw hA hW5 (hqc hrb2 hbr5 hb5 hst2 hb hnx hS r2 (Lib.hid hlo)));clear hr hslr hslw hA hW5 hrb2 hbr5 hb5 hst2 hb hnx hS r2 hlo;go_wp2_with fail;simp only[hW5H.out,hrb2H.out];clear e0 e1 e2 e3 e4 g3
    go_loopw [15,16] (fun n i wq=>AiRel l frm k lo W5 n i wq) (fun _ i _=>k+1-(intOf i).toNat)
    case atStart=>exact hst2H.out
    case round =>
     clear hst2H;obtain⟨m,hfm,hm,rfl,rfl,hbq⟩:=hrel
     by_cases hml:m≤k
     ·have hle:decide ((m:Int)≤(k:Int))=true:=decide_eq_true (by omega);have hslq:=hslrH.out.below (hbr5H.out.trans (hbq.mono hbr5H.out.size));obtain⟨y,hy⟩:∃ y,l[m]? = some y:=⟨l[m]'(by have:=hllH.out;omega),List.getElem?_eq_getElem _⟩;have d2:=(cells_TestRun hslq hy).2.2.1;have hya:=hatH.out y (List.mem_of_getElem? hy);have s2:=keepC hbq r2H.out;have hq:=(brow_bel (brow_bel (brow_bel hBH.out hbH.out) hbr5H.out) hbq m (by omega)).1;have hcs:=cntS_succ (lo:=lo) hfm hy;obtain⟨sv,hsv⟩:∃ v,shkB l m=v:=⟨_,rfl⟩;rw[hsv]at hq hcs;obtain⟨n,hn⟩:∃ n,cntS l frm m lo=n:=⟨_,rfl⟩;rw[hn]at hcs ⊢;have hnm:n≤m:=by
       rw[← hn];unfold cntS shL;refine Nat.le_trans (List.length_filter_le _ _) ?_;rw[List.length_map];refine Nat.le_trans (List.length_filter_le _ _) ?_;rw[List.length_range];exact Nat.le_refl _
      have hwn:IntKind.i64.wrap ((n:Int)+1)=(n:Int)+1:=IntWalk.i64_in _ (by omega);have hwm:IntKind.i64.wrap ((m:Int)+1)=(m:Int)+1:=IntWalk.i64_in _ (by omega);have hm0:(0:Int)≤(m:Int):=by omega
      have hmn:(m:Int)<(len:Int):=by omega
      obtain⟨yte,yke,yat,yps,yse⟩:=y;simp only at d2 hya hcs
      cases sv
      ·rw[Bool.false_and,if_neg (by decide),Nat.add_zero]at hcs;have R:∀ W,Below W5.heap.size W5 W→AiRel l frm k lo W5 (.int .i64 (n:Nat)) (.int .i64 ((m:Int)+1)) W:=fun W h=>⟨m+1,by omega,by omega,by go_num,by rw[hcs] <;> rfl,h⟩;have R:=fun nq=>R _ (bel_drewN hbq nq);clear hcs hnm hfm;obtain⟨RH,hbqH,hslqH,hyH,hsvH,hnH⟩:=hq2 R (hqb hbq hslq hy hsv (Lib.hid hn));clear R hbq hslq hy hsv hn;go_wp2_with fail
       go_quiet (fail)
       go_wp2;refine⟨?rel,?measure⟩
       case measure=>(simp[intOf];omega)
       case rel=>first | exact(RH.out _) | exact⟨rfl,(RH.out _)⟩
      ·rw[Bool.true_and]at hcs
       by_cases hgt:lo<yat
       ·have hd:decide (yat>lo)=true:=decide_eq_true hgt;rw[if_pos (decide_eq_true hgt)]at hcs;have R:∀ W,Below W5.heap.size W5 W→AiRel l frm k lo W5 (.int .i64 ((n:Int)+1)) (.int .i64 ((m:Int)+1)) W:=fun W h=>⟨m+1,by omega,by omega,by go_num,by rw[hcs];go_num,h⟩;have R:=fun nq=>R _ (bel_drewN hbq nq);clear hcs hnm hfm hgt;obtain⟨RH,hbqH,hslqH,hyH,hsvH,hnH⟩:=hq2 R (hqb hbq hslq hy hsv (Lib.hid hn));clear R hbq hslq hy hsv hn;go_wp2_with fail
        go_quiet (fail)
        go_wp2;refine⟨?rel,?measure⟩
        case measure=>(simp[intOf];omega)
        case rel=>first | exact(RH.out _) | exact⟨rfl,(RH.out _)⟩
       ·have hd:decide (yat>lo)=false:=decide_eq_false hgt;rw[if_neg (by rw[decide_eq_false hgt];decide),Nat.add_zero]at hcs;have R:∀ W,Below W5.heap.size W5 W→AiRel l frm k lo W5 (.int .i64 (n:Nat)) (.int .i64 ((m:Int)+1)) W:=fun W h=>⟨m+1,by omega,by omega,by go_num,by rw[hcs] <;> rfl,h⟩;have R:=fun nq=>R _ (bel_drewN hbq nq);clear hcs hnm hfm hgt;obtain⟨RH,hbqH,hslqH,hyH,hsvH,hnH⟩:=hq2 R (hqb hbq hslq hy hsv (Lib.hid hn));clear R hbq hslq hy hsv hn;go_wp2_with fail
        go_quiet (fail)
        go_wp2;refine⟨?rel,?measure⟩
        case measure=>(simp[intOf];omega)
        case rel=>first | exact(RH.out _) | exact⟨rfl,(RH.out _)⟩
     ·obtain rfl:m=k+1:=by omega
      have hle:decide (((k+1:Nat):Int)≤(k:Int))=false:=decide_eq_false (by omega);have hb9:=hb5H.out.trans (hbq.mono hb5H.out.size);obtain⟨n,hn⟩:∃ n,cntS l frm (k+1) lo=n:=⟨_,rfl⟩;have hnx:=hnxH.out;rw[hn]at hnx ⊢
      by_cases hmn:many≤(n:Int)
      ·have hd:decide ((n:Int) ≥ many)=true:=decide_eq_true hmn;rw[if_pos hmn]at hnx;have R:AsRelQ many window good l w1 (.bool true) (.int .i64 0) (.int .i64 (frm:Nat)) (.int .i64 ((k:Int)+1)) wr:=⟨k+1,(by have:=hllH.out;omega),by go_num,by rw[hnx],by rw[hnx],by rw[hnx],hb9⟩;clear hnx hmn;obtain⟨RH,hbqH,hnH,hb9H⟩:=hq2 R (hq2 hbq (hq2 hn (Lib.hid hb9)));clear R hbq hn hb9;go_wp2;refine⟨?rel,?measure⟩
       case measure=>(simp[intOf];omega)
       case rel=>first | exact RH.out | exact⟨rfl,RH.out⟩
      ·have hd:decide ((n:Int) ≥ many)=false:=decide_eq_false hmn;rw[if_neg hmn]at hnx;have R:AsRelQ many window good l w1 (.bool false) (.int .i64 row) (.int .i64 (frm:Nat)) (.int .i64 ((k:Int)+1)) wr:=⟨k+1,(by have:=hllH.out;omega),by go_num,by rw[hnx],by rw[hnx],by rw[hnx],hb9⟩;clear hnx hmn;obtain⟨RH,hbqH,hnH,hb9H⟩:=hq2 R (hq2 hbq (hq2 hn (Lib.hid hb9)));clear R hbq hn hb9;go_wp2;refine⟨?rel,?measure⟩
       case measure=>(simp[intOf];omega)
       case rel=>first | exact RH.out | exact⟨rfl,RH.out⟩
   ·rw[if_pos rfl]at hnx
    cases rps
    ·rw[show (if false=true then row+1 else 0)=(0:Int) from rfl]at hnx
     by_cases hg:good≤0
     ·have hd:decide ((0:Int) ≥ good)=true:=decide_eq_true hg;rw[if_pos hg]at hnx;have R:AsRelQ many window good l w1 (.bool false) (.int .i64 0) (.int .i64 ((k:Int)+1)) (.int .i64 ((k:Int)+1)) (wr.alloc (.cells #[.string rte,.string rke,.int .i64 rat,.bool false,.int .i64 rse] 39)):=⟨k+1,(by have:=hllH.out;omega),by go_num,by rw[hnx],by rw[hnx],by rw[hnx];go_num,hb5⟩;clear hnx hg;obtain⟨RH,hbH,hrH,hslrH,hslwH,hAH,hbr5H,hb5H,hSH⟩:=hqc R hb hr hslr hslw hA hbr5 hb5 (Lib.hid hS);clear R hb hr hslr hslw hA hbr5 hb5 hS;go_wp2;refine⟨?rel,?measure⟩
      case measure=>(simp[intOf];omega)
      case rel=>first | exact RH.out | exact⟨rfl,RH.out⟩
     ·have hd:decide ((0:Int) ≥ good)=false:=decide_eq_false hg;rw[if_neg hg]at hnx;have R:AsRelQ many window good l w1 (.bool true) (.int .i64 0) (.int .i64 (frm:Nat)) (.int .i64 ((k:Int)+1)) (wr.alloc (.cells #[.string rte,.string rke,.int .i64 rat,.bool false,.int .i64 rse] 39)):=⟨k+1,(by have:=hllH.out;omega),by go_num,by rw[hnx],by rw[hnx],by rw[hnx],hb5⟩;clear hnx hg;obtain⟨RH,hbH,hrH,hslrH,hslwH,hAH,hbr5H,hb5H,hSH⟩:=hqc R hb hr hslr hslw hA hbr5 hb5 (Lib.hid hS);clear R hb hr hslr hslw hA hbr5 hb5 hS;go_wp2;refine⟨?rel,?measure⟩
      case measure=>(simp[intOf];omega)
      case rel=>first | exact RH.out | exact⟨rfl,RH.out⟩
    ·rw[show (if true=true then row+1 else 0)=row+1 from rfl]at hnx
     by_cases hg:good≤row+1
     ·have hd:decide (row+1 ≥ good)=true:=decide_eq_true hg;rw[if_pos hg]at hnx;have R:AsRelQ many window good l w1 (.bool false) (.int .i64 (row+1)) (.int .i64 ((k:Int)+1)) (.int .i64 ((k:Int)+1)) (wr.alloc (.cells #[.string rte,.string rke,.int .i64 rat,.bool true,.int .i64 rse] 39)):=⟨k+1,(by have:=hllH.out;omega),by go_num,by rw[hnx],by rw[hnx],by rw[hnx];go_num,hb5⟩;clear hnx hg;obtain⟨RH,hbH,hrH,hslrH,hslwH,hAH,hbr5H,hb5H,hSH⟩:=hqc R hb hr hslr hslw hA hbr5 hb5 (Lib.hid hS);clear R hb hr hslr hslw hA hbr5 hb5 hS;go_wp2;refine⟨?rel,?measure⟩
      case measure=>(simp[intOf];omega)
      case rel=>first | exact RH.out | exact⟨rfl,RH.out⟩
     ·have hd:decide (row+1 ≥ good)=false:=decide_eq_false hg;rw[if_neg hg]at hnx;have R:AsRelQ many window good l w1 (.bool true) (.int .i64 (row+1)) (.int .i64 (frm:Nat)) (.int .i64 ((k:Int)+1)) (wr.alloc (.cells #[.string rte,.string rke,.int .i64 rat,.bool true,.int .i64 rse] 39)):=⟨k+1,(by have:=hllH.out;omega),by go_num,by rw[hnx],by rw[hnx],by rw[hnx],hb5⟩;clear hnx hg;obtain⟨RH,hbH,hrH,hslrH,hslwH,hAH,hbr5H,hb5H,hSH⟩:=hqc R hb hr hslr hslw hA hbr5 hb5 (Lib.hid hS);clear R hb hr hslr hslw hA hbr5 hb5 hS;go_wp2;refine⟨?rel,?measure⟩
      case measure=>(simp[intOf];omega)
      case rel=>first | exact RH.out | exact⟨rfl,RH.out⟩
  ·obtain rfl:k=len:=by have:=hllH.out;omega
   have R:Z (.returned (.bool (raK many window good l k).aside)) wr:=by
    rw[← hZH.out];refine⟨?_,hb1H.out.trans (hb.mono hb1H.out.size)⟩;unfold isAsideF;rw[hllH.out]
   obtain⟨RH,hbH⟩:=hq2 R (Lib.hid hb);clear R hb;go_wp2;exact RH.out
end Go.Proofs.YtcdpdaloceengaaGreatDoor.C10