/-
 Several texts of mine as one, without what is not wanted here: XDelW, XFmE, XFmF.
-/
import Derived.Test.YtbnkoefljcekbaaGreatDoorOtWC9
set_option linter.unusedVariables false
set_option linter.unusedSimpArgs false
set_option maxRecDepth 100000
set_option maxHeartbeats 8000000
namespace Go.Proofs.YtbnkoefljcekbaaGreatDoor.C9
open Go.ChangeShapes Go.WideShapes Go.Deep Go.RowKit
def gvals (x:GRun):Array Value:=#[.int .i64 x.work,.int .i64 x.worker,.int .i64 x.from_,.int .i64 x.end_]
structure DelP (g:Nat) (lb:Array Value) (p:GRun→Bool) (L:List GRun) (rb:Nat) (I:Nat→World→Prop):Prop where
 stab:∀ k W W',I k W→W.grownBy W' (some rb)→I k W'
 call:∀ k x W0 W,L[k]? = some x→I k W0→Below W0.heap.size W0 W→Calls Tryz.prog g (#[.agg (gvals x)]++lb) W fun e w'=>e = .returned (.bool (p x))∧I (k+1) w'∧W.heap.size≤w'.heap.size∧∀ b,(b=rb∨W0.heap.size≤b)→b<W.heap.size→w'.heap[b]? = W.heap[b]?
def IxRel (base rb n cap:Nat) (L:List GRun) (p:GRun→Bool) (I:Nat→World→Prop) (i:Value) (wr:World):Prop :=
 ∃ k:Nat,k≤n∧i = .int .i64 k∧Own RGRun 144 wr base (.slice (some ⟨rb,0,none⟩) n cap) L∧I k wr∧(∀ x∈L.take k,p x=false)
def IxAns (base rb n cap:Nat) (L:List GRun) (p:GRun→Bool) (I:Nat→World→Prop) (e:Ending) (w':World):Prop :=
 Own RGRun 144 w' base (.slice (some ⟨rb,0,none⟩) n cap) L∧((e = .returned (.int .i64 (-1))∧I n w'∧(∀ x∈L,p x=false))∨∃ k:Nat,k<n∧e = .returned (.int .i64 k)∧I (k+1) w'∧(∀ x∈L.take k,p x=false)∧∃ x,L[k]? = some x∧p x=true)
theorem own_lt {base rb n cap:Nat} {L:List GRun} {w:World} (h:Own RGRun 144 w base (.slice (some ⟨rb,0,none⟩) n cap) L):rb<w.heap.size:=(h.1.lt rb rfl).2
theorem own_fz {base rb n cap:Nat} {L:List GRun} {w:World} (h:Own RGRun 144 w base (.slice (some ⟨rb,0,none⟩) n cap) L) (j:Nat):w.frozen? ⟨rb,j,none⟩=false:=by
 obtain⟨cur,a,b,_⟩:=own_open h;exact frozen_of_row w rb _ cur _ b
theorem grun_okW (w w':World) (y:GRun) (h:RGRun.ok w y):RGRun.ok w' y:=h
theorem take_all {L:List GRun} {p:GRun→Bool} {k:Nat} {x:GRun} (h:∀ y∈L.take k,p y=false) (hx:L[k]? = some x) (hp:p x=false):∀ y∈L.take (k+1),p y=false:=fun y hy=>by
 rw[List.take_add_one,hx,Option.toList_some]at hy
 rcases List.mem_append.1 hy with hy | hy
 ·exact h y hy
 ·rw[List.mem_singleton.1 hy];exact hp
theorem indexG_any (g:Nat) (lb:Array Value) (eg:∀ args w,(callFunc g args).run Tryz.prog w = .ok (.enter g args) w) (p:GRun→Bool) (base rb n cap:Nat) (L:List GRun) (I:Nat→World→Prop) (w:World)
  (hP:DelP g lb p L rb I) (hO:Own RGRun 144 w base (.slice (some ⟨rb,0,none⟩) n cap) L) (hI:I 0 w) (hn:n≤1000000) :
  Calls Tryz.prog 157 #[.slice (some ⟨rb,0,none⟩) n cap,.func (.func g) #[] lb] w (IxAns base rb n cap L p I):=by
 have hl:=hO.len;obtain⟨hPH,hOH,hIH,hlH⟩:=hq2 hP (hq2 hO (hq2 hI (Lib.hid hl)));clear hP hO hI hl;go_enter Tryz.func157,Tryz.ntmps157;go_wp2_with fail
 go_loopw [8] (fun i wr=>IxRel base rb n cap L p I i wr) (fun i _=>n-(intOf i).toNat)
 case atStart=>exact⟨0,Nat.zero_le _,rfl,hOH.out,hIH.out,by simp⟩
 case round =>
  clear hOH hIH;obtain⟨k,hk,rfl,hO,hI,hall⟩:=hrel
  by_cases hlt:k<n
  ·obtain⟨x,hx⟩:∃ x,L[k]? = some x:=⟨L[k]'(by have:=hlH.out;omega),List.getElem?_eq_getElem _⟩;obtain⟨d0,d1,d2,d3⟩:=cells_GRun hO.slAt hx;rw[Nat.zero_add]at d0 d1 d2 d3;have hcall:=hPH.out.call k x wr wr hx hI (Below.refl _ _);have hlt2:=own_lt hO;unfold gvals at hcall
   cases hp:p x
   ·rw[hp]at hcall;have hall2:=take_all hall hx hp;have R:∀ w',I (k+1) w'→w'.heap[rb]? = wr.heap[rb]?→IxRel base rb n cap L p I (.int .i64 ((k:Int)+1)) w':=fun w' h1 h2 =>
     ⟨k+1,hlt,by go_num,own_same hO h2 (fun y _ hy=>grun_okW _ _ y hy),h1,hall2⟩
    clear hall hall2;obtain⟨hOH,hIH,hxH,hpH,hcallH,RH,hlt2H⟩:=hq2 hO (hq2 hI (hqb hx hp hcall R (Lib.hid hlt2)));clear hO hI hx hp hcall R hlt2;go_wp2_with fail
    go_at_fn g
    refine hcallH.out.mono ?_;rintro e w5 ⟨rfl,h5,h6,h7⟩;have R5:=RH.out w5 h5 (h7 rb (.inl rfl) hlt2H.out);clear h5 h6 h7;have R5H:=Lib.hid R5;clear R5;go_wp2;refine⟨?rel,?measure⟩
    case measure=>(simp[intOf];omega)
    case rel=>first | exact R5H.out | exact⟨rfl,R5H.out⟩
   ·rw[hp]at hcall;have R:∀ w',I (k+1) w'→w'.heap[rb]? = wr.heap[rb]?→IxAns base rb n cap L p I (.returned (.int .i64 (k:Int))) w':=fun w' h1 h2 =>
     ⟨own_same hO h2 (fun y _ hy=>grun_okW _ _ y hy),.inr ⟨k,hlt,rfl,h1,hall,x,hx,hp⟩⟩
    clear hall;obtain⟨hOH,hIH,hxH,hpH,hcallH,RH,hlt2H⟩:=hq2 hO (hq2 hI (hqb hx hp hcall R (Lib.hid hlt2)));clear hO hI hx hp hcall R hlt2;go_wp2_with fail
    go_at_fn g
    refine hcallH.out.mono ?_;rintro e w5 ⟨rfl,h5,h6,h7⟩;have R5:=RH.out w5 h5 (h7 rb (.inl rfl) hlt2H.out);clear h5 h6 h7;have R5H:=Lib.hid R5;clear R5;go_wp2;go_ret;exact R5H.out
  ·obtain rfl:k=n:=by omega
   rw[List.take_of_length_le (by have:=hlH.out;omega)]at hall;have R:IxAns base rb k cap L p I (.returned (.int .i64 (-1))) wr:=⟨hO,.inl ⟨rfl,hI,hall⟩⟩;clear hall;obtain⟨hOH,hIH,RH⟩:=hq2 hO (hq2 hI (Lib.hid R));clear hO hI R;go_wp2;go_ret;exact RH.out
structure DelI (L M:List GRun) (p:GRun→Bool) (i j:Nat):Prop where
 len:M.length=L.length
 low:M.take i=(L.take j).filter fun x=>!p x
 high:M.drop j=L.drop j
 lt:i<j
theorem DelI.start {L:List GRun} {p:GRun→Bool} {k:Nat} {x:GRun} (h:∀ y∈L.take k,p y=false) (hx:L[k]? = some x) (hp:p x=true):DelI L L p k (k+1):=by
 refine⟨rfl,?_,rfl,by omega⟩;rw[List.take_add_one,hx,Option.toList_some,List.filter_append,List.filter_eq_self.2 (fun y hy=>by rw[h y hy];rfl)];simp[hp]
theorem DelI.skip {L M:List GRun} {p:GRun→Bool} {i j:Nat} {x:GRun} (h:DelI L M p i j) (hx:L[j]? = some x) (hp:p x=true):DelI L M p i (j+1):=by
 refine⟨h.len,?_,?_,by have:=h.lt;omega⟩
 ·rw[h.low,List.take_add_one,hx,Option.toList_some,List.filter_append];simp[hp]
 ·rw[show j+1=j+1 from rfl,← List.drop_drop,h.high,List.drop_drop]
theorem DelI.keep {L M:List GRun} {p:GRun→Bool} {i j:Nat} {x:GRun} (h:DelI L M p i j) (hx:L[j]? = some x) (hp:p x=false):DelI L (M.set i x) p (i+1) (j+1):=by
 have hlt:=h.lt;have hj:=(List.getElem?_eq_some_iff.1 hx).1;have hl:=h.len;refine⟨by rw[List.length_set];exact hl,?_,?_,by omega⟩
 ·rw[List.take_add_one,List.take_set_of_le (Nat.le_refl _),List.getElem?_set_self (by omega),Option.toList_some,h.low,List.take_add_one,hx,Option.toList_some,List.filter_append];simp[hp]
 ·rw[List.drop_set_of_lt (by omega),← List.drop_drop,h.high,List.drop_drop]
def DeRel (base rb n cap:Nat) (L:List GRun) (p:GRun→Bool) (I:Nat→World→Prop) (iv jv:Value) (wr:World):Prop :=
 ∃ (i j:Nat) (M:List GRun),j≤n∧iv = .int .i64 i∧jv = .int .i64 j∧DelI L M p i j∧Own RGRun 144 wr base (.slice (some ⟨rb,0,none⟩) n cap) M∧I j wr
def DeAns (base:Nat) (A:Option Addr) (n cap:Nat) (L:List GRun) (p:GRun→Bool) (I:Nat→World→Prop) (e:Ending) (w':World):Prop :=
 ∃ k,k≤n∧e = .returned (.slice A k cap)∧Own RGRun 144 w' base (.slice A k cap) (L.filter fun x=>!p x)∧I n w'
theorem deleteG_any (g:Nat) (lb:Array Value) (eg:∀ args w,(callFunc g args).run Tryz.prog w = .ok (.enter g args) w) (p:GRun→Bool) (base rb n cap:Nat) (L:List GRun) (I:Nat→World→Prop) (w:World)
  (hP:DelP g lb p L rb I) (hO:Own RGRun 144 w base (.slice (some ⟨rb,0,none⟩) n cap) L) (hI:I 0 w) (hn:n≤1000000) :
  Calls Tryz.prog 113 #[.slice (some ⟨rb,0,none⟩) n cap,.func (.func g) #[] lb] w (DeAns base (some ⟨rb,0,none⟩) n cap L p I):=by
 have hl:=hO.len;have hcap:=hO.cap_le;have hix:=indexG_any g lb eg p base rb n cap L I w hP hO hI hn;obtain⟨hPH,hOH,hIH,hlH,hixH⟩:=hqb hP hO hI hl (Lib.hid hix);clear hP hO hI hl hix;go_enter Tryz.func113,Tryz.ntmps113;go_wp2_with fail;refine hixH.out.mono ?_;rintro e w1 ⟨hO1,⟨rfl,hI1,hno⟩ | ⟨k,hk,rfl,hI1,hall,x,hx,hpx⟩⟩
 ·have R:DeAns base (some ⟨rb,0,none⟩) n cap L p I (.returned (.slice (some ⟨rb,0,none⟩) n cap)) w1 :=
   ⟨n,Nat.le_refl _,rfl,by rw[List.filter_eq_self.2 (fun y hy=>by rw[hno y hy];rfl)];exact hO1,hI1⟩
  clear hO1 hI1 hno;have RH:=Lib.hid R;clear R;go_wp2;go_ret;exact RH.out
 ·have hst:DeRel base rb n cap L p I (.int .i64 (k:Int)) (.int .i64 ((k:Int)+1)) w1:=⟨k,k+1,L,hk,rfl,by go_num,DelI.start hall hx hpx,hO1,hI1⟩;have hk1:((k:Int) == -1)=false:=beq_eq_false_iff_ne.2 (by omega);clear hO1 hI1 hall hx hpx;have hstH:=Lib.hid hst;clear hst;go_wp2_with fail;clear hOH hIH hixH hk1
  go_loopw [5,6] (fun i j wr=>DeRel base rb n cap L p I i j wr) (fun _ j _=>n-(intOf j).toNat)
  case atStart=>exact hstH.out
  case round =>
   clear hstH;obtain⟨i,j,M,hj,rfl,rfl,hD,hO,hI⟩:=hrel;have hij:=hD.lt;have hMl:M.length=n:=hD.len.trans hlH.out;have hlt2:=own_lt hO
   by_cases hlt:j<n
   ·obtain⟨x,hx⟩:∃ x,L[j]? = some x:=⟨L[j]'(by have:=hlH.out;omega),List.getElem?_eq_getElem _⟩;have hMx:M[j]? = some x:=by
     have h1:M[j]? = (M.drop j)[0]?:=by rw[List.getElem?_drop,Nat.add_zero]
     rw[h1,hD.high,List.getElem?_drop,Nat.add_zero];exact hx
    obtain⟨d0,d1,d2,d3⟩:=cells_GRun hO.slAt hMx;rw[Nat.zero_add]at d0 d1 d2 d3;obtain⟨o,ho⟩:∃ o,M[i]? = some o:=⟨M[i]'(by omega),List.getElem?_eq_getElem _⟩;have hba:=(Below.refl wr.heap.size wr).alloc (Nat.le_refl _) (.cells #[.int .i64 x.work,.int .i64 x.worker,.int .i64 x.from_,.int .i64 x.end_] 144);have hcall:=hPH.out.call j x wr _ hx hI hba;unfold gvals at hcall;have hxok:RGRun.ok wr x:=hO.2 x (List.mem_of_getElem? hMx)
    cases hp:p x
    ·rw[hp]at hcall;have hD2:=hD.keep hx hp;have R:∀ w',I (j+1) w'→w'.heap[rb]? = (wr.alloc (.cells #[.int .i64 x.work,.int .i64 x.worker,.int .i64 x.from_,.int .i64 x.end_] 144)).heap[rb]? →
       (∀ c,c<4→w'.frozen? ⟨rb,0+i*4+c,none⟩=false∧∃ u,w'.cell? ⟨rb,0+i*4+c,none⟩=some u)∧DeRel base rb n cap L p I (.int .i64 ((i:Int)+1)) (.int .i64 ((j:Int)+1)) ((((w'.setCell ⟨rb,i*4,none⟩ (.int .i64 x.work)).setCell ⟨rb,i*4+1,none⟩ (.int .i64 x.worker)).setCell ⟨rb,i*4+2,none⟩ (.int .i64 x.from_)).setCell ⟨rb,i*4+3,none⟩ (.int .i64 x.end_)):=by
      intro w' h1 h2;have hO2:Own RGRun 144 w' base (.slice (some ⟨rb,0,none⟩) n cap) M:=own_same hO (h2.trans (hba.block rb hlt2)) (fun y _ hy=>grun_okW _ _ y hy);obtain⟨u0,u1,u2,u3⟩:=cells_GRun hO2.slAt ho;refine⟨fun c hc=>⟨own_fz hO2 _,?_⟩,i+1,j+1,M.set i x,hlt,by go_num,by go_num,hD2,?_,?_⟩
      ·match c,hc with
       | 0,_=>exact⟨_,u0⟩
       | 1,_=>exact⟨_,u1⟩
       | 2,_=>exact⟨_,u2⟩
       | 3,_=>exact⟨_,u3⟩
      ·exact own_put hO2 (by omega) x (grun_okW _ _ x hxok) (fun y hy=>grun_okW _ _ y hy)
      ·exact hPH.out.stab _ _ _ h1 (grown_setCells rb (RGRun.vals x) (i*4) w')
     clear hD hD2;obtain⟨hOH,hIH,hxH,hpH,hcallH,RH,hlt2H,hMxH,hoH,hbaH,hMlH,hxokH⟩:=hq2 hO (hq2 hI (hq2 hx (hqc hp hcall R hlt2 hMx ho hba hMl (Lib.hid hxok))));clear hO hI hx hp hcall R hlt2 hMx ho hba hMl hxok;go_wp2_with fail
     go_at_fn g
     refine hcallH.out.mono ?_;rintro e w5 ⟨rfl,h5,h6,h7⟩;have hv:=h7 wr.heap.size (.inr (Nat.le_refl _)) (by simp);have v0:=(World.cell?_of_block (a:=⟨wr.heap.size,0,none⟩) hv).trans (cell_new wr _ _ 0);have v1:=(World.cell?_of_block (a:=⟨wr.heap.size,1,none⟩) hv).trans (cell_new wr _ _ 1);have v2:=(World.cell?_of_block (a:=⟨wr.heap.size,2,none⟩) hv).trans (cell_new wr _ _ 2);have v3:=(World.cell?_of_block (a:=⟨wr.heap.size,3,none⟩) hv).trans (cell_new wr _ _ 3);simp only[List.getElem?_toArray,List.getElem?_cons_succ,List.getElem?_cons_zero]at v0 v1 v2 v3;obtain⟨R4,R5⟩:=RH.out w5 h5 (h7 rb (.inl rfl) (by simp;have:=hlt2H.out;omega));obtain⟨f0,c0',k0⟩:=R4 0 (by omega);obtain⟨f1,c1',k1⟩:=R4 1 (by omega);obtain⟨f2,c2',k2⟩:=R4 2 (by omega);obtain⟨f3,c3',k3⟩:=R4 3 (by omega);simp only[Nat.add_zero,Nat.zero_add]at f0 f1 f2 f3 k0 k1 k2 k3;clear h5 h6 h7 hv R4;have R5H:=Lib.hid R5;clear R5;go_wp2;refine⟨?rel,?measure⟩
     case measure=>(simp[intOf];omega)
     case rel=>first | exact R5H.out | exact⟨rfl,R5H.out⟩
    ·rw[hp]at hcall;have hD2:=hD.skip hx hp;have R:∀ w',I (j+1) w'→w'.heap[rb]? = (wr.alloc (.cells #[.int .i64 x.work,.int .i64 x.worker,.int .i64 x.from_,.int .i64 x.end_] 144)).heap[rb]? →
       DeRel base rb n cap L p I (.int .i64 (i:Int)) (.int .i64 ((j:Int)+1)) w':=fun w' h1 h2 =>
      ⟨i,j+1,M,hlt,rfl,by go_num,hD2,own_same hO (h2.trans (hba.block rb hlt2)) (fun y _ hy=>grun_okW _ _ y hy),h1⟩
     clear hD hD2;obtain⟨hOH,hIH,hxH,hpH,hcallH,RH,hlt2H,hMxH,hoH,hbaH,hMlH,hxokH⟩:=hq2 hO (hq2 hI (hq2 hx (hqc hp hcall R hlt2 hMx ho hba hMl (Lib.hid hxok))));clear hO hI hx hp hcall R hlt2 hMx ho hba hMl hxok;go_wp2_with fail
     go_at_fn g
     refine hcallH.out.mono ?_;rintro e w5 ⟨rfl,h5,h6,h7⟩;have R5:=RH.out w5 h5 (h7 rb (.inl rfl) (by simp;have:=hlt2H.out;omega));clear h5 h6 h7;have R5H:=Lib.hid R5;clear R5;go_wp2;refine⟨?rel,?measure⟩
     case measure=>(simp[intOf];omega)
     case rel=>first | exact R5H.out | exact⟨rfl,R5H.out⟩
   ·obtain rfl:j=n:=by omega
    have hcells:∀ q,q<(j-i)*4→(wr.cell? ⟨rb,i*4+q,none⟩).isSome=true∧wr.frozen? ⟨rb,i*4+q,none⟩=false:=by
     intro q hq;obtain⟨cur,a,b,c,d,e1,f,_⟩:=own_open hO;refine⟨?_,own_fz hO _⟩;have hlt4:i*4+q<cur.size:=by rw[e1];show _<cap*4;omega
     unfold World.cell?;rw[b];simp[hlt4]
    obtain⟨vs,hvl,hclr⟩:∃ vs:List Value,vs.length=(j-i)*4∧∀ ty,(Builtin.clear_ #[58] ty #[.slice (some ⟨rb,i*4,none⟩) (j-i) (cap-i)]).run Tryz.prog wr = .ok (.tuple #[]) (wr.setCells rb (i*4) vs):=by
     have h0:=fun ty=>run_clear_N (P:=Tryz.prog) wr 58 144 ty (.agg #[.int .i64 0,.int .i64 0,.int .i64 0,.int .i64 0]) 4 Tryz.underlying58 Tryz.zeroValue144 (by decide) (by decide) rb (i*4) (j-i) (cap-i) (by omega) (by omega) (fun q hq=>(hcells q hq).1) (fun q hq=>(hcells q hq).2);exact⟨_,(h0 0).1,fun ty=>(h0 ty).2⟩
    have hO2:=own_wipe hO (i:=i) (by omega) vs hvl (fun y hy=>grun_okW _ _ y hy);have hI2:=hPH.out.stab _ _ _ hI (grown_setCells rb vs (i*4) wr);have R:DeAns base (some ⟨rb,0,none⟩) j cap L p I (.returned (.slice (some ⟨rb,0,none⟩) i cap)) (wr.setCells rb (i*4) vs) :=
     ⟨i,by omega,rfl,by rw[hD.low,List.take_of_length_le (by have:=hlH.out;omega)]at hO2;exact hO2,hI2⟩
    have hji:i≤j:=by omega
    have hjc:j≤cap:=by omega
    clear hD hO2 hI2 hcells hcap;obtain⟨hOH,hIH,hvlH,RH,hMlH,hlt2H⟩:=hq2 hO (hqb hI hvl R hMl (Lib.hid hlt2));clear hO hI hvl R hMl hlt2;go_wp2;go_ret;exact RH.out
theorem own_nil_new (w:World) (base:Nat) (hb:base≤w.heap.size):Own RGRun 144 (w.alloc (.cells #[] 144)) base (.slice (some ⟨w.heap.size,0,none⟩) 0 0) [] :=
 own_make (cur:=#[]) hb (by show (w.heap.push _)[w.heap.size]? = _;exact Array.getElem?_push_size) (Nat.le_refl _) (Nat.zero_le _) rfl (by simp) rfl (fun x hx=>by cases hx)
theorem cloneG_any (A:Option Addr) (n cap:Nat) (L:List GRun) (w:World) (base:Nat) (hO:Own RGRun 144 w base (.slice A n cap) L) (hn:n≤1000000) :
  Calls Tryz.prog 160 #[.slice A n cap] w fun e w'=>∃ A' c',e = .returned (.slice A' n c')∧Own RGRun 144 w' w.heap.size (.slice A' n c') L∧Below w.heap.size w w':=by
 have q22:∀ (w:World) (a:Option Addr) (n c n' c':Nat),(binOp .eql 58 (.slice a n c) (.slice none n' c')).run Tryz.prog w = .ok (.bool a.isNone) w:=fun w a n c n' c'=>Lib.run_eql_slice_nil w _ _ a n c n' c' Tryz.underlying58;have hl:=hO.len
 rcases hO.1.2 with ⟨hv,h0⟩ | ⟨g,cap',cur,hv,_⟩
 ·injection hv with e1 e2 e3;subst e1 e2 e3;obtain rfl:L = []:=List.eq_nil_of_length_eq_zero h0;have R:Own RGRun 144 w w.heap.size (.slice none 0 0) []:=Own.nil _ _;obtain⟨hOH,hlH,RH⟩:=hq2 hO (hq2 hl (Lib.hid R));clear hO hl R;go_enter Tryz.func160,Tryz.ntmps160;go_wp2;go_ret;exact⟨none,0,rfl,RH.out,Below.refl _ _⟩
 ·injection hv with e1 e2 e3;subst e1 e3;clear e2;have hs:=hO.slAt;have hem:=own_nil_new w w.heap.size (Nat.le_refl _);obtain⟨hOH,hlH,hsH,hemH⟩:=hq2 hO (hq2 hl (hq2 hs (Lib.hid hem)));clear hO hl hs hem;go_enter Tryz.func160,Tryz.ntmps160;go_wp2_with (at_builtin;go_loud (refine wpList_app (R:=RGRun) (base:=w.heap.size) rfl (.tmp 5) (.tmp 6) 58 rfl Tryz.underlying58 elem_GRun (by decide) rfl hemH.out (some ⟨g,0,none⟩) n cap L rfl (hsH.out.below ((Below.refl _ _).alloc (Nat.le_refl _) _)) (fun _ h=>by cases h) (fun _ _ _ _ h=>h) (by simp only[List.length_nil];unfold maxLen;omega) (by simp only[List.length_nil];omega) (by simp) n (by simp) ?_);intro A' c' w' hq hg hat hbl);go_ret;rw[List.nil_append]at hq;exact⟨A',c',rfl,hq,((Below.refl w.heap.size w).alloc (Nat.le_refl _) (.cells #[] 144)).trans hbl⟩
theorem indexG_nil (g:Nat) (lb:Array Value) (w:World) :
  Calls Tryz.prog 157 #[.slice none 0 0,.func (.func g) #[] lb] w fun e w'=>e = .returned (.int .i64 (-1))∧w=w':=by
 go_enter Tryz.func157,Tryz.ntmps157;go_wp2_with fail
 go_loopw [8] (fun i wr=>i = .int .i64 0∧w=wr) (fun i _=>0)
 case atStart=>exact⟨rfl,rfl⟩
 case round =>
  obtain⟨rfl,rfl⟩:=hrel;go_wp2;go_ret;exact⟨rfl,rfl⟩
theorem deleteG_nil (g:Nat) (lb:Array Value) (w:World) :
  Calls Tryz.prog 113 #[.slice none 0 0,.func (.func g) #[] lb] w fun e w'=>e = .returned (.slice none 0 0)∧w=w':=by
 go_enter Tryz.func113,Tryz.ntmps113;go_wp2_with fail;refine(indexG_nil g lb w).mono ?_;rintro e w' ⟨rfl,rfl⟩;go_wp2;go_ret;exact⟨rfl,rfl⟩
theorem ro1_any (pb:Nat) (i:Int) (x:GRun) (W:World) (hc:W.cell? ⟨pb,0,none⟩=some (.int .i64 i)) :
  Calls Tryz.prog 161 #[.agg (gvals x),.pointer (some ⟨pb,0,none⟩)] W fun e w'=>e = .returned (.bool (x.work != i))∧Below W.heap.size W w':=by
 unfold gvals;obtain⟨a,b,c,d⟩:=x;have hlt:=cell?_lt hc;have hba:=(Below.refl W.heap.size W).alloc (Nat.le_refl _) (.cells #[.int .i64 a,.int .i64 b,.int .i64 c,.int .i64 d] 144);have hbaH:=Lib.hid hba;clear hba;go_enter Tryz.func161,Tryz.ntmps161;go_wp2;go_ret;exact⟨rfl,hbaH.out⟩
theorem filter_gr (F:FP) (P:List RR) (i:Nat) (hg:∀ r∈P,going r=true):(P.map (gr F)).filter (fun x=>!(x.work != (i:Int)))=(goingOf P i).map (gr F):=by
 unfold goingOf;rw[List.filter_map]
 congr 1
 refine List.filter_congr fun r hr=>?_;simp only[Function.comp,hg r hr,Bool.true_and];show (!!((r.work:Int)==(i:Int)))=(r.work==i);rw[Bool.not_not,Bool.eq_iff_iff,beq_iff_eq,beq_iff_eq];omega
def RoAns (F:FP) (P:List RR) (i:Nat) (w:World) (e:Ending) (w':World):Prop :=
 ∃ A k c,e = .returned (.slice A k c)∧k=(goingOf P i).length∧SlAt RGRun w' A k ((goingOf P i).map (gr F))∧Below w.heap.size w w'
theorem runsOf_any (fb:Nat) (F:FP) (A:Option Addr) (n cap:Nat) (P:List RR) (i:Nat) (w:World) (base:Nat) (h8:w.cell? ⟨fb,8,none⟩=some (.slice A n cap)) (hO:Own RGRun 144 w base (.slice A n cap) (P.map (gr F))) (hn:n≤1000000) (hg:∀ r∈P,going r=true) :
  Calls Tryz.prog 119 #[.pointer (some ⟨fb,0,none⟩),.int .i64 i] w (RoAns F P i w):=by
 have hlt:=cell?_lt h8;have hba:=(Below.refl w.heap.size w).alloc (Nat.le_refl _) (.cells #[.int .i64 i] 3);have b0:=Boxed.new w 3 (.int .i64 i);have hcl:=cloneG_any A n cap (P.map (gr F)) _ base (hO.below hba) hn;have hfl:=filter_gr F P i hg;have eg:∀ args w,(callFunc 161 args).run Tryz.prog w = .ok (.enter 161 args) w:=enters_of Tryz.func161 (by kernel_rfl) rfl;obtain⟨hOH,hbaH,hclH,hflH,hgH⟩:=hqb hO hba hcl hfl (Lib.hid hg);clear hO hba hcl hfl hg;go_enter Tryz.func119,Tryz.ntmps119;go_wp2_with fail;refine hclH.out.mono ?_;rintro e w1 ⟨A1,c1,rfl,hO1,hb1⟩;have hb01:=hbaH.out.trans (hb1.mono hbaH.out.size);have q0:w1.cell? ⟨w.heap.size,0,none⟩=some (.int .i64 i):=(hb1.cell (p:=⟨w.heap.size,0,none⟩) (by simp)).trans b0.cell;clear b0 hclH hbaH
 rcases hO1.1.2 with ⟨hv,h0⟩ | ⟨g,cap',cur,hv,hge,_⟩
 ·injection hv with e1 e2 e3;subst e1 e2 e3;have hP0:P = []:=by cases P with
   | nil=>rfl
   | cons a b=>simp at h0
  subst hP0;have R:RoAns F [] i w (.returned (.slice none 0 0)) w1:=⟨none,0,0,rfl,rfl,⟨rfl,fun h=>absurd h (Nat.lt_irrefl 0),fun x hx=>by cases hx⟩,hb01⟩;clear hO1 hb1 hb01 q0 h0;have RH:=Lib.hid R;clear R;go_wp2_with fail;refine(deleteG_nil _ _ w1).mono ?_;rintro e w2 ⟨rfl,rfl⟩;go_wp2;go_ret;exact RH.out
 ·injection hv with e1 e2 e3;subst e1 e3;clear e2;have hgl:=own_lt hO1;have hgw:w.heap.size≠g:=by simp at hge;omega
  have hwl:w.heap.size<w1.heap.size:=cell?_lt q0;have hcellW:∀ W,w1.grownBy W (some g)→W.cell? ⟨w.heap.size,0,none⟩=some (.int .i64 i):=fun W hW=>hW.cell q0 (by intro e;injection e with e;exact hgw e);have hP:DelP 161 #[.pointer (some ⟨w.heap.size,0,none⟩)] (fun x=>x.work != (i:Int)) (P.map (gr F)) g (fun _ W=>w1.grownBy W (some g)):=by
   refine⟨fun _ W W' h h2=>grown_trans h h2,fun k x W0 W hx hI hW=>?_⟩;have hIW:w1.grownBy W (some g):=grown_trans hI ⟨hW.os,hW.tape,hW.output,hW.size,fun k hk _=>hW.block k hk⟩;refine(ro1_any w.heap.size i x W (hcellW W hIW)).mono ?_;rintro e w' ⟨rfl,hb⟩;exact⟨rfl,grown_trans hIW ⟨hb.os,hb.tape,hb.output,hb.size,fun k hk _=>hb.block k hk⟩,hb.size,fun b _ hb2=>hb.block b hb2⟩
  have hdl:=deleteG_any 161 #[.pointer (some ⟨w.heap.size,0,none⟩)] eg (fun x=>x.work != (i:Int)) _ g n c1 (P.map (gr F)) _ w1 hP hO1 (World.grownBy.refl _ _) hn;clear hP hcellW hO1 q0;have hge2:w.heap.size≤g:=by simp at hge;omega
  obtain⟨hb1H,hb01H,hdlH⟩:=hq2 hb1 (hq2 hb01 (Lib.hid hdl));clear hb1 hb01 hdl;go_wp2_with fail;refine hdlH.out.mono ?_;rintro e w2 ⟨k,hk,rfl,hO2,hg2⟩;rw[hflH.out]at hO2;have R:RoAns F P i w (.returned (.slice (some ⟨g,0,none⟩) k c1)) w2 :=
   ⟨_,k,c1,rfl,by have:=hO2.len;rw[List.length_map]at this;exact this.symm,hO2.slAt,hb01H.out.grown hg2 hb01H.out.size (fun b hb=>by injection hb with hb;omega)⟩
  clear hO2 hg2 hk;have RH:=Lib.hid R;clear R;go_wp2;go_ret;exact RH.out
end Go.Proofs.YtbnkoefljcekbaaGreatDoor.C9
namespace Go.Proofs.YtbnkoefljcekbaaGreatDoor.C9
open Go.ChangeShapes Go.WideShapes Go.Deep Go.RowKit Go.Sort
def cfW (x y:GRun):Int:=Lib.compareInt x.worker y.worker
theorem ltW (x y:GRun):ltOf cfW x y=decide (x.worker<y.worker):=by
 unfold ltOf cfW Lib.compareInt
 by_cases h1:x.worker<y.worker
 ·simp[h1]
 ·by_cases h2:y.worker<x.worker <;> simp[h1,h2]
theorem swoW:SWO (ltOf cfW) where
 irrefl x:=by rw[ltW];simp
 trans x y z h1 h2:=by rw[ltW]at *;simp at *;omega
 ntrans x y z h1 h2:=by rw[ltW]at *;simp at *;omega
theorem fin1_any (x y:GRun) (W:World):Calls Tryz.prog 112 #[.agg (RGRun.vals x).toArray,.agg (RGRun.vals y).toArray] W fun e w'=>e = .returned (.int .i64 (cfW x y))∧∃ q os',w'=grow (W.drewN q) os':=by
 have hcon:=fun W'=>Tryz.cmp_Compare_int x.worker y.worker W';unfold cfW
 generalize Lib.compareInt x.worker y.worker=r at hcon ⊢
 obtain⟨xa,xb,xc,xd⟩:=x;obtain⟨ya,yb,yc,yd⟩:=y;show Calls Tryz.prog 112 #[.agg #[.int .i64 xa,.int .i64 xb,.int .i64 xc,.int .i64 xd],.agg #[.int .i64 ya,.int .i64 yb,.int .i64 yc,.int .i64 yd]] W _;have hconH:=Lib.hid hcon;clear hcon;go_enter Tryz.func112,Tryz.ntmps112;go_wp2_with fail;refine(hconH.out _).mono ?_;rintro e w' ⟨rfl,rfl⟩;go_wp2;go_ret;exact⟨rfl,0,_,by rw[alloc_eq_grow,alloc_eq_grow,grow_grow];rfl⟩
theorem perm_map_inv {α β:Type} {f:α→β} {L M:List β} (h:L.Perm M):∀ P:List α,M=P.map f→∃ P':List α,P'.Perm P∧L=P'.map f:=by
 induction h with
 | nil=>intro P hP;exact⟨P,List.Perm.refl _,hP⟩
 | cons x _ ih =>
  intro P hP
  cases P with
  | nil=>cases hP
  | cons a P =>
   rw[List.map_cons]at hP;injection hP with h1 h2;obtain⟨P',h3,h4⟩:=ih P h2;exact⟨a::P',h3.cons a,by rw[List.map_cons,h1,h4]⟩
 | swap x y l =>
  intro P hP
  match P,hP with
  | a::b::P,hP =>
   simp only[List.map_cons,List.cons.injEq]at hP;obtain⟨h1,h2,h3⟩:=hP;exact⟨b::a::P,List.Perm.swap _ _ _,by simp[h1,h2,h3]⟩
 | trans _ _ ih1 ih2 =>
  intro P hP;obtain⟨P1,h1,h2⟩:=ih2 P hP;obtain⟨P2,h3,h4⟩:=ih1 P1 h2;exact⟨P2,h3.trans h1,h4⟩
def SrtAns (base:Nat) (v:Value) (F:FP) (P:List RR) (w:World) (e:Ending) (w':World):Prop :=
 e = .returned (.tuple #[])∧∃ P':List RR,P'.Perm P∧(P'.Pairwise fun a b=>a.worker≤b.worker)∧Own RGRun 144 w' base v (P'.map (gr F))∧w.grownBy w' v.ownBlock
theorem sortG_any (A:Option Addr) (n cap:Nat) (F:FP) (P:List RR) (w:World) (base:Nat) (hO:Own RGRun 144 w base (.slice A n cap) (P.map (gr F))) (hn:n≤1000000) :
  Calls Tryz.prog 111 #[.slice A n cap,.func (.func 112) #[] #[]] w (SrtAns base (.slice A n cap) F P w):=by
 have hl:=hO.len
 rcases hO.1.2 with ⟨hv,h0⟩ | ⟨g,cap',cur,hv,_⟩
 ·injection hv with e1 e2 e3;subst e1 e2 e3;have hP0:P = []:=by cases P with
   | nil=>rfl
   | cons a b=>simp at h0
  subst hP0;have hcon:=AnyF.slices_SortFunc_none { Tryz.sortG with } none 0 (.func (.func 112) #[] #[]) w
  change Calls Tryz.prog 111 _ _ _ at hcon
  refine hcon.mono ?_;rintro e w' ⟨rfl,rfl⟩;exact⟨rfl,[],List.Perm.refl _,List.Pairwise.nil,hO,World.grownBy.refl _ _⟩
 ·injection hv with e1 e2 e3;subst e1 e3;clear e2;have eg:∀ args w,(callFunc 112 args).run Tryz.prog w = .ok (.enter 112 args) w:=enters_of Tryz.func112 (by kernel_rfl) rfl;have hH:=holdsK_of_own hO;have hsz:(P.map (gr F)).toArray.size=n:=by simpa using hl
  have hcon:=AnyQ.slices_SortFunc Tryz.sortG 4 Tryz.isAgg144 Tryz.sizeOf144 RGRun.vals (fun _=>rfl) RGRun.one cfW swoW 112 #[] g 0 cap (P.map (gr F)).toArray w eg
   (fun m os dk _ x y=>fin1_any x y _) hH (own_lt hO) (by rw[hsz];omega)
  change Calls Tryz.prog 111 _ _ _ at hcon
  rw[hsz]at hcon;refine hcon.mono ?_;rintro e w' ⟨rfl,d',m,os,hp,hs,rfl⟩;rw[← hsz]at hp hs;obtain⟨p1,p2⟩:=perm_of_in hp;obtain⟨P',h1,h2⟩:=perm_map_inv p1 P rfl;have hso:=sorted_of_in p2 hs;rw[h2]at hso;have hd:d'=(P'.map (gr F)).toArray:=by rw[← h2]
  have hlen:(P'.map (gr F)).length=n:=by rw[← hl,List.length_map,List.length_map];exact h1.length_eq
  refine⟨rfl,P',h1,?_,?_,?_⟩
  ·rw[List.pairwise_map]at hso;refine hso.imp fun {a b} hab=>?_;rw[ltW]at hab;have h9:(gr F a).worker≤(gr F b).worker:=by simpa using hab
   have e1:(gr F a).worker=(a.worker:Int):=rfl;have e2:(gr F b).worker=(b.worker:Int):=rfl;omega
  ·rw[hd];refine own_sortK hO _ hlen m os (fun x hx=>?_);obtain⟨r,hr,rfl⟩:=List.mem_map.1 hx;exact grun_okW w _ _ (hO.2 _ (List.mem_map_of_mem (h1.mem_iff.1 hr)))
  ·exact grown_sortK _ _ _
/-! ### finish,run by run: plain -/
section
variable {F:FP} {t:Int} {P:List RR}
def byF (F:FP) (t:Int) (P:List RR) (k:Nat) (i:Int):Option Int:=((P.take k).find? fun r=>(r.work:Int)==i&&cand F t r).map fun r=>(r.worker:Int)
theorem byF_succ {k:Nat} {r:RR} (hr:P[k]? = some r) (i:Int):byF F t P (k+1) i=match byF F t P k i with
  | some v=>some v
  | none=>if ((r.work:Int)==i&&cand F t r)=true then some (r.worker:Int) else none:=by
 unfold byF;rw[List.take_add_one,hr,Option.toList_some,List.find?_append]
 cases h:(P.take k).find? fun r=>(r.work:Int)==i&&cand F t r with
 | some x=>rfl
 | none =>
  simp only[Option.none_or,Option.map_none,List.find?_singleton]
  split
  ·rfl
  ·rfl
theorem byF_all (hs:P.Pairwise fun a b=>a.worker≤b.worker) (i:Nat):(byF F t P P.length (i:Int)=none∧hasDone F t P i=false) ∨
  (hasDone F t P i=true∧∃ c∈P,byF F t P P.length (i:Int)=some (c.worker:Int)∧c.work=i∧isBest F t P c=true):=by
 unfold byF;rw[List.take_length]
 cases h:P.find? fun r=>(r.work:Int)==(i:Int)&&cand F t r with
 | none =>
  left;refine⟨rfl,?_⟩;rw[List.find?_eq_none]at h;unfold hasDone;rw[List.any_eq_false];intro r hr hc;simp only[Bool.and_eq_true,beq_iff_eq]at hc;exact h r hr (by simp[hc.1,hc.2])
 | some c =>
  right;obtain⟨hc1,a,b,hab,hno⟩:=List.find?_eq_some_iff_append.1 h;simp only[Bool.and_eq_true,beq_iff_eq]at hc1;have hcm:c∈P:=by rw[hab];simp
  have hw:c.work=i:=by omega
  refine⟨List.any_eq_true.2 ⟨c,hcm,by rw[hc1.2,hw];simp⟩,c,hcm,rfl,hw,?_⟩;unfold isBest;rw[hc1.2,Bool.true_and,List.all_eq_true];intro x hx
  cases hcx:(x.work==c.work&&cand F t x)
  ·rfl
  ·simp only[Bool.and_eq_true,beq_iff_eq]at hcx;have hle:c.worker≤x.worker:=by
    rw[hab]at hx hs
    rcases List.mem_append.1 hx with hx | hx
    ·have:=hno x hx;simp[hcx.1,hw,hcx.2]at this
    ·rcases List.mem_cons.1 hx with rfl | hx
     ·exact Nat.le_refl _
     ·exact(List.pairwise_cons.1 (List.pairwise_append.1 hs).2.1).1 x hx
   simp[hle]
theorem best_iff (hs:P.Pairwise fun a b=>a.worker≤b.worker) (hd:P.Pairwise fun a b=>a.work=b.work→a.worker≠b.worker) {r:RR} (hr:r∈P) {v:Int} (hv:byF F t P P.length (r.work:Int)=some v):(v==(r.worker:Int))=isBest F t P r:=by
 rcases byF_all (F:=F) (t:=t) hs r.work with ⟨h1,_⟩ | ⟨h1,c,hc,h2,h3,h4⟩
 ·rw[h1]at hv;cases hv
 ·rw[h2]at hv;injection hv with hv;subst hv;rw[Bool.eq_iff_iff,beq_iff_eq]
  constructor
  ·intro e;have hcr:c=r:=by
    apply Classical.byContradiction;intro hne;obtain⟨i,hi,hci⟩:=List.getElem_of_mem hc;obtain⟨j,hj,hrj⟩:=List.getElem_of_mem hr;rw[List.pairwise_iff_getElem]at hd
    rcases Nat.lt_trichotomy i j with h | h | h
    ·have:=hd i j hi hj h;rw[hci,hrj]at this;exact this h3 (by omega)
    ·subst h;rw[hci]at hrj;exact hne hrj
    ·have:=hd j i hj hi h;rw[hci,hrj]at this;exact this h3.symm (by omega)
   rw[← hcr];exact h4
  ·intro hb;have hcand:=isBest_cand hb;unfold isBest at h4 hb;simp only[Bool.and_eq_true,List.all_eq_true]at h4 hb;have a:=h4.2 r hr;have b:=hb.2 c hc;rw[h3,hcand]at a;rw[h3,h4.1]at b;simp at a b;omega
def doneF (F:FP) (t:Int) (P:List RR) (k j:Nat):Bool:=(P.take k).any fun r=>r.work==j&&isBest F t P r
theorem doneF_succ {k:Nat} {r:RR} (hr:P[k]? = some r) (j:Nat):doneF F t P (k+1) j=(doneF F t P k j||(r.work==j&&isBest F t P r)):=by
 unfold doneF;rw[List.take_add_one,hr,Option.toList_some,List.any_append];simp
theorem doneF_all (j:Nat):doneF F t P P.length j=hasDone F t P j:=by
 unfold doneF;rw[List.take_length,Bool.eq_iff_iff]
 constructor
 ·intro h;obtain⟨r,hr,hc⟩:=List.any_eq_true.1 h;simp only[Bool.and_eq_true,beq_iff_eq]at hc;exact List.any_eq_true.2 ⟨r,hr,by rw[hc.1,isBest_cand hc.2];simp⟩
 ·intro h;obtain⟨r,hr,hw,hb⟩:=hasDone_ex h;exact List.any_eq_true.2 ⟨r,hr,by rw[hw,hb];simp⟩
def fnS (F:FP) (s:PS) (k:Nat):PS :=
 { s with out:=s.out++((s.runs.take k).filter fun r=>hasDone F s.now s.runs r.work).map (finRun F s.now s.runs),done:=fun j=>s.done j||doneF F s.now s.runs k j,last:=fun j=>if doneF F s.now s.runs k j=true then s.now else s.last j }
theorem fnS_zero (F:FP) (s:PS):fnS F s 0=s:=by
 unfold fnS doneF;simp
theorem fnS_all (F:FP) (s:PS):{ fnS F s s.runs.length with runs:=s.runs.filter fun r=>!hasDone F s.now s.runs r.work }=finP F s:=by
 unfold fnS finP;simp only[List.take_length];have:doneF F s.now s.runs s.runs.length=hasDone F s.now s.runs:=by funext j;exact doneF_all j
 simp only[this]
theorem fnS_no {s:PS} {k:Nat} {r:RR} (hr:s.runs[k]? = some r) (h:hasDone F s.now s.runs r.work=false):fnS F s (k+1)=fnS F s k:=by
 have hb:isBest F s.now s.runs r=false:=by
  cases hb:isBest F s.now s.runs r
  ·rfl
  ·have h9:hasDone F s.now s.runs r.work=true:=List.any_eq_true.2 ⟨r,List.mem_of_getElem? hr,by simp[isBest_cand hb]⟩;rw[h]at h9;cases h9
 have hd:doneF F s.now s.runs (k+1)=doneF F s.now s.runs k:=by funext j;rw[doneF_succ hr,hb];simp
 unfold fnS;rw[hd,List.take_add_one,hr,Option.toList_some,List.filter_append,List.filter_cons_of_neg (by simp[h]),List.filter_nil,List.append_nil]
theorem fnS_stop {s:PS} {k:Nat} {r:RR} (hr:s.runs[k]? = some r) (hg:going r=true) (h:hasDone F s.now s.runs r.work=true) (hb:isBest F s.now s.runs r=false):fnS F s (k+1)=clS (fnS F s k) r 3:=by
 have hd:doneF F s.now s.runs (k+1)=doneF F s.now s.runs k:=by funext j;rw[doneF_succ hr,hb];simp
 rw[clS_3];unfold fnS;rw[hd,List.take_add_one,hr,Option.toList_some,List.filter_append,List.filter_cons_of_pos (p:=fun r:RR=>hasDone F s.now s.runs r.work) h,List.filter_nil,List.map_append,List.map_singleton,finRun_yes (by rw[hg,h];rfl),hb];simp
theorem fnS_done {s:PS} {k:Nat} {r:RR} (hr:s.runs[k]? = some r) (hg:going r=true) (h:hasDone F s.now s.runs r.work=true) (hb:isBest F s.now s.runs r=true) :
  fnS F s (k+1)=clS { fnS F s k with done:=fun j=>if j=r.work then true else (fnS F s k).done j } r 1:=by
 rw[clS_n _ r (by decide) rfl];unfold fnS;rw[List.take_add_one,hr,Option.toList_some,List.filter_append,List.filter_cons_of_pos (p:=fun r:RR=>hasDone F s.now s.runs r.work) h,List.filter_nil,List.map_append,List.map_singleton,finRun_yes (by rw[hg,h];rfl),hb];simp only[if_true,List.append_assoc]
 congr 1
 ·funext j
  rw[doneF_succ hr,hb]
  by_cases e:j=r.work
  ·subst e;simp
  ·have:(r.work==j)=false:=by simpa using fun h=>e h.symm
   rw[if_neg e,this];simp
 ·funext j
  rw[doneF_succ hr,hb]
  by_cases e:j=r.work
  ·subst e;simp
  ·have:(r.work==j)=false:=by simpa using fun h=>e h.symm
   rw[if_neg e,this];simp
end
end Go.Proofs.YtbnkoefljcekbaaGreatDoor.C9