/-
 Several texts of mine as one, without what is not wanted here: XStands, XRPairs, XWorker, XCWork.
-/
import Derived.Test.YtbnkoefljcekbaaGreatDoorPyAC9
set_option linter.unusedVariables false
set_option linter.unusedSimpArgs false
set_option maxRecDepth 100000
set_option maxHeartbeats 8000000
namespace Go.Proofs.YtbnkoefljcekbaaGreatDoor.C9
open Go.RowKit
def standsErr:Option Int→List Span→Int
 | _,[]=>0
 | p,s::r=>if inR 0 1000000000 s.from_=true then (if inR 0 1000000000 s.to_=true then (if s.to_≤s.from_ then 8 else if p.map (fun t=>decide (s.from_<t))=some true then 8 else standsErr (some s.to_) r) else 1) else 1
def prevTo (l:List Span) (k:Nat):Option Int:=if k=0 then none else (l[k-1]?).map (·.to_)
def standsF (l:List Span):Int:=if l.length≤20 then standsErr none l else 2
def StandsRel (l:List Span) (c:Int) (w0:World) (i:Value) (wr:World):Prop :=
 ∃ k:Nat,k≤l.length∧i = .int .i64 k∧standsErr (prevTo l k) (l.drop k)=c∧Below w0.heap.size w0 wr
theorem stands_ok (A:Option Addr) (len cap:Nat) (l:List Span) (w:World) (hlen:len≤20) (hl:SlAt RSpan w A len l) (c:Int) (hF:standsErr none l=c) :
  Calls Tryz.prog 136 #[.slice A len cap] w fun e w'=>e = .returned (.int .i64 c)∧Below w.heap.size w w':=by
 have hll:=hl.1;obtain⟨hllH,hFH,hlH⟩:=hq2 hll (hq2 hF (Lib.hid hl));clear hll hF hl;go_enter Tryz.func136,Tryz.ntmps136;go_wp2
 go_loopw [10] (fun i wr=>StandsRel l c w i wr) (fun i _=>len-(intOf i).toNat)
 case atStart=>exact⟨0,Nat.zero_le _,rfl,hFH.out,Below.refl _ _⟩
 case round =>
  obtain⟨k,hk,rfl,hck,hb⟩:=hrel;have hkl:k≤len:=by have:=hllH.out;omega
  have hbs:=hb.size
  by_cases hlt:k<len
  ·obtain⟨b,off,hA,_⟩:=hlH.out.2.1 (by omega);subst hA;obtain⟨x,hx⟩:∃ x,l[k]? = some x:=⟨l[k]'(by have:=hllH.out;omega),List.getElem?_eq_getElem _⟩;obtain⟨c0,c1⟩:=cells_Span (hlH.out.below hb) hx;have hok:=hlH.out.2.2 x (List.mem_of_getElem? hx);rw[drop_cons hx,standsErr]at hck;obtain⟨fr,tz⟩:=x;simp only at c0 c1 hck;have hba:=hb.alloc hbs (.cells #[.int .i64 fr,.int .i64 tz] 202);obtain⟨hbH,hbaH,hokH⟩:=hq2 hb (hq2 hba (Lib.hid hok));clear hb hba hok
   by_cases i0:inR 0 1000000000 fr=true
   ·rw[if_pos i0]at hck
    by_cases i1:inR 0 1000000000 tz=true
    ·rw[if_pos i1]at hck
     by_cases hle:tz≤fr
     ·rw[if_pos hle]at hck;obtain⟨hckH,hxH⟩:=hq2 hck (Lib.hid hx);clear hck hx;go_wp2_with (go_at_call 39;refine(moment_p _ _).mono ?_;rintro e wz ⟨rfl,rfl⟩)
      go_quiet (fail)
      go_wp2;go_ret;exact⟨ret1_int hckH.out,bel_drewN hbaH.out _⟩
     ·rw[if_neg hle]at hck;have hle2:decide (tz≤fr)=false:=decide_eq_false hle;have hle3:fr<tz:=by omega
      clear hle
      by_cases hk0:k=0
      ·subst hk0;rw[Nat.zero_mul,Nat.add_zero]at c0 c1;have R:∀ nq,StandsRel l c w (.int .i64 1) ((wr.alloc (.cells #[.int .i64 fr,.int .i64 tz] 202)).drewN nq):=by
        refine fun nq=>⟨1,by have:=hllH.out;omega,by go_num,?_,bel_drewN hbaH.out nq⟩;rw[prevTo,if_pos rfl,Option.map_none,if_neg (by decide)]at hck;rw[prevTo,if_neg (by decide),show l[1-1]? = l[0]? from rfl,hx];exact hck
       obtain⟨hckH,hxH,RH⟩:=hq2 hck (hq2 hx (Lib.hid R));clear hck hx R;go_wp2_with (go_at_call 39;refine(moment_p _ _).mono ?_;rintro e wz ⟨rfl,rfl⟩)
       go_quiet (fail)
       go_wp2;refine⟨?rel,?measure⟩
       case measure=>(simp[intOf];omega)
       case rel=>first | exact(RH.out _) | exact⟨rfl,(RH.out _)⟩
      ·obtain⟨j,rfl⟩:∃ j,k=j+1:=⟨k-1,by omega⟩;obtain⟨y,hy⟩:∃ y,l[j]? = some y:=⟨l[j]'(by have:=hllH.out;omega),List.getElem?_eq_getElem _⟩;obtain⟨_,d1⟩:=cells_Span (hlH.out.below hbaH.out) hy;have hoky:=hlH.out.2.2 y (List.mem_of_getElem? hy);obtain⟨yf,yt⟩:=y;simp only at d1;have hpr:prevTo l (j+1)=some yt:=by rw[prevTo,if_neg (by omega),show j+1-1=j from rfl,hy];rfl
       rw[hpr,Option.map_some]at hck
       by_cases hlt2:fr<yt
       ·rw[if_pos (by rw[decide_eq_true hlt2])]at hck;obtain⟨hckH,hprH,hxH,hyH,hokyH⟩:=hqb hck hpr hx hy (Lib.hid hoky);clear hck hpr hx hy hoky;go_wp2_with (go_at_call 39;refine(moment_p _ _).mono ?_;rintro e wz ⟨rfl,rfl⟩)
        go_quiet (fail)
        go_wp2;go_ret;exact⟨ret1_int hckH.out,bel_drewN hbaH.out _⟩
       ·rw[if_neg (by rw[decide_eq_false hlt2];decide)]at hck;have hlt3:decide (fr<yt)=false:=decide_eq_false hlt2;have hlt4:yt≤fr:=by omega
        clear hlt2;have R:∀ nq,StandsRel l c w (.int .i64 (j+1+1)) ((wr.alloc (.cells #[.int .i64 fr,.int .i64 tz] 202)).drewN nq):=by
         refine fun nq=>⟨j+1+1,by have:=hllH.out;omega,by go_num,?_,bel_drewN hbaH.out nq⟩;rw[prevTo,if_neg (by omega),show j+1+1-1=j+1 from rfl,hx];exact hck
        obtain⟨hckH,hprH,hxH,hyH,RH,hokyH⟩:=hq2 hck (hqb hpr hx hy R (Lib.hid hoky));clear hck hpr hx hy R hoky;go_wp2_with (go_at_call 39;refine(moment_p _ _).mono ?_;rintro e wz ⟨rfl,rfl⟩)
        go_quiet (fail)
        go_wp2;refine⟨?rel,?measure⟩
        case measure=>(simp[intOf];omega)
        case rel=>first | exact(RH.out _) | exact⟨rfl,(RH.out _)⟩
    ·rw[if_neg i1]at hck;have i1:inR 0 1000000000 tz=false:=by simpa using i1
     obtain⟨hckH,hxH⟩:=hq2 hck (Lib.hid hx);clear hck hx;go_wp2_with (go_at_call 39;refine(moment_p _ _).mono ?_;rintro e wz ⟨rfl,rfl⟩);go_ret;exact⟨ret1_int hckH.out,hbaH.out⟩
   ·rw[if_neg i0]at hck;have i0:inR 0 1000000000 fr=false:=by simpa using i0
    obtain⟨hckH,hxH⟩:=hq2 hck (Lib.hid hx);clear hck hx;go_wp2_with (go_at_call 39;refine(moment_p _ _).mono ?_;rintro e wz ⟨rfl,rfl⟩);go_ret;exact⟨ret1_int hckH.out,hbaH.out⟩
  ·have e:l.drop k = []:=List.drop_eq_nil_of_le (by have:=hllH.out;omega);rw[e]at hck;have hc0:0=c:=by rw[← hck];unfold standsErr;rfl
   obtain⟨hckH,hbH,eH,hc0H⟩:=hq2 hck (hq2 hb (hq2 e (Lib.hid hc0)));clear hck hb e hc0;go_wp2;go_ret;exact⟨ret1_int hc0H.out,hbH.out⟩
theorem stands_any (A:Option Addr) (len cap:Nat) (l:List Span) (w:World) (hl:SlAt RSpan w A len l) (c:Int) (hF:standsF l=c) :
  Calls Tryz.prog 136 #[.slice A len cap] w fun e w'=>e = .returned (.int .i64 c)∧Below w.heap.size w w':=by
 unfold standsF at hF;rw[hl.1]at hF
 by_cases h:len≤20
 ·rw[if_pos h]at hF;exact stands_ok A len cap l w h hl c hF
 ·rw[if_neg h]at hF;subst hF;clear hl;go_enter Tryz.func136,Tryz.ntmps136;go_wp2;go_ret;exact⟨rfl,Below.refl _ _⟩
theorem rstands_ok (A:Option Addr) (len cap:Nat) (l:List Span) (w:World) (hlen:len≤20) (hl:SlAt RSpan w A len l) (c:Int) (hF:standsErr none l=c) :
  Calls Tryz.prog 141 #[.slice A len cap] w fun e w'=>e = .returned (.int .i64 c)∧Below w.heap.size w w':=by
 have hll:=hl.1;obtain⟨hllH,hFH,hlH⟩:=hq2 hll (hq2 hF (Lib.hid hl));clear hll hF hl;go_enter Tryz.func141,Tryz.ntmps141;go_wp2
 go_loopw [10] (fun i wr=>StandsRel l c w i wr) (fun i _=>len-(intOf i).toNat)
 case atStart=>exact⟨0,Nat.zero_le _,rfl,hFH.out,Below.refl _ _⟩
 case round =>
  obtain⟨k,hk,rfl,hck,hb⟩:=hrel;have hkl:k≤len:=by have:=hllH.out;omega
  have hbs:=hb.size
  by_cases hlt:k<len
  ·obtain⟨b,off,hA,_⟩:=hlH.out.2.1 (by omega);subst hA;obtain⟨x,hx⟩:∃ x,l[k]? = some x:=⟨l[k]'(by have:=hllH.out;omega),List.getElem?_eq_getElem _⟩;obtain⟨c0,c1⟩:=cells_Span (hlH.out.below hb) hx;have hok:=hlH.out.2.2 x (List.mem_of_getElem? hx);rw[drop_cons hx,standsErr]at hck;obtain⟨fr,tz⟩:=x;simp only at c0 c1 hck;have hba:=hb.alloc hbs (.cells #[.int .i64 fr,.int .i64 tz] 202);obtain⟨hbH,hbaH,hokH⟩:=hq2 hb (hq2 hba (Lib.hid hok));clear hb hba hok
   by_cases i0:inR 0 1000000000 fr=true
   ·rw[if_pos i0]at hck
    by_cases i1:inR 0 1000000000 tz=true
    ·rw[if_pos i1]at hck
     by_cases hle:tz≤fr
     ·rw[if_pos hle]at hck;obtain⟨hckH,hxH⟩:=hq2 hck (Lib.hid hx);clear hck hx;go_wp2_with (go_at_call 47;refine(within_r _ _ _ _).mono ?_;rintro e wz ⟨rfl,rfl⟩)
      go_quiet (fail)
      go_wp2;go_ret;exact⟨ret1_int hckH.out,bel_drewN hbaH.out _⟩
     ·rw[if_neg hle]at hck;have hle2:decide (tz≤fr)=false:=decide_eq_false hle;have hle3:fr<tz:=by omega
      clear hle
      by_cases hk0:k=0
      ·subst hk0;rw[Nat.zero_mul,Nat.add_zero]at c0 c1;have R:∀ nq,StandsRel l c w (.int .i64 1) ((wr.alloc (.cells #[.int .i64 fr,.int .i64 tz] 202)).drewN nq):=by
        refine fun nq=>⟨1,by have:=hllH.out;omega,by go_num,?_,bel_drewN hbaH.out nq⟩;rw[prevTo,if_pos rfl,Option.map_none,if_neg (by decide)]at hck;rw[prevTo,if_neg (by decide),show l[1-1]? = l[0]? from rfl,hx];exact hck
       obtain⟨hckH,hxH,RH⟩:=hq2 hck (hq2 hx (Lib.hid R));clear hck hx R;go_wp2_with (go_at_call 47;refine(within_r _ _ _ _).mono ?_;rintro e wz ⟨rfl,rfl⟩)
       go_quiet (fail)
       go_wp2;refine⟨?rel,?measure⟩
       case measure=>(simp[intOf];omega)
       case rel=>first | exact(RH.out _) | exact⟨rfl,(RH.out _)⟩
      ·obtain⟨j,rfl⟩:∃ j,k=j+1:=⟨k-1,by omega⟩;obtain⟨y,hy⟩:∃ y,l[j]? = some y:=⟨l[j]'(by have:=hllH.out;omega),List.getElem?_eq_getElem _⟩;obtain⟨_,d1⟩:=cells_Span (hlH.out.below hbaH.out) hy;have hoky:=hlH.out.2.2 y (List.mem_of_getElem? hy);obtain⟨yf,yt⟩:=y;simp only at d1;have hpr:prevTo l (j+1)=some yt:=by rw[prevTo,if_neg (by omega),show j+1-1=j from rfl,hy];rfl
       rw[hpr,Option.map_some]at hck
       by_cases hlt2:fr<yt
       ·rw[if_pos (by rw[decide_eq_true hlt2])]at hck;obtain⟨hckH,hprH,hxH,hyH,hokyH⟩:=hqb hck hpr hx hy (Lib.hid hoky);clear hck hpr hx hy hoky;go_wp2_with (go_at_call 47;refine(within_r _ _ _ _).mono ?_;rintro e wz ⟨rfl,rfl⟩)
        go_quiet (fail)
        go_wp2;go_ret;exact⟨ret1_int hckH.out,bel_drewN hbaH.out _⟩
       ·rw[if_neg (by rw[decide_eq_false hlt2];decide)]at hck;have hlt3:decide (fr<yt)=false:=decide_eq_false hlt2;have hlt4:yt≤fr:=by omega
        clear hlt2;have R:∀ nq,StandsRel l c w (.int .i64 (j+1+1)) ((wr.alloc (.cells #[.int .i64 fr,.int .i64 tz] 202)).drewN nq):=by
         refine fun nq=>⟨j+1+1,by have:=hllH.out;omega,by go_num,?_,bel_drewN hbaH.out nq⟩;rw[prevTo,if_neg (by omega),show j+1+1-1=j+1 from rfl,hx];exact hck
        obtain⟨hckH,hprH,hxH,hyH,RH,hokyH⟩:=hq2 hck (hqb hpr hx hy R (Lib.hid hoky));clear hck hpr hx hy R hoky;go_wp2_with (go_at_call 47;refine(within_r _ _ _ _).mono ?_;rintro e wz ⟨rfl,rfl⟩)
        go_quiet (fail)
        go_wp2;refine⟨?rel,?measure⟩
        case measure=>(simp[intOf];omega)
        case rel=>first | exact(RH.out _) | exact⟨rfl,(RH.out _)⟩
    ·rw[if_neg i1]at hck;have i1:inR 0 1000000000 tz=false:=by simpa using i1
     obtain⟨hckH,hxH⟩:=hq2 hck (Lib.hid hx);clear hck hx;go_wp2_with (go_at_call 47;refine(within_r _ _ _ _).mono ?_;rintro e wz ⟨rfl,rfl⟩);go_ret;exact⟨ret1_int hckH.out,hbaH.out⟩
   ·rw[if_neg i0]at hck;have i0:inR 0 1000000000 fr=false:=by simpa using i0
    obtain⟨hckH,hxH⟩:=hq2 hck (Lib.hid hx);clear hck hx;go_wp2_with (go_at_call 47;refine(within_r _ _ _ _).mono ?_;rintro e wz ⟨rfl,rfl⟩);go_ret;exact⟨ret1_int hckH.out,hbaH.out⟩
  ·have e:l.drop k = []:=List.drop_eq_nil_of_le (by have:=hllH.out;omega);rw[e]at hck;have hc0:0=c:=by rw[← hck];unfold standsErr;rfl
   obtain⟨hckH,hbH,eH,hc0H⟩:=hq2 hck (hq2 hb (hq2 e (Lib.hid hc0)));clear hck hb e hc0;go_wp2;go_ret;exact⟨ret1_int hc0H.out,hbH.out⟩
theorem rstands_any (A:Option Addr) (len cap:Nat) (l:List Span) (w:World) (hl:SlAt RSpan w A len l) (c:Int) (hF:standsF l=c) :
  Calls Tryz.prog 141 #[.slice A len cap] w fun e w'=>e = .returned (.int .i64 c)∧Below w.heap.size w w':=by
 unfold standsF at hF;rw[hl.1]at hF
 by_cases h:len≤20
 ·rw[if_pos h]at hF;exact rstands_ok A len cap l w h hl c hF
 ·rw[if_neg h]at hF;subst hF;clear hl;go_enter Tryz.func141,Tryz.ntmps141;go_wp2;go_ret;exact⟨rfl,Below.refl _ _⟩
theorem rpairs_ok (A:Option Addr) (len cap:Nat) (l:List Pair) (w:World) (hlen:len≤30) (hl:SlAt RPair w A len l) (c:Int) (hF:pairsErr none l=c) :
  Calls Tryz.prog 140 #[.slice A len cap] w fun e w'=>e = .returned (.int .i64 c)∧Below w.heap.size w w':=by
 have hll:=hl.1;obtain⟨hllH,hFH,hlH⟩:=hq2 hll (hq2 hF (Lib.hid hl));clear hll hF hl;go_enter Tryz.func140,Tryz.ntmps140;go_wp2
 go_loopw [10] (fun i wr=>PairsRel l c w i wr) (fun i _=>len-(intOf i).toNat)
 case atStart=>exact⟨0,Nat.zero_le _,rfl,hFH.out,Below.refl _ _⟩
 case round =>
  obtain⟨k,hk,rfl,hck,hb⟩:=hrel;have hkl:k≤len:=by have:=hllH.out;omega
  have hbs:=hb.size
  by_cases hlt:k<len
  ·obtain⟨b,off,hA,_⟩:=hlH.out.2.1 (by omega);subst hA;obtain⟨x,hx⟩:∃ x,l[k]? = some x:=⟨l[k]'(by have:=hllH.out;omega),List.getElem?_eq_getElem _⟩;obtain⟨c0,c1⟩:=cells_Pair (hlH.out.below hb) hx;have hok:=hlH.out.2.2 x (List.mem_of_getElem? hx);rw[drop_cons hx]at hck;obtain⟨nm,vl⟩:=x;simp only at c0 c1;obtain⟨b1,hb1⟩:∃ b,wordB nm=b:=⟨_,rfl⟩;obtain⟨b2,hb2⟩:∃ b,wordB vl=b:=⟨_,rfl⟩;have hba:=hb.alloc hbs (.cells #[.string nm,.string vl] 120);have R:∀ v,PairsRel l c w v wr→True:=fun _ _=>trivial;clear R;obtain⟨hxH,hckH,hbH,hbaH,hokH,hb1H,hb2H⟩:=hq2 hx (hq2 hck (hqb hb hba hok hb1 (Lib.hid hb2)));clear hx hck hb hba hok hb1 hb2;go_wp2_with fail;refine(rword_any nm b1 _ hokH.out.1 hb1H.out).mono ?_;rintro e w1 ⟨rfl,rfl⟩
   cases b1
   ·go_wp2;go_ret;refine⟨?_,hbaH.out⟩;have:=hckH.out;rw[pairsErr,if_neg (by rw[hb1H.out];decide)]at this;exact ret1_int this
   ·go_wp2_with fail;refine(rword_any vl b2 _ hokH.out.2 hb2H.out).mono ?_;rintro e w2 ⟨rfl,rfl⟩
    cases b2
    ·go_wp2;go_ret;refine⟨?_,hbaH.out⟩;have:=hckH.out;rw[pairsErr,if_pos hb1H.out,if_neg (by rw[hb2H.out];decide)]at this;exact ret1_int this
    ·by_cases hk0:k=0
     ·subst hk0;have R:∀ nq,PairsRel l c w (.int .i64 1) ((wr.alloc (.cells #[.string nm,.string vl] 120)).drewN nq):=by
       refine fun nq=>⟨1,by have:=hllH.out;omega,by go_num,?_,bel_drewN hbaH.out nq⟩;have:=hckH.out;rw[pairsErr,if_pos hb1H.out,if_pos hb2H.out,prevName,if_pos rfl,Option.map_none,if_neg (by decide)]at this;rw[prevName,if_neg (by decide),show l[1-1]? = l[0]? from rfl,hxH.out];exact this
      have RH:=Lib.hid R;clear R;go_wp2_with fail
      go_quiet (fail)
      go_wp2;refine⟨?rel,?measure⟩
      case measure=>(simp[intOf];omega)
      case rel=>first | exact(RH.out _) | exact⟨rfl,(RH.out _)⟩
     ·obtain⟨j,rfl⟩:∃ j,k=j+1:=⟨k-1,by omega⟩;obtain⟨y,hy⟩:∃ y,l[j]? = some y:=⟨l[j]'(by have:=hllH.out;omega),List.getElem?_eq_getElem _⟩;obtain⟨d0,_⟩:=cells_Pair (hlH.out.below hbaH.out) hy;obtain⟨yn,yv⟩:=y;simp only at d0;have hpr:prevName l (j+1)=some yn:=by rw[prevName,if_neg (by omega),show j+1-1=j from rfl,hy];rfl
      have hck:=hckH.out;rw[hpr,pairsErr,if_pos hb1H.out,if_pos hb2H.out,Option.map_some]at hck
      cases hle:sle nm yn
      ·have hle':(Op.bytesLess nm.toList yn.toList||nm.toList==yn.toList)=false:=hle;rw[hle,if_neg (by decide)]at hck;have R:∀ nq,PairsRel l c w (.int .i64 (j+1+1)) ((wr.alloc (.cells #[.string nm,.string vl] 120)).drewN nq):=by
        refine fun nq=>⟨j+1+1,by have:=hllH.out;omega,by go_num,?_,bel_drewN hbaH.out nq⟩;rw[prevName,if_neg (by omega),show j+1+1-1=j+1 from rfl,hxH.out];exact hck
       obtain⟨hleH,hckH,hprH,hyH,RH⟩:=hqb hle hck hpr hy (Lib.hid R);clear hle hck hpr hy R;go_wp2_with fail
       go_quiet (fail)
       go_wp2;refine⟨?rel,?measure⟩
       case measure=>(simp[intOf];omega)
       case rel=>first | exact(RH.out _) | exact⟨rfl,(RH.out _)⟩
      ·have hle':(Op.bytesLess nm.toList yn.toList||nm.toList==yn.toList)=true:=hle;rw[hle,if_pos rfl]at hck;obtain⟨hleH,hckH,hprH,hyH⟩:=hq2 hle (hq2 hck (hq2 hpr (Lib.hid hy)));clear hle hck hpr hy;go_wp2_with fail
       go_quiet (fail)
       go_wp2;go_ret;exact⟨ret1_int hckH.out,bel_drewN hbaH.out _⟩
  ·have e:l.drop k = []:=List.drop_eq_nil_of_le (by have:=hllH.out;omega);rw[e]at hck;have hc0:0=c:=by rw[← hck];unfold pairsErr;rfl
   obtain⟨hckH,hbH,eH,hc0H⟩:=hq2 hck (hq2 hb (hq2 e (Lib.hid hc0)));clear hck hb e hc0;go_wp2;go_ret;exact⟨ret1_int hc0H.out,hbH.out⟩
theorem rpairs_any (A:Option Addr) (len cap:Nat) (l:List Pair) (w:World) (hl:SlAt RPair w A len l) (c:Int) (hF:pairsF l=c) :
  Calls Tryz.prog 140 #[.slice A len cap] w fun e w'=>e = .returned (.int .i64 c)∧Below w.heap.size w w':=by
 unfold pairsF at hF;rw[hl.1]at hF
 by_cases h:len≤30
 ·rw[if_pos h]at hF;exact rpairs_ok A len cap l w h hl c hF
 ·rw[if_neg h]at hF;subst hF;clear hl;go_enter Tryz.func140,Tryz.ntmps140;go_wp2;go_ret;exact⟨rfl,Below.refl _ _⟩
theorem rword_b (s:ByteArray) (b:Bool) (w:World) (hs:s.size≤maxLen) (hb:wordB s=b) :
  Calls Tryz.prog 108 #[.string s] w fun e w'=>e = .returned (.bool b)∧Below w.heap.size w w' :=
 (rword_any s b w hs hb).mono fun e w' h=>⟨h.1,h.2 ▸ Below.refl _ _⟩
def workerF (x:Worker):Int :=
 if wordB x.name=true then
  if pairsF x.has.l=0 then
   if inR 1 20 x.slots=true∧inR 1 1000 x.speed=true∧inR 0 1000000000 x.from_=true∧inR 0 1000000000 x.to_=true then
    if x.to_≤x.from_ then 8 else standsF x.stands.l
   else 1
  else pairsF x.has.l
 else 5
theorem worker_any (x:Worker) (w:World) (hok:RWorker.ok w x) (c:Int) (hF:workerF x=c) :
  Calls Tryz.prog 83 #[.agg #[.string x.name,.slice x.has.A x.has.n x.has.cap,.int .i64 x.slots,.int .i64 x.speed,.int .i64 x.from_,.int .i64 x.to_,.slice x.stands.A x.stands.n x.stands.cap]] w fun e w' =>
   e = .returned (.int .i64 c)∧Below w.heap.size w w':=by
 obtain⟨nm,has,sl,sp,fr,tz,st⟩:=x;obtain⟨o0,o1,o2,o3,o4,o5,o6⟩:=hok;simp only at o0 o1 o2 o3 o4 o5 o6 hF ⊢;unfold workerF at hF;simp only at hF;obtain⟨b1,hb1⟩:∃ b,wordB nm=b:=⟨_,rfl⟩;obtain⟨c2,hc2⟩:∃ c,pairsF has.l=c:=⟨_,rfl⟩;obtain⟨c3,hc3⟩:∃ c,standsF st.l=c:=⟨_,rfl⟩;rw[hb1,hc2,hc3]at hF;have hba:=(Below.refl w.heap.size w).alloc (Nat.le_refl _) (.cells #[.string nm,.slice has.A has.n has.cap,.int .i64 sl,.int .i64 sp,.int .i64 fr,.int .i64 tz,.slice st.A st.n st.cap] 84);have hbas:=hba.size;obtain⟨o0H,o1H,o2H,o3H,o4H,o5H,o6H,hFH,hb1H,hc2H,hc3H,hbaH,hbasH⟩:=hqb o0 o1 o2 o3 (hqc o4 o5 o6 hF hb1 hc2 hc3 hba (Lib.hid hbas));clear o0 o1 o2 o3 o4 o5 o6 hF hb1 hc2 hc3 hba hbas;go_enter Tryz.func83,Tryz.ntmps83;go_wp2_with fail;refine(word_any nm b1 _ o0H.out hb1H.out).mono ?_;rintro e w1 ⟨rfl,hw1⟩;have q1:=(hw1.cell (by simp)).trans (cell_new w _ _ 1);have q2:=(hw1.cell (by simp)).trans (cell_new w _ _ 2);have q3:=(hw1.cell (by simp)).trans (cell_new w _ _ 3);have q4:=(hw1.cell (by simp)).trans (cell_new w _ _ 4);have q5:=(hw1.cell (by simp)).trans (cell_new w _ _ 5);have q6:=(hw1.cell (by simp)).trans (cell_new w _ _ 6);have hbw1:=hbaH.out.trans (hw1.mono hbasH.out);have hz1:w.heap.size<w1.heap.size:=by have:=hw1.size;simp at this;omega
 simp only[List.getElem?_toArray,List.getElem?_cons_succ,List.getElem?_cons_zero]at q1 q2 q3 q4 q5 q6;obtain⟨hw1H,hbw1H⟩:=hq2 hw1 (Lib.hid hbw1);clear hw1 hbw1
 cases b1
 ·clear q2 q3 q4 q5 q6;go_wp2;go_ret;exact⟨ret1_int hFH.out,hbw1H.out⟩
 ·have hF:=hFH.out;clear hFH;simp only[if_true]at hF;have hFH:=Lib.hid hF;clear hF;go_wp2_with fail;refine(pairs_any has.A has.n has.cap has.l _ (o1H.out.1.below hbw1H.out) c2 hc2H.out).mono ?_;rintro e w2 ⟨rfl,hw2⟩;replace q2:=(hw2.cell (by omega)).trans q2;replace q3:=(hw2.cell (by omega)).trans q3;replace q4:=(hw2.cell (by omega)).trans q4;replace q5:=(hw2.cell (by omega)).trans q5;replace q6:=(hw2.cell (by omega)).trans q6;have hbw2:=hbw1H.out.trans (hw2.mono hbw1H.out.size);have hz2:w.heap.size<w2.heap.size:=by have:=hw2.size;omega
  clear q1;obtain⟨hw2H,hbw2H⟩:=hq2 hw2 (Lib.hid hbw2);clear hw2 hbw2
  by_cases e2:c2=0
  ·subst e2;have hF:=hFH.out;clear hFH;simp only[if_true]at hF
   by_cases i2:inR 1 20 sl=true
   ·by_cases i3:inR 1 1000 sp=true
    ·by_cases i4:inR 0 1000000000 fr=true
     ·by_cases i5:inR 0 1000000000 tz=true
      ·rw[if_pos ⟨i2,i3,i4,i5⟩]at hF
       by_cases hle:tz≤fr
       ·rw[if_pos hle]at hF;have hFH:=Lib.hid hF;clear hF;go_wp2_with (first | (go_at_call 43;refine(within_p _ _ _ _).mono ?_;rintro e wz ⟨rfl,rfl⟩) | (go_at_call 39;refine(moment_p _ _).mono ?_;rintro e wz ⟨rfl,rfl⟩));go_ret;exact⟨ret1_int hFH.out,hbw2H.out⟩
       ·rw[if_neg hle]at hF;have hle2:decide (tz≤fr)=false:=decide_eq_false hle;have hFH:=Lib.hid hF;clear hF;go_wp2_with (first | (go_at_call 43;refine(within_p _ _ _ _).mono ?_;rintro e wz ⟨rfl,rfl⟩) | (go_at_call 39;refine(moment_p _ _).mono ?_;rintro e wz ⟨rfl,rfl⟩));refine(stands_any st.A st.n st.cap st.l _ (o6H.out.1.below hbw2H.out) c3 hc3H.out).mono ?_;rintro e w3 ⟨rfl,hw3⟩;have hbw3:=hbw2H.out.trans (hw3.mono hbw2H.out.size);obtain⟨hw3H,hbw3H⟩:=hq2 hw3 (Lib.hid hbw3);clear hw3 hbw3;clear q2 q3 q4 q5 q6;go_wp2;go_ret;exact⟨ret1_int hFH.out,hbw3H.out⟩
      ·rw[if_neg (fun h=>i5 h.2.2.2)]at hF;have i5:inR 0 1000000000 tz=false:=by simpa using i5
       have hFH:=Lib.hid hF;clear hF;go_wp2_with (first | (go_at_call 43;refine(within_p _ _ _ _).mono ?_;rintro e wz ⟨rfl,rfl⟩) | (go_at_call 39;refine(moment_p _ _).mono ?_;rintro e wz ⟨rfl,rfl⟩));go_ret;exact⟨ret1_int hFH.out,hbw2H.out⟩
     ·rw[if_neg (fun h=>i4 h.2.2.1)]at hF;have i4:inR 0 1000000000 fr=false:=by simpa using i4
      have hFH:=Lib.hid hF;clear hF;go_wp2_with (first | (go_at_call 43;refine(within_p _ _ _ _).mono ?_;rintro e wz ⟨rfl,rfl⟩) | (go_at_call 39;refine(moment_p _ _).mono ?_;rintro e wz ⟨rfl,rfl⟩));go_ret;exact⟨ret1_int hFH.out,hbw2H.out⟩
    ·rw[if_neg (fun h=>i3 h.2.1)]at hF;have i3:inR 1 1000 sp=false:=by simpa using i3
     have hFH:=Lib.hid hF;clear hF;go_wp2_with (first | (go_at_call 43;refine(within_p _ _ _ _).mono ?_;rintro e wz ⟨rfl,rfl⟩) | (go_at_call 39;refine(moment_p _ _).mono ?_;rintro e wz ⟨rfl,rfl⟩));go_ret;exact⟨ret1_int hFH.out,hbw2H.out⟩
   ·rw[if_neg (fun h=>i2 h.1)]at hF;have i2:inR 1 20 sl=false:=by simpa using i2
    have hFH:=Lib.hid hF;clear hF;go_wp2_with (first | (go_at_call 43;refine(within_p _ _ _ _).mono ?_;rintro e wz ⟨rfl,rfl⟩) | (go_at_call 39;refine(moment_p _ _).mono ?_;rintro e wz ⟨rfl,rfl⟩));go_ret;exact⟨ret1_int hFH.out,hbw2H.out⟩
  ·have hF:=hFH.out;clear hFH;rw[if_neg e2]at hF;have e3:(c2 != 0)=true:=by simpa using e2
   clear q2 q3 q4 q5 q6;have hFH:=Lib.hid hF;clear hF;go_wp2;go_ret;exact⟨ret1_int hFH.out,hbw2H.out⟩
theorem rworker_any (x:Worker) (w:World) (hok:RWorker.ok w x) (c:Int) (hF:workerF x=c) :
  Calls Tryz.prog 90 #[.agg #[.string x.name,.slice x.has.A x.has.n x.has.cap,.int .i64 x.slots,.int .i64 x.speed,.int .i64 x.from_,.int .i64 x.to_,.slice x.stands.A x.stands.n x.stands.cap]] w fun e w' =>
   e = .returned (.int .i64 c)∧Below w.heap.size w w':=by
 obtain⟨nm,has,sl,sp,fr,tz,st⟩:=x;obtain⟨o0,o1,o2,o3,o4,o5,o6⟩:=hok;simp only at o0 o1 o2 o3 o4 o5 o6 hF ⊢;unfold workerF at hF;simp only at hF;obtain⟨b1,hb1⟩:∃ b,wordB nm=b:=⟨_,rfl⟩;obtain⟨c2,hc2⟩:∃ c,pairsF has.l=c:=⟨_,rfl⟩;obtain⟨c3,hc3⟩:∃ c,standsF st.l=c:=⟨_,rfl⟩;rw[hb1,hc2,hc3]at hF;have hba:=(Below.refl w.heap.size w).alloc (Nat.le_refl _) (.cells #[.string nm,.slice has.A has.n has.cap,.int .i64 sl,.int .i64 sp,.int .i64 fr,.int .i64 tz,.slice st.A st.n st.cap] 84);have hbas:=hba.size;obtain⟨o0H,o1H,o2H,o3H,o4H,o5H,o6H,hFH,hb1H,hc2H,hc3H,hbaH,hbasH⟩:=hqb o0 o1 o2 o3 (hqc o4 o5 o6 hF hb1 hc2 hc3 hba (Lib.hid hbas));clear o0 o1 o2 o3 o4 o5 o6 hF hb1 hc2 hc3 hba hbas;go_enter Tryz.func90,Tryz.ntmps90;go_wp2_with fail;refine(rword_b nm b1 _ o0H.out hb1H.out).mono ?_;rintro e w1 ⟨rfl,hw1⟩;have q1:=(hw1.cell (by simp)).trans (cell_new w _ _ 1);have q2:=(hw1.cell (by simp)).trans (cell_new w _ _ 2);have q3:=(hw1.cell (by simp)).trans (cell_new w _ _ 3);have q4:=(hw1.cell (by simp)).trans (cell_new w _ _ 4);have q5:=(hw1.cell (by simp)).trans (cell_new w _ _ 5);have q6:=(hw1.cell (by simp)).trans (cell_new w _ _ 6);have hbw1:=hbaH.out.trans (hw1.mono hbasH.out);have hz1:w.heap.size<w1.heap.size:=by have:=hw1.size;simp at this;omega
 simp only[List.getElem?_toArray,List.getElem?_cons_succ,List.getElem?_cons_zero]at q1 q2 q3 q4 q5 q6;obtain⟨hw1H,hbw1H⟩:=hq2 hw1 (Lib.hid hbw1);clear hw1 hbw1
 cases b1
 ·clear q2 q3 q4 q5 q6;go_wp2;go_ret;exact⟨ret1_int hFH.out,hbw1H.out⟩
 ·have hF:=hFH.out;clear hFH;simp only[if_true]at hF;have hFH:=Lib.hid hF;clear hF;go_wp2_with fail;refine(rpairs_any has.A has.n has.cap has.l _ (o1H.out.1.below hbw1H.out) c2 hc2H.out).mono ?_;rintro e w2 ⟨rfl,hw2⟩;replace q2:=(hw2.cell (by omega)).trans q2;replace q3:=(hw2.cell (by omega)).trans q3;replace q4:=(hw2.cell (by omega)).trans q4;replace q5:=(hw2.cell (by omega)).trans q5;replace q6:=(hw2.cell (by omega)).trans q6;have hbw2:=hbw1H.out.trans (hw2.mono hbw1H.out.size);have hz2:w.heap.size<w2.heap.size:=by have:=hw2.size;omega
  clear q1;obtain⟨hw2H,hbw2H⟩:=hq2 hw2 (Lib.hid hbw2);clear hw2 hbw2
  by_cases e2:c2=0
  ·subst e2;have hF:=hFH.out;clear hFH;simp only[if_true]at hF
   by_cases i2:inR 1 20 sl=true
   ·by_cases i3:inR 1 1000 sp=true
    ·by_cases i4:inR 0 1000000000 fr=true
     ·by_cases i5:inR 0 1000000000 tz=true
      ·rw[if_pos ⟨i2,i3,i4,i5⟩]at hF
       by_cases hle:tz≤fr
       ·rw[if_pos hle]at hF;have hFH:=Lib.hid hF;clear hF;go_wp2_with (go_at_call 47;refine(within_r _ _ _ _).mono ?_;rintro e wz ⟨rfl,rfl⟩);go_ret;exact⟨ret1_int hFH.out,hbw2H.out⟩
       ·rw[if_neg hle]at hF;have hle2:decide (tz≤fr)=false:=decide_eq_false hle;have hFH:=Lib.hid hF;clear hF;go_wp2_with (go_at_call 47;refine(within_r _ _ _ _).mono ?_;rintro e wz ⟨rfl,rfl⟩);refine(rstands_any st.A st.n st.cap st.l _ (o6H.out.1.below hbw2H.out) c3 hc3H.out).mono ?_;rintro e w3 ⟨rfl,hw3⟩;have hbw3:=hbw2H.out.trans (hw3.mono hbw2H.out.size);obtain⟨hw3H,hbw3H⟩:=hq2 hw3 (Lib.hid hbw3);clear hw3 hbw3;clear q2 q3 q4 q5 q6;go_wp2;go_ret;exact⟨ret1_int hFH.out,hbw3H.out⟩
      ·rw[if_neg (fun h=>i5 h.2.2.2)]at hF;have i5:inR 0 1000000000 tz=false:=by simpa using i5
       have hFH:=Lib.hid hF;clear hF;go_wp2_with (go_at_call 47;refine(within_r _ _ _ _).mono ?_;rintro e wz ⟨rfl,rfl⟩);go_ret;exact⟨ret1_int hFH.out,hbw2H.out⟩
     ·rw[if_neg (fun h=>i4 h.2.2.1)]at hF;have i4:inR 0 1000000000 fr=false:=by simpa using i4
      have hFH:=Lib.hid hF;clear hF;go_wp2_with (go_at_call 47;refine(within_r _ _ _ _).mono ?_;rintro e wz ⟨rfl,rfl⟩);go_ret;exact⟨ret1_int hFH.out,hbw2H.out⟩
    ·rw[if_neg (fun h=>i3 h.2.1)]at hF;have i3:inR 1 1000 sp=false:=by simpa using i3
     have hFH:=Lib.hid hF;clear hF;go_wp2_with (go_at_call 47;refine(within_r _ _ _ _).mono ?_;rintro e wz ⟨rfl,rfl⟩);go_ret;exact⟨ret1_int hFH.out,hbw2H.out⟩
   ·rw[if_neg (fun h=>i2 h.1)]at hF;have i2:inR 1 20 sl=false:=by simpa using i2
    have hFH:=Lib.hid hF;clear hF;go_wp2_with (go_at_call 47;refine(within_r _ _ _ _).mono ?_;rintro e wz ⟨rfl,rfl⟩);go_ret;exact⟨ret1_int hFH.out,hbw2H.out⟩
  ·have hF:=hFH.out;clear hFH;rw[if_neg e2]at hF;have e3:(c2 != 0)=true:=by simpa using e2
   clear q2 q3 q4 q5 q6;have hFH:=Lib.hid hF;clear hF;go_wp2;go_ret;exact⟨ret1_int hFH.out,hbw2H.out⟩
def AftRel (l:List ByteArray) (c:Int) (w0:World) (i:Value) (wr:World):Prop :=
 ∃ k:Nat,k≤l.length∧i = .int .i64 k∧afterErr (prevS l k) (l.drop k)=c∧Below w0.heap.size w0 wr
theorem cell_StrW {w:World} {b off m k:Nat} {l:List ByteArray} {x:ByteArray} (h:SlAt RStr w (some ⟨b,off,none⟩) m l) (hx:l[k]? = some x):w.cell? ⟨b,off+k,none⟩=some (.string x):=by
 obtain⟨b',off',hA,hc⟩:=h.2.1 (by have:=h.1;have:=(List.getElem?_eq_some_iff.1 hx).1;omega);obtain⟨rfl,rfl⟩:b=b'∧off=off':=by simpa using hA
 have:=hc k x hx 0 _ rfl
 simpa[RStr]using this
theorem work_any (x:Work) (w:World) (hok:RWork.ok w x) (c:Int) (hF:workF x=c) :
  Calls Tryz.prog 84 #[.agg #[.string x.id_,.slice x.needs.A x.needs.n x.needs.cap,.int .i64 x.size,.slice x.after.A x.after.n x.after.cap]] w fun e w' =>
   e = .returned (.int .i64 c)∧Below w.heap.size w w':=by
 obtain⟨id,nd,sz,af⟩:=x;obtain⟨o0,o1,o2,o3⟩:=hok;simp only at o0 o1 o2 o3 hF ⊢;unfold workF at hF;simp only at hF;obtain⟨b1,hb1⟩:∃ b,wordB id=b:=⟨_,rfl⟩;obtain⟨c2,hc2⟩:∃ c,pairsF nd.l=c:=⟨_,rfl⟩;rw[hb1,hc2]at hF;have hba:=(Below.refl w.heap.size w).alloc (Nat.le_refl _) (.cells #[.string id,.slice nd.A nd.n nd.cap,.int .i64 sz,.slice af.A af.n af.cap] 86);have hbas:=hba.size;have hal:=o3.1.1;have han9:af.n≤9223372036854775807:=Nat.le_trans o3.2.1 o3.2.2.1;obtain⟨o0H,o1H,o2H,o3H,hFH,hb1H,hc2H,hbaH,hbasH,halH⟩:=hq2 o0 (hqc o1 o2 o3 hF hb1 hc2 hba hbas (Lib.hid hal));clear o0 o1 o2 o3 hF hb1 hc2 hba hbas hal;go_enter Tryz.func84,Tryz.ntmps84;go_wp2_with fail;refine(word_any id b1 _ o0H.out hb1H.out).mono ?_;rintro e w1 ⟨rfl,hw1⟩;have q1:=(hw1.cell (by simp)).trans (cell_new w _ _ 1);have q2:=(hw1.cell (by simp)).trans (cell_new w _ _ 2);have q3:=(hw1.cell (by simp)).trans (cell_new w _ _ 3);have hbw1:=hbaH.out.trans (hw1.mono hbasH.out);have hz1:w.heap.size<w1.heap.size:=by have:=hw1.size;simp at this;omega
 simp only[List.getElem?_toArray,List.getElem?_cons_succ,List.getElem?_cons_zero]at q1 q2 q3;obtain⟨hw1H,hbw1H⟩:=hq2 hw1 (Lib.hid hbw1);clear hw1 hbw1
 cases b1
 ·clear q2 q3 q1;go_wp2;go_ret;exact⟨ret1_int hFH.out,hbw1H.out⟩
 ·have hF:=hFH.out;clear hFH;simp only[if_true]at hF;have hFH:=Lib.hid hF;clear hF;go_wp2_with fail;refine(pairs_any nd.A nd.n nd.cap nd.l _ (o1H.out.1.below hbw1H.out) c2 hc2H.out).mono ?_;rintro e w2 ⟨rfl,hw2⟩;replace q2:=(hw2.cell (by omega)).trans q2;replace q3:=(hw2.cell (by omega)).trans q3;have hbw2:=hbw1H.out.trans (hw2.mono hbw1H.out.size);have hz2:w.heap.size<w2.heap.size:=by have:=hw2.size;omega
  clear q1;obtain⟨hw2H,hbw2H⟩:=hq2 hw2 (Lib.hid hbw2);clear hw2 hbw2
  by_cases e2:c2=0
  ·subst e2;have hF:=hFH.out;clear hFH;simp only[if_true]at hF
   by_cases i2:inR 1 1000000 sz=true
   ·rw[if_pos i2]at hF;have hFH:=Lib.hid hF;clear hF;go_wp2_with (go_at_call 43;refine(within_p _ _ _ _).mono ?_;rintro e wz ⟨rfl,rfl⟩);obtain⟨w2,rfl⟩:∃ W,W=wz:=⟨_,rfl⟩
    go_loopw [23] (fun i wr=>AftRel af.l c w2 i wr) (fun i _=>af.n-(intOf i).toNat)
    case atStart=>exact⟨0,Nat.zero_le _,rfl,hFH.out,Below.refl _ _⟩
    case round =>
     obtain⟨k,hk,rfl,hck,hb⟩:=hrel;have hkl:k≤af.n:=by have:=halH.out;omega
     have hbs:=hb.size;have q3r:=(hb.cell hz2).trans q3;have hbw:=hbw2H.out.trans (hb.mono hbw2H.out.size);clear q2 i2
     by_cases hlt:k<af.n
     ·obtain⟨b,off,hA,_⟩:=o3H.out.1.2.1 (by omega);obtain⟨s,hx⟩:∃ x,af.l[k]? = some x:=⟨af.l[k]'(by have:=halH.out;omega),List.getElem?_eq_getElem _⟩;have hsl:=o3H.out.1;rw[hA]at hsl;have c0:=cell_StrW (hsl.below hbw) hx;have hos:s.size≤maxLen:=hsl.2.2 s (List.mem_of_getElem? hx);rw[drop_cons hx,afterErr]at hck;have hkl2:k+1≤af.l.length:=by have:=halH.out;omega
      have hpn:prevS af.l (k+1)=some s:=by rw[prevS,if_neg (by omega),show k+1-1=k from rfl,hx]
      obtain⟨bs,hbs'⟩:∃ b,wordB s=b:=⟨_,rfl⟩;rw[hbs']at hck;rw[hA]at q3r ⊢;obtain⟨hxH,hckH,hbH,hbwH,hosH,hbs'H,hpnH,hkl2H,hslH,hAH⟩:=hq2 hx (hqc hck hb hbw hos hbs' hpn hkl2 hsl (Lib.hid hA));clear hx hck hb hbw hos hbs' hpn hkl2 hsl hA;go_wp2_with fail;refine(word_any s bs _ hosH.out hbs'H.out).mono ?_;rintro e w3 ⟨rfl,hw3⟩;have hb3:=hbH.out.trans (hw3.mono hbs);have hbw3:=hbwH.out.trans (hw3.mono hbwH.out.size);replace q3r:=(hw3.cell (show w.heap.size<wr.heap.size by omega)).trans q3r;clear hw3 c0;have hck:=hckH.out;clear hckH
      cases bs
      ·rw[if_neg (by decide)]at hck;obtain⟨hckH,hb3H,hbw3H⟩:=hq2 hck (hq2 hb3 (Lib.hid hbw3));clear hck hb3 hbw3;go_wp2;go_ret;exact⟨ret1_int hckH.out,hbw3H.out⟩
      ·rw[if_pos rfl]at hck
       by_cases hk0:k=0
       ·subst hk0;have R:∀ nq,AftRel af.l c w2 (.int .i64 1) (w3.drewN nq):=by
         refine fun nq=>⟨1,hkl2H.out,by go_num,?_,bel_drewN hb3 nq⟩;rw[prevS,if_pos rfl,Option.map_none,if_neg (by decide)]at hck;rw[hpnH.out];exact hck
        clear hck;obtain⟨RH,hb3H,hbw3H⟩:=hq2 R (hq2 hb3 (Lib.hid hbw3));clear R hb3 hbw3;go_wp2;refine⟨?rel,?measure⟩
        case measure=>(simp[intOf];omega)
        case rel=>first | exact(RH.out 0) | exact⟨rfl,(RH.out 0)⟩
       ·obtain⟨j,rfl⟩:∃ j,k=j+1:=⟨k-1,by omega⟩;obtain⟨y,hy⟩:∃ y,af.l[j]? = some y:=⟨af.l[j]'(by have:=halH.out;omega),List.getElem?_eq_getElem _⟩;have d0:=cell_StrW (hslH.out.below hbw3) hy;have hpr:prevS af.l (j+1)=some y:=by rw[prevS,if_neg (by omega),show j+1-1=j from rfl,hy]
        rw[hpr,Option.map_some]at hck;clear hpr
        cases hle:sle s y
        ·have hle':(Op.bytesLess s.toList y.toList||s.toList==y.toList)=false:=hle;rw[hle,if_neg (by decide)]at hck;have R:∀ nq,AftRel af.l c w2 (.int .i64 (j+1+1)) (w3.drewN nq):=by
          refine fun nq=>⟨j+1+1,hkl2H.out,by go_num,?_,bel_drewN hb3 nq⟩;rw[hpnH.out];exact hck
         clear hck;obtain⟨hleH,hyH,RH,hb3H,hbw3H⟩:=hqb hle hy R hb3 (Lib.hid hbw3);clear hle hy R hb3 hbw3;go_wp2;refine⟨?rel,?measure⟩
         case measure=>(simp[intOf];omega)
         case rel=>first | exact(RH.out 0) | exact⟨rfl,(RH.out 0)⟩
        ·have hle':(Op.bytesLess s.toList y.toList||s.toList==y.toList)=true:=hle;rw[hle,if_pos rfl]at hck;obtain⟨hleH,hckH,hyH,hb3H,hbw3H⟩:=hqb hle hck hy hb3 (Lib.hid hbw3);clear hle hck hy hb3 hbw3;go_wp2;go_ret;exact⟨ret1_int hckH.out,hbw3H.out⟩
     ·have e:af.l.drop k = []:=List.drop_eq_nil_of_le (by have:=halH.out;omega);rw[e]at hck;have hc0:0=c:=by rw[← hck];unfold afterErr;rfl
      obtain⟨hckH,hbH,hbwH,eH,hc0H⟩:=hqb hck hb hbw e (Lib.hid hc0);clear hck hb hbw e hc0;go_wp2;go_ret;exact⟨ret1_int hc0H.out,hbwH.out⟩
   ·rw[if_neg i2]at hF;have i2:inR 1 1000000 sz=false:=by simpa using i2
    have hFH:=Lib.hid hF;clear hF;go_wp2_with (go_at_call 43;refine(within_p _ _ _ _).mono ?_;rintro e wz ⟨rfl,rfl⟩);go_ret;exact⟨ret1_int hFH.out,hbw2H.out⟩
  ·have hF:=hFH.out;clear hFH;rw[if_neg e2]at hF;have e3:(c2 != 0)=true:=by simpa using e2
   clear q2 q3;have hFH:=Lib.hid hF;clear hF;go_wp2;go_ret;exact⟨ret1_int hFH.out,hbw2H.out⟩
theorem rwork_any (x:Work) (w:World) (hok:RWork.ok w x) (c:Int) (hF:workF x=c) :
  Calls Tryz.prog 91 #[.agg #[.string x.id_,.slice x.needs.A x.needs.n x.needs.cap,.int .i64 x.size,.slice x.after.A x.after.n x.after.cap]] w fun e w' =>
   e = .returned (.int .i64 c)∧Below w.heap.size w w':=by
 obtain⟨id,nd,sz,af⟩:=x;obtain⟨o0,o1,o2,o3⟩:=hok;simp only at o0 o1 o2 o3 hF ⊢;unfold workF at hF;simp only at hF;obtain⟨b1,hb1⟩:∃ b,wordB id=b:=⟨_,rfl⟩;obtain⟨c2,hc2⟩:∃ c,pairsF nd.l=c:=⟨_,rfl⟩;rw[hb1,hc2]at hF;have hba:=(Below.refl w.heap.size w).alloc (Nat.le_refl _) (.cells #[.string id,.slice nd.A nd.n nd.cap,.int .i64 sz,.slice af.A af.n af.cap] 86);have hbas:=hba.size;have hal:=o3.1.1;have han9:af.n≤9223372036854775807:=Nat.le_trans o3.2.1 o3.2.2.1;obtain⟨o0H,o1H,o2H,o3H,hFH,hb1H,hc2H,hbaH,hbasH,halH⟩:=hq2 o0 (hqc o1 o2 o3 hF hb1 hc2 hba hbas (Lib.hid hal));clear o0 o1 o2 o3 hF hb1 hc2 hba hbas hal;go_enter Tryz.func91,Tryz.ntmps91;go_wp2_with fail;refine(rword_b id b1 _ o0H.out hb1H.out).mono ?_;rintro e w1 ⟨rfl,hw1⟩;have q1:=(hw1.cell (by simp)).trans (cell_new w _ _ 1);have q2:=(hw1.cell (by simp)).trans (cell_new w _ _ 2);have q3:=(hw1.cell (by simp)).trans (cell_new w _ _ 3);have hbw1:=hbaH.out.trans (hw1.mono hbasH.out);have hz1:w.heap.size<w1.heap.size:=by have:=hw1.size;simp at this;omega
 simp only[List.getElem?_toArray,List.getElem?_cons_succ,List.getElem?_cons_zero]at q1 q2 q3;obtain⟨hw1H,hbw1H⟩:=hq2 hw1 (Lib.hid hbw1);clear hw1 hbw1
 cases b1
 ·clear q2 q3 q1;go_wp2;go_ret;exact⟨ret1_int hFH.out,hbw1H.out⟩
 ·have hF:=hFH.out;clear hFH;simp only[if_true]at hF;have hFH:=Lib.hid hF;clear hF;go_wp2_with fail;refine(rpairs_any nd.A nd.n nd.cap nd.l _ (o1H.out.1.below hbw1H.out) c2 hc2H.out).mono ?_;rintro e w2 ⟨rfl,hw2⟩;replace q2:=(hw2.cell (by omega)).trans q2;replace q3:=(hw2.cell (by omega)).trans q3;have hbw2:=hbw1H.out.trans (hw2.mono hbw1H.out.size);have hz2:w.heap.size<w2.heap.size:=by have:=hw2.size;omega
  clear q1;obtain⟨hw2H,hbw2H⟩:=hq2 hw2 (Lib.hid hbw2);clear hw2 hbw2
  by_cases e2:c2=0
  ·subst e2;have hF:=hFH.out;clear hFH;simp only[if_true]at hF
   by_cases i2:inR 1 1000000 sz=true
   ·rw[if_pos i2]at hF;have hFH:=Lib.hid hF;clear hF;go_wp2_with (go_at_call 47;refine(within_r _ _ _ _).mono ?_;rintro e wz ⟨rfl,rfl⟩);obtain⟨w2,rfl⟩:∃ W,W=wz:=⟨_,rfl⟩
    go_loopw [23] (fun i wr=>AftRel af.l c w2 i wr) (fun i _=>af.n-(intOf i).toNat)
    case atStart=>exact⟨0,Nat.zero_le _,rfl,hFH.out,Below.refl _ _⟩
    case round =>
     obtain⟨k,hk,rfl,hck,hb⟩:=hrel;have hkl:k≤af.n:=by have:=halH.out;omega
     have hbs:=hb.size;have q3r:=(hb.cell hz2).trans q3;have hbw:=hbw2H.out.trans (hb.mono hbw2H.out.size);clear q2 i2
     by_cases hlt:k<af.n
     ·obtain⟨b,off,hA,_⟩:=o3H.out.1.2.1 (by omega);obtain⟨s,hx⟩:∃ x,af.l[k]? = some x:=⟨af.l[k]'(by have:=halH.out;omega),List.getElem?_eq_getElem _⟩;have hsl:=o3H.out.1;rw[hA]at hsl;have c0:=cell_StrW (hsl.below hbw) hx;have hos:s.size≤maxLen:=hsl.2.2 s (List.mem_of_getElem? hx);rw[drop_cons hx,afterErr]at hck;have hkl2:k+1≤af.l.length:=by have:=halH.out;omega
      have hpn:prevS af.l (k+1)=some s:=by rw[prevS,if_neg (by omega),show k+1-1=k from rfl,hx]
      obtain⟨bs,hbs'⟩:∃ b,wordB s=b:=⟨_,rfl⟩;rw[hbs']at hck;rw[hA]at q3r ⊢;obtain⟨hxH,hckH,hbH,hbwH,hosH,hbs'H,hpnH,hkl2H,hslH,hAH⟩:=hq2 hx (hqc hck hb hbw hos hbs' hpn hkl2 hsl (Lib.hid hA));clear hx hck hb hbw hos hbs' hpn hkl2 hsl hA;go_wp2_with fail;refine(rword_b s bs _ hosH.out hbs'H.out).mono ?_;rintro e w3 ⟨rfl,hw3⟩;have hb3:=hbH.out.trans (hw3.mono hbs);have hbw3:=hbwH.out.trans (hw3.mono hbwH.out.size);replace q3r:=(hw3.cell (show w.heap.size<wr.heap.size by omega)).trans q3r;clear hw3 c0;have hck:=hckH.out;clear hckH
      cases bs
      ·rw[if_neg (by decide)]at hck;obtain⟨hckH,hb3H,hbw3H⟩:=hq2 hck (hq2 hb3 (Lib.hid hbw3));clear hck hb3 hbw3;go_wp2;go_ret;exact⟨ret1_int hckH.out,hbw3H.out⟩
      ·rw[if_pos rfl]at hck
       by_cases hk0:k=0
       ·subst hk0;have R:∀ nq,AftRel af.l c w2 (.int .i64 1) (w3.drewN nq):=by
         refine fun nq=>⟨1,hkl2H.out,by go_num,?_,bel_drewN hb3 nq⟩;rw[prevS,if_pos rfl,Option.map_none,if_neg (by decide)]at hck;rw[hpnH.out];exact hck
        clear hck;obtain⟨RH,hb3H,hbw3H⟩:=hq2 R (hq2 hb3 (Lib.hid hbw3));clear R hb3 hbw3;go_wp2;refine⟨?rel,?measure⟩
        case measure=>(simp[intOf];omega)
        case rel=>first | exact(RH.out 0) | exact⟨rfl,(RH.out 0)⟩
       ·obtain⟨j,rfl⟩:∃ j,k=j+1:=⟨k-1,by omega⟩;obtain⟨y,hy⟩:∃ y,af.l[j]? = some y:=⟨af.l[j]'(by have:=halH.out;omega),List.getElem?_eq_getElem _⟩;have d0:=cell_StrW (hslH.out.below hbw3) hy;have hpr:prevS af.l (j+1)=some y:=by rw[prevS,if_neg (by omega),show j+1-1=j from rfl,hy]
        rw[hpr,Option.map_some]at hck;clear hpr
        cases hle:sle s y
        ·have hle':(Op.bytesLess s.toList y.toList||s.toList==y.toList)=false:=hle;rw[hle,if_neg (by decide)]at hck;have R:∀ nq,AftRel af.l c w2 (.int .i64 (j+1+1)) (w3.drewN nq):=by
          refine fun nq=>⟨j+1+1,hkl2H.out,by go_num,?_,bel_drewN hb3 nq⟩;rw[hpnH.out];exact hck
         clear hck;obtain⟨hleH,hyH,RH,hb3H,hbw3H⟩:=hqb hle hy R hb3 (Lib.hid hbw3);clear hle hy R hb3 hbw3;go_wp2;refine⟨?rel,?measure⟩
         case measure=>(simp[intOf];omega)
         case rel=>first | exact(RH.out 0) | exact⟨rfl,(RH.out 0)⟩
        ·have hle':(Op.bytesLess s.toList y.toList||s.toList==y.toList)=true:=hle;rw[hle,if_pos rfl]at hck;obtain⟨hleH,hckH,hyH,hb3H,hbw3H⟩:=hqb hle hck hy hb3 (Lib.hid hbw3);clear hle hck hy hb3 hbw3;go_wp2;go_ret;exact⟨ret1_int hckH.out,hbw3H.out⟩
     ·have e:af.l.drop k = []:=List.drop_eq_nil_of_le (by have:=halH.out;omega);rw[e]at hck;have hc0:0=c:=by rw[← hck];unfold afterErr;rfl
      obtain⟨hckH,hbH,hbwH,eH,hc0H⟩:=hqb hck hb hbw e (Lib.hid hc0);clear hck hb hbw e hc0;go_wp2;go_ret;exact⟨ret1_int hc0H.out,hbwH.out⟩
   ·rw[if_neg i2]at hF;have i2:inR 1 1000000 sz=false:=by simpa using i2
    have hFH:=Lib.hid hF;clear hF;go_wp2_with (go_at_call 47;refine(within_r _ _ _ _).mono ?_;rintro e wz ⟨rfl,rfl⟩);go_ret;exact⟨ret1_int hFH.out,hbw2H.out⟩
  ·have hF:=hFH.out;clear hFH;rw[if_neg e2]at hF;have e3:(c2 != 0)=true:=by simpa using e2
   clear q2 q3;have hFH:=Lib.hid hF;clear hF;go_wp2;go_ret;exact⟨ret1_int hFH.out,hbw2H.out⟩
end Go.Proofs.YtbnkoefljcekbaaGreatDoor.C9