/-
 Several texts of mine as one, without what is not wanted here: XCWorkers, XBsfK, XCFarmD, XOr, XRuns, XRunsD.
-/
import Derived.Test.YtbnkoefljcekbaaGreatDoorPyMC9
set_option linter.unusedVariables false
set_option linter.unusedSimpArgs false
set_option maxRecDepth 100000
set_option maxHeartbeats 8000000
namespace Go.Proofs.YtbnkoefljcekbaaGreatDoor.C9
open Go.RowKit
def workersErr:Option ByteArray→List Worker→Int
 | _,[]=>0
 | p,x::r=>if workerF x=0 then (if p.map (sle x.name ·)=some true then 8 else workersErr (some x.name) r) else workerF x
def prevWk (l:List Worker) (k:Nat):Option ByteArray:=if k=0 then none else (l[k-1]?).map (·.name)
def workersF (l:List Worker):Int:=if l.length≤50 then workersErr none l else 2
def WksRel (l:List Worker) (c:Int) (w0:World) (i:Value) (wr:World):Prop :=
 ∃ k:Nat,k≤l.length∧i = .int .i64 k∧workersErr (prevWk l k) (l.drop k)=c∧Below w0.heap.size w0 wr
theorem workers_ok (A:Option Addr) (len cap:Nat) (l:List Worker) (w:World) (hlen:len≤50) (hl:SlAt RWorker w A len l) (c:Int) (hF:workersErr none l=c) :
  Calls Tryz.prog 36 #[.slice A len cap] w fun e w'=>e = .returned (.int .i64 c)∧Below w.heap.size w w':=by
 have hll:=hl.1;obtain⟨hllH,hFH,hlH⟩:=hq2 hll (hq2 hF (Lib.hid hl));clear hll hF hl;go_enter Tryz.func36,Tryz.ntmps36;go_wp2
 go_loopw [11] (fun i wr=>WksRel l c w i wr) (fun i _=>len-(intOf i).toNat)
 case atStart=>exact⟨0,Nat.zero_le _,rfl,hFH.out,Below.refl _ _⟩
 case round =>
  obtain⟨k,hk,rfl,hck,hb⟩:=hrel;have hkl:k≤len:=by have:=hllH.out;omega
  have hbs:=hb.size
  by_cases hlt:k<len
  ·obtain⟨b,off,hA,_⟩:=hlH.out.2.1 (by omega);subst hA;obtain⟨x,hx⟩:∃ x,l[k]? = some x:=⟨l[k]'(by have:=hllH.out;omega),List.getElem?_eq_getElem _⟩;obtain⟨c0,c1,c2,c3,c4,c5,c6⟩:=cells_Worker (hlH.out.below hb) hx;have hok:=hlH.out.2.2 x (List.mem_of_getElem? hx);rw[drop_cons hx,workersErr]at hck;have hkl2:k+1≤l.length:=by have:=hllH.out;omega
   have hpn:prevWk l (k+1)=some x.name:=by rw[prevWk,if_neg (by omega),show k+1-1=k from rfl,hx];rfl
   obtain⟨f,hf⟩:∃ f,workerF x=f:=⟨_,rfl⟩;rw[hf]at hck;obtain⟨nm,has,sl,sp,fr,tz,st⟩:=x;simp only at c0 c1 c2 c3 c4 c5 c6 hck hpn;have hba:=hb.alloc hbs (.cells #[.string nm,.slice has.A has.n has.cap,.int .i64 sl,.int .i64 sp,.int .i64 fr,.int .i64 tz,.slice st.A st.n st.cap] 84);have hbas:=hba.size;obtain⟨hxH,hckH,hbH,hbaH,hbasH,hokH,hfH,hpnH,hkl2H⟩:=hqc hx hck hb hba hbas hok hf hpn (Lib.hid hkl2);clear hx hck hb hba hbas hok hf hpn hkl2;go_wp2_with fail;refine(worker_any ⟨nm,has,sl,sp,fr,tz,st⟩ _ (RWorker.mono _ _ _ hbaH.out hokH.out) f hfH.out).mono ?_;rintro e w1 ⟨rfl,hw1⟩;have q0:w1.cell? ⟨wr.heap.size,0,none⟩=some (.string nm):=(hw1.cell (by simp)).trans (cell_new _ _ _ 0);have hbw1:=hbaH.out.trans (hw1.mono hbasH.out);clear c0 c1 c2 c3 c4 c5 c6;obtain⟨hw1H,hbw1H⟩:=hq2 hw1 (Lib.hid hbw1);clear hw1 hbw1;have hck:=hckH.out;clear hckH
   by_cases hf0:f=0
   ·subst hf0;rw[if_pos rfl]at hck
    by_cases hk0:k=0
    ·subst hk0;have R:∀ nq,WksRel l c w (.int .i64 1) (w1.drewN nq):=by
      refine fun nq=>⟨1,hkl2H.out,by go_num,?_,bel_drewN hbw1H.out nq⟩;rw[prevWk,if_pos rfl,Option.map_none,if_neg (by decide)]at hck;rw[hpnH.out];exact hck
     clear hck;have RH:=Lib.hid R;clear R;go_wp2_with fail
     go_quiet (fail)
     go_wp2;refine⟨?rel,?measure⟩
     case measure=>(simp[intOf];omega)
     case rel=>first | exact(RH.out _) | exact⟨rfl,(RH.out _)⟩
    ·obtain⟨j,rfl⟩:∃ j,k=j+1:=⟨k-1,by omega⟩;obtain⟨y,hy⟩:∃ y,l[j]? = some y:=⟨l[j]'(by have:=hllH.out;omega),List.getElem?_eq_getElem _⟩;obtain⟨d0,_⟩:=cells_Worker (hlH.out.below hbw1H.out) hy;have hpr:prevWk l (j+1)=some y.name:=by rw[prevWk,if_neg (by omega),show j+1-1=j from rfl,hy];rfl
     rw[hpr,Option.map_some]at hck;clear hpr;obtain⟨yn,yr⟩:∃ yn,y.name=yn:=⟨_,rfl⟩;rw[yr]at d0 hck
     cases hle:sle nm yn
     ·have hle':(Op.bytesLess nm.toList yn.toList||nm.toList==yn.toList)=false:=hle;rw[hle,if_neg (by decide)]at hck;have R:∀ nq,WksRel l c w (.int .i64 (j+1+1)) (w1.drewN nq):=by
       refine fun nq=>⟨j+1+1,hkl2H.out,by go_num,?_,bel_drewN hbw1H.out nq⟩;rw[hpnH.out];exact hck
      clear hck;obtain⟨hleH,hyH,yrH,RH⟩:=hq2 hle (hq2 hy (hq2 yr (Lib.hid R)));clear hle hy yr R;go_wp2_with fail
      go_quiet (fail)
      go_wp2;refine⟨?rel,?measure⟩
      case measure=>(simp[intOf];omega)
      case rel=>first | exact(RH.out _) | exact⟨rfl,(RH.out _)⟩
     ·have hle':(Op.bytesLess nm.toList yn.toList||nm.toList==yn.toList)=true:=hle;rw[hle,if_pos rfl]at hck;obtain⟨hleH,hckH,hyH,yrH⟩:=hq2 hle (hq2 hck (hq2 hy (Lib.hid yr)));clear hle hck hy yr;go_wp2_with fail
      go_quiet (fail)
      go_wp2;go_ret;exact⟨ret1_int hckH.out,bel_drewN hbw1H.out _⟩
   ·rw[if_neg hf0]at hck;have hf1:(f != 0)=true:=by simpa using hf0
    clear q0;obtain⟨hckH,hf0H⟩:=hq2 hck (Lib.hid hf0);clear hck hf0;go_wp2;go_ret;exact⟨ret1_int hckH.out,hbw1H.out⟩
  ·have e:l.drop k = []:=List.drop_eq_nil_of_le (by have:=hllH.out;omega);rw[e]at hck;have hc0:0=c:=by rw[← hck];unfold workersErr;rfl
   obtain⟨hckH,hbH,eH,hc0H⟩:=hq2 hck (hq2 hb (hq2 e (Lib.hid hc0)));clear hck hb e hc0;go_wp2;go_ret;exact⟨ret1_int hc0H.out,hbH.out⟩
theorem workers_any (A:Option Addr) (len cap:Nat) (l:List Worker) (w:World) (hl:SlAt RWorker w A len l) (c:Int) (hF:workersF l=c) :
  Calls Tryz.prog 36 #[.slice A len cap] w fun e w'=>e = .returned (.int .i64 c)∧Below w.heap.size w w':=by
 unfold workersF at hF;rw[hl.1]at hF
 by_cases h:len≤50
 ·rw[if_pos h]at hF;exact workers_ok A len cap l w h hl c hF
 ·rw[if_neg h]at hF;subst hF;clear hl;go_enter Tryz.func36,Tryz.ntmps36;go_wp2;go_ret;exact⟨rfl,Below.refl _ _⟩
theorem rworkers_ok (A:Option Addr) (len cap:Nat) (l:List Worker) (w:World) (hlen:len≤50) (hl:SlAt RWorker w A len l) (c:Int) (hF:workersErr none l=c) :
  Calls Tryz.prog 44 #[.slice A len cap] w fun e w'=>e = .returned (.int .i64 c)∧Below w.heap.size w w':=by
 have hll:=hl.1;obtain⟨hllH,hFH,hlH⟩:=hq2 hll (hq2 hF (Lib.hid hl));clear hll hF hl;go_enter Tryz.func44,Tryz.ntmps44;go_wp2
 go_loopw [11] (fun i wr=>WksRel l c w i wr) (fun i _=>len-(intOf i).toNat)
 case atStart=>exact⟨0,Nat.zero_le _,rfl,hFH.out,Below.refl _ _⟩
 case round =>
  obtain⟨k,hk,rfl,hck,hb⟩:=hrel;have hkl:k≤len:=by have:=hllH.out;omega
  have hbs:=hb.size
  by_cases hlt:k<len
  ·obtain⟨b,off,hA,_⟩:=hlH.out.2.1 (by omega);subst hA;obtain⟨x,hx⟩:∃ x,l[k]? = some x:=⟨l[k]'(by have:=hllH.out;omega),List.getElem?_eq_getElem _⟩;obtain⟨c0,c1,c2,c3,c4,c5,c6⟩:=cells_Worker (hlH.out.below hb) hx;have hok:=hlH.out.2.2 x (List.mem_of_getElem? hx);rw[drop_cons hx,workersErr]at hck;have hkl2:k+1≤l.length:=by have:=hllH.out;omega
   have hpn:prevWk l (k+1)=some x.name:=by rw[prevWk,if_neg (by omega),show k+1-1=k from rfl,hx];rfl
   obtain⟨f,hf⟩:∃ f,workerF x=f:=⟨_,rfl⟩;rw[hf]at hck;obtain⟨nm,has,sl,sp,fr,tz,st⟩:=x;simp only at c0 c1 c2 c3 c4 c5 c6 hck hpn;have hba:=hb.alloc hbs (.cells #[.string nm,.slice has.A has.n has.cap,.int .i64 sl,.int .i64 sp,.int .i64 fr,.int .i64 tz,.slice st.A st.n st.cap] 84);have hbas:=hba.size;obtain⟨hxH,hckH,hbH,hbaH,hbasH,hokH,hfH,hpnH,hkl2H⟩:=hqc hx hck hb hba hbas hok hf hpn (Lib.hid hkl2);clear hx hck hb hba hbas hok hf hpn hkl2;go_wp2_with fail;refine(rworker_any ⟨nm,has,sl,sp,fr,tz,st⟩ _ (RWorker.mono _ _ _ hbaH.out hokH.out) f hfH.out).mono ?_;rintro e w1 ⟨rfl,hw1⟩;have q0:w1.cell? ⟨wr.heap.size,0,none⟩=some (.string nm):=(hw1.cell (by simp)).trans (cell_new _ _ _ 0);have hbw1:=hbaH.out.trans (hw1.mono hbasH.out);clear c0 c1 c2 c3 c4 c5 c6;obtain⟨hw1H,hbw1H⟩:=hq2 hw1 (Lib.hid hbw1);clear hw1 hbw1;have hck:=hckH.out;clear hckH
   by_cases hf0:f=0
   ·subst hf0;rw[if_pos rfl]at hck
    by_cases hk0:k=0
    ·subst hk0;have R:∀ nq,WksRel l c w (.int .i64 1) (w1.drewN nq):=by
      refine fun nq=>⟨1,hkl2H.out,by go_num,?_,bel_drewN hbw1H.out nq⟩;rw[prevWk,if_pos rfl,Option.map_none,if_neg (by decide)]at hck;rw[hpnH.out];exact hck
     clear hck;have RH:=Lib.hid R;clear R;go_wp2_with fail
     go_quiet (fail)
     go_wp2;refine⟨?rel,?measure⟩
     case measure=>(simp[intOf];omega)
     case rel=>first | exact(RH.out _) | exact⟨rfl,(RH.out _)⟩
    ·obtain⟨j,rfl⟩:∃ j,k=j+1:=⟨k-1,by omega⟩;obtain⟨y,hy⟩:∃ y,l[j]? = some y:=⟨l[j]'(by have:=hllH.out;omega),List.getElem?_eq_getElem _⟩;obtain⟨d0,_⟩:=cells_Worker (hlH.out.below hbw1H.out) hy;have hpr:prevWk l (j+1)=some y.name:=by rw[prevWk,if_neg (by omega),show j+1-1=j from rfl,hy];rfl
     rw[hpr,Option.map_some]at hck;clear hpr;obtain⟨yn,yr⟩:∃ yn,y.name=yn:=⟨_,rfl⟩;rw[yr]at d0 hck
     cases hle:sle nm yn
     ·have hle':(Op.bytesLess nm.toList yn.toList||nm.toList==yn.toList)=false:=hle;rw[hle,if_neg (by decide)]at hck;have R:∀ nq,WksRel l c w (.int .i64 (j+1+1)) (w1.drewN nq):=by
       refine fun nq=>⟨j+1+1,hkl2H.out,by go_num,?_,bel_drewN hbw1H.out nq⟩;rw[hpnH.out];exact hck
      clear hck;obtain⟨hleH,hyH,yrH,RH⟩:=hq2 hle (hq2 hy (hq2 yr (Lib.hid R)));clear hle hy yr R;go_wp2_with fail
      go_quiet (fail)
      go_wp2;refine⟨?rel,?measure⟩
      case measure=>(simp[intOf];omega)
      case rel=>first | exact(RH.out _) | exact⟨rfl,(RH.out _)⟩
     ·have hle':(Op.bytesLess nm.toList yn.toList||nm.toList==yn.toList)=true:=hle;rw[hle,if_pos rfl]at hck;obtain⟨hleH,hckH,hyH,yrH⟩:=hq2 hle (hq2 hck (hq2 hy (Lib.hid yr)));clear hle hck hy yr;go_wp2_with fail
      go_quiet (fail)
      go_wp2;go_ret;exact⟨ret1_int hckH.out,bel_drewN hbw1H.out _⟩
   ·rw[if_neg hf0]at hck;have hf1:(f != 0)=true:=by simpa using hf0
    clear q0;obtain⟨hckH,hf0H⟩:=hq2 hck (Lib.hid hf0);clear hck hf0;go_wp2;go_ret;exact⟨ret1_int hckH.out,hbw1H.out⟩
  ·have e:l.drop k = []:=List.drop_eq_nil_of_le (by have:=hllH.out;omega);rw[e]at hck;have hc0:0=c:=by rw[← hck];unfold workersErr;rfl
   obtain⟨hckH,hbH,eH,hc0H⟩:=hq2 hck (hq2 hb (hq2 e (Lib.hid hc0)));clear hck hb e hc0;go_wp2;go_ret;exact⟨ret1_int hc0H.out,hbH.out⟩
theorem rworkers_any (A:Option Addr) (len cap:Nat) (l:List Worker) (w:World) (hl:SlAt RWorker w A len l) (c:Int) (hF:workersF l=c) :
  Calls Tryz.prog 44 #[.slice A len cap] w fun e w'=>e = .returned (.int .i64 c)∧Below w.heap.size w w':=by
 unfold workersF at hF;rw[hl.1]at hF
 by_cases h:len≤50
 ·rw[if_pos h]at hF;exact rworkers_ok A len cap l w h hl c hF
 ·rw[if_neg h]at hF;subst hF;clear hl;go_enter Tryz.func44,Tryz.ntmps44;go_wp2;go_ret;exact⟨rfl,Below.refl _ _⟩
def hasNm (l:List Worker) (s:ByteArray):Bool:=l.any (fun x=>decide (x.name=s))
def ixNm (l:List Worker) (s:ByteArray):Nat:=l.findIdx (fun x=>decide (x.name=s))
theorem ixNm_get {l:List Worker} {s:ByteArray} (h:hasNm l s=true):∃ x,l[ixNm l s]? = some x∧x.name=s:=by
 have hlt:ixNm l s<l.length:=by
  rw[hasNm,List.any_eq_true]at h;exact List.findIdx_lt_length_of_exists h
 refine⟨l[ixNm l s],List.getElem?_eq_getElem hlt,?_⟩;have:=List.findIdx_getElem (w:=hlt);exact of_decide_eq_true this
theorem ixNm_lt {l:List Worker} {s:ByteArray} (h:hasNm l s=true):ixNm l s<l.length:=by
 obtain⟨x,hx,_⟩:=ixNm_get h;exact(List.getElem?_eq_some_iff.1 hx).1
theorem ixNm_eq {l:List Worker} (hr:l.Pairwise fun a b=>cmpS a.name b.name = -1) {k:Nat} {x:Worker} (hx:l[k]? = some x):ixNm l x.name=k∧hasNm l x.name=true:=by
 have hin:hasNm l x.name=true:=by
  rw[hasNm,List.any_eq_true];exact⟨x,List.mem_of_getElem? hx,decide_eq_true rfl⟩
 refine⟨?_,hin⟩;obtain⟨y,hy,hyx⟩:=ixNm_get hin;obtain⟨h1,e1⟩:=List.getElem?_eq_some_iff.1 hx;obtain⟨h2,e2⟩:=List.getElem?_eq_some_iff.1 hy;have hp:=List.pairwise_iff_getElem.1 hr
 rcases Nat.lt_trichotomy (ixNm l x.name) k with h | h | h
 ·have:=hp _ _ h2 h1 h;rw[e1,e2,hyx,(cmpS_zero _ _).2 rfl]at this
  cases this
 ·exact h
 ·have:=hp _ _ h1 h2 h;rw[e1,e2,hyx,(cmpS_zero _ _).2 rfl]at this
  cases this
theorem workerAt1_any (x:Worker) (s:ByteArray) (w:World) :
  Calls Tryz.prog 87 #[.agg #[.string x.name,.slice x.has.A x.has.n x.has.cap,.int .i64 x.slots,.int .i64 x.speed,.int .i64 x.from_,.int .i64 x.to_,.slice x.stands.A x.stands.n x.stands.cap],.string s] w fun e w'=>e = .returned (.int .i64 (cmpS x.name s))∧Below w.heap.size w w':=by
 have hba:=(Below.refl w.heap.size w).alloc (Nat.le_refl _) (.cells #[.string x.name,.slice x.has.A x.has.n x.has.cap,.int .i64 x.slots,.int .i64 x.speed,.int .i64 x.from_,.int .i64 x.to_,.slice x.stands.A x.stands.n x.stands.cap] 84);have hbaH:=Lib.hid hba;clear hba;go_enter Tryz.func87,Tryz.ntmps87;go_wp2_with (go_at_call 42;refine(Tryz.strings_Compare _ _ _).mono ?_;rintro e w1 ⟨rfl,rfl⟩);go_ret;exact⟨rfl,hbaH.out⟩
theorem split_ltK (s:ByteArray):∀ (l:List Worker),(l.Pairwise fun a b=>cmpS a.name b.name = -1)→∃ k0,k0≤l.length∧(∀ t x,l[t]? = some x→t<k0→cmpS x.name s = -1)∧(∀ t x,l[t]? = some x→k0≤t→cmpS x.name s≠-1)
 | [],_=>⟨0,Nat.le_refl _,fun t x h=>by simp at h,fun t x h=>by simp at h⟩
 | y::r,h=>by
  rw[List.pairwise_cons]at h
  by_cases hy:cmpS y.name s = -1
  ·obtain⟨k,hk,h1,h2⟩:=split_ltK s r h.2;refine⟨k+1,by rw[List.length_cons];omega,fun t x hx ht=>?_,fun t x hx ht=>?_⟩
   ·cases t with
    | zero=>simp at hx;subst hx;exact hy
    | succ t=>exact h1 t x (by simpa using hx) (by omega)
   ·cases t with
    | zero=>omega
    | succ t=>exact h2 t x (by simpa using hx) (by omega)
  ·refine⟨0,Nat.zero_le _,fun t x _ ht=>by omega,fun t x hx _=>?_⟩
   cases t with
   | zero=>simp at hx;subst hx;exact hy
   | succ t =>
    intro hc;exact hy (cmpS_trans (h.1 x (List.mem_of_getElem? (by simpa using hx))) hc)
theorem bsf_worker (A:Option Addr) (n c:Nat) (l:List Worker) (s:ByteArray) (w:World) (hn:n≤1000) (hl:SlAt RWorker w A n l) (hr:l.Pairwise fun a b=>cmpS a.name b.name = -1) :
  Calls Tryz.prog 86 #[.slice A n c,.string s,.func (.func 87) #[] #[]] w fun e w' =>
   ∃ i:Nat,e = .returned (.tuple #[.int .i64 i,.bool (hasNm l s)])∧(hasNm l s=true→i=ixNm l s)∧Below w.heap.size w w':=by
 have hll:=hl.1;have eg:∀ args w,(callFunc 87 args).run Tryz.prog w = .ok (.enter 87 args) w:=enters_of Tryz.func87 (by kernel_rfl) rfl;obtain⟨k0,hk0,hlo,hhi⟩:=split_ltK s l hr;have hno:(∀ (t:Nat) (x:Worker),l[t]? = some x→x.name≠s)→hasNm l s=false:=fun h=>by
  rw[hasNm,List.any_eq_false];intro x hx;obtain⟨t,ht,rfl⟩:=List.getElem_of_mem hx
  simpa using h t _ (List.getElem?_eq_getElem ht)
 obtain⟨f,hf⟩:∃ f,hasNm l s=f:=⟨_,rfl⟩;rw[hf];obtain⟨hlH,hllH,hrH,hloH,hhiH,hnoH,hfH⟩:=hq2 hl (hq2 hll (hqb hr hlo hhi hno (Lib.hid hf)));clear hl hll hr hlo hhi hno hf;go_enter Tryz.func86,Tryz.ntmps86;go_wp2
 go_loopw [9,10] (fun vi vj wr=>BsRel k0 n w vi vj wr) (fun vi vj _=>(intOf vj).toNat-(intOf vi).toNat)
 case atStart=>exact⟨0,n,rfl,rfl,Nat.zero_le _,by have:=hllH.out;omega,Nat.le_refl _,Below.refl _ _⟩
 case round =>
  obtain⟨i,j,rfl,rfl,hi,hj,hjn,hb⟩:=hrel;have hbs:=hb.size
  by_cases hlt:i<j
  ·obtain⟨b,off,hA,_⟩:=hlH.out.2.1 (by omega);subst hA;obtain⟨x,hx⟩:∃ x,l[(i+j) / 2]? = some x:=⟨l[(i+j) / 2]'(by have:=hllH.out;omega),List.getElem?_eq_getElem _⟩;obtain⟨c0,c1,c2,c3,c4,c5,c6⟩:=cells_Worker (hlH.out.below hb) hx;have e1:((i:Int)+(j:Int)) / 2=(((i+j) / 2:Nat):Int):=by omega
   by_cases hc:cmpS x.name s = -1
   ·have hneg:(cmpS x.name s<0)=True:=by rw[hc];decide
    have hik:(i+j) / 2<k0:=by
     rcases Nat.lt_or_ge ((i+j) / 2) k0 with h | h
     ·exact h
     ·exact absurd hc (hhiH.out _ x hx h)
    have R:∀ w',Below wr.heap.size wr w'→BsRel k0 n w (.int .i64 (((i:Int)+(j:Int)) / 2+1)) (.int .i64 j) w':=fun w' h=>⟨(i+j) / 2+1,j,by rw[e1];rfl,rfl,by omega,hj,hjn,hb.trans (h.mono hbs)⟩;obtain⟨cx,hcx⟩:∃ c,cmpS x.name s=c:=⟨_,rfl⟩;rw[hcx]at hc;subst hc;clear hneg;obtain⟨hxH,hbH,e1H,RH,hikH,hcxH⟩:=hq2 hx (hqb hb e1 R hik (Lib.hid hcx));clear hx hb e1 R hik hcx;go_wp2_with (go_at_fn 87;refine(workerAt1_any x s _).mono ?_;rintro e w' ⟨rfl,hb'⟩;rw[hcxH.out];have hb'H:=Lib.hid hb';clear hb');refine⟨?rel,?measure⟩
    case measure=>simp[intOf];omega
    case rel=>exact RH.out _ hb'H.out
   ·have hik:k0≤(i+j) / 2:=by
     rcases Nat.lt_or_ge ((i+j) / 2) k0 with h | h
     ·exact absurd (hloH.out _ x hx h) hc
     ·exact h
    obtain⟨cx,hcx⟩:∃ c,cmpS x.name s=c:=⟨_,rfl⟩;have hcr:=cmpS_range x.name s;rw[hcx]at hc hcr;have hnn:decide (cx<0)=false:=decide_eq_false (by omega);have R:∀ w',Below wr.heap.size wr w'→BsRel k0 n w (.int .i64 i) (.int .i64 (((i:Int)+(j:Int)) / 2)) w':=fun w' h=>⟨i,(i+j) / 2,rfl,by rw[e1],hi,hik,by omega,hb.trans (h.mono hbs)⟩;clear hcr hc;obtain⟨hxH,hbH,e1H,RH,hikH,hcxH⟩:=hq2 hx (hqb hb e1 R hik (Lib.hid hcx));clear hx hb e1 R hik hcx;go_wp2_with (go_at_fn 87;refine(workerAt1_any x s _).mono ?_;rintro e w' ⟨rfl,hb'⟩;rw[hcxH.out];have hb'H:=Lib.hid hb';clear hb');refine⟨?rel,?measure⟩
    case measure=>simp[intOf];omega
    case rel=>exact RH.out _ hb'H.out
  ·have hij:i=k0:=by omega
   have hjk:j=k0:=by omega
   subst hij;subst hjk
   by_cases hkn:j<n
   ·obtain⟨b,off,hA,_⟩:=hlH.out.2.1 (by omega);subst hA;obtain⟨x,hx⟩:∃ x,l[j]? = some x:=⟨l[j]'(by have:=hllH.out;omega),List.getElem?_eq_getElem _⟩;obtain⟨c0,c1,c2,c3,c4,c5,c6⟩:=cells_Worker (hlH.out.below hb) hx;have hf:=hfH.out;clear hfH;have hfx:f=decide (x.name=s)∧(f=true→j=ixNm l s):=by
     by_cases hxs:x.name=s
     ·have:=ixNm_eq hrH.out hx;rw[hxs]at this;rw[← hf];exact⟨by rw[this.2,decide_eq_true hxs],fun _=>this.1.symm⟩
     ·have h0:hasNm l s=false:=hnoH.out fun t y hy hys=>by
       rcases Nat.lt_or_ge t j with h | h
       ·have:=hloH.out t y hy h;rw[hys,(cmpS_zero _ _).2 rfl]at this;cases this
       ·rcases Nat.eq_or_lt_of_le h with h | h
        ·subst h;rw[hx]at hy;injection hy with hy;exact hxs (by rw[hy];exact hys)
        ·obtain⟨h1,e1⟩:=List.getElem?_eq_some_iff.1 hx;obtain⟨h2,e2⟩:=List.getElem?_eq_some_iff.1 hy;have:=List.pairwise_iff_getElem.1 hrH.out j t h1 h2 h;rw[e1,e2,hys]at this;exact hhiH.out j x hx (Nat.le_refl _) this
      rw[h0]at hf;subst hf;exact⟨by rw[decide_eq_false hxs],fun h=>by cases h⟩
    obtain⟨cx,hcx⟩:∃ c,cmpS x.name s=c:=⟨_,rfl⟩;have hcf:(cx==0)=f:=by
     rw[hfx.1,← hcx,Bool.eq_iff_iff,beq_iff_eq,decide_eq_true_iff];exact cmpS_zero _ _
    have hfx2:=hfx.2;clear hfx;obtain⟨hxH,hbH,hfH,hcxH,hfx2H⟩:=hqb hx hb hf hcx (Lib.hid hfx2);clear hx hb hf hcx hfx2
    cases f
    all_goals
     go_wp2_with (go_at_fn 87;refine(workerAt1_any x s _).mono ?_;rintro e w' ⟨rfl,hb'⟩;rw[hcxH.out];have hb'H:=Lib.hid hb';clear hb')
     go_ret2
     first
      | exact⟨j,rfl,(fun h=>hfx2H.out h),hbH.out.trans (hb'H.out.mono hbH.out.size)⟩
      | exact⟨j,rfl,hfx2H.out trivial,hbH.out.trans (hb'H.out.mono hbH.out.size)⟩
   ·have h0:hasNm l s=false:=hnoH.out fun t y hy hys=>by
     have h1:=(List.getElem?_eq_some_iff.1 hy).1;have:=hloH.out t y hy (by have:=hllH.out;omega);rw[hys,(cmpS_zero _ _).2 rfl]at this;cases this
    obtain rfl:false=f:=by rw[← h0,hfH.out]
    obtain⟨hbH,h0H⟩:=hq2 hb (Lib.hid h0);clear hb h0;go_wp2_with fail
    go_ret2
    exact⟨j,rfl,(fun h=>nomatch h),hbH.out⟩
theorem workerAt_any (A:Option Addr) (n c:Nat) (l:List Worker) (s:ByteArray) (w:World) (hn:n≤1000) (hl:SlAt RWorker w A n l) (hr:l.Pairwise fun a b=>cmpS a.name b.name = -1) :
  Calls Tryz.prog 38 #[.slice A n c,.string s] w fun e w' =>
   ∃ i:Nat,e = .returned (.tuple #[.int .i64 i,.bool (hasNm l s)])∧(hasNm l s=true→i=ixNm l s)∧Below w.heap.size w w':=by
 obtain⟨hlH,hrH⟩:=hq2 hl (Lib.hid hr);clear hl hr;go_enter Tryz.func38,Tryz.ntmps38;go_wp2_with fail;refine(bsf_worker A n c l s _ hn hlH.out hrH.out).mono ?_;rintro e w1 ⟨i,rfl,hi,hb⟩;obtain⟨hiH,hbH⟩:=hq2 hi (Lib.hid hb);clear hi hb;go_wp2
 go_ret2
 exact⟨i,rfl,hiH.out,hbH.out⟩
def WkNRel (l:List Worker) (s:ByteArray) (w0:World) (i:Value) (wr:World):Prop:=∃ k:Nat,k≤l.length∧i = .int .i64 k∧(∀ t x,l[t]? = some x→t<k→x.name≠s)∧Below w0.heap.size w0 wr
def wkF (l:List Worker) (s:ByteArray):Int:=if hasNm l s=true then ixNm l s else -1
theorem workerOf_any (A:Option Addr) (n c:Nat) (l:List Worker) (s:ByteArray) (w:World) (hn:n≤1000) (hl:SlAt RWorker w A n l) :
  Calls Tryz.prog 46 #[.slice A n c,.string s] w fun e w'=>e = .returned (.int .i64 (wkF l s))∧Below w.heap.size w w':=by
 have hll:=hl.1;obtain⟨z,hz⟩:∃ z,wkF l s=z:=⟨_,rfl⟩;rw[hz];obtain⟨hlH,hllH,hzH⟩:=hq2 hl (hq2 hll (Lib.hid hz));clear hl hll hz;go_enter Tryz.func46,Tryz.ntmps46;go_wp2
 go_loopw [9] (fun i wr=>WkNRel l s w i wr) (fun i _=>n-(intOf i).toNat)
 case atStart=>exact⟨0,Nat.zero_le _,rfl,fun t x _ h=>by omega,Below.refl _ _⟩
 case round =>
  obtain⟨k,hk,rfl,hne,hb⟩:=hrel;have hkl:k≤n:=by have:=hllH.out;omega
  have hbs:=hb.size
  by_cases hlt:k<n
  ·obtain⟨b,off,hA,_⟩:=hlH.out.2.1 (by omega);subst hA;obtain⟨x,hx⟩:∃ x,l[k]? = some x:=⟨l[k]'(by have:=hllH.out;omega),List.getElem?_eq_getElem _⟩;obtain⟨c0,c1,c2,c3,c4,c5,c6⟩:=cells_Worker (hlH.out.below hb) hx;have hba:=hb.alloc hbs (.cells #[.string x.name,.slice x.has.A x.has.n x.has.cap,.int .i64 x.slots,.int .i64 x.speed,.int .i64 x.from_,.int .i64 x.to_,.slice x.stands.A x.stands.n x.stands.cap] 84)
   by_cases hxs:x.name=s
   ·have heq:(x.name.toList==s.toList)=true:=by rw[beq_data,decide_eq_true hxs]
    have hw:wkF l s=k:=by
     unfold wkF;have hin:hasNm l s=true:=by rw[hasNm,List.any_eq_true];exact⟨x,List.mem_of_getElem? hx,decide_eq_true hxs⟩
     rw[if_pos hin];obtain⟨y,hy,hys⟩:=ixNm_get hin;have hle:ixNm l s≤k:=by
      rcases Nat.lt_or_ge k (ixNm l s) with h | h
      ·obtain⟨h1,e1⟩:=List.getElem?_eq_some_iff.1 hx;have:=List.not_of_lt_findIdx h;rw[e1]at this;simp[hxs]at this
      ·exact h
     rcases Nat.lt_or_ge (ixNm l s) k with h | h
     ·exact absurd hys (hne _ y hy h)
     ·omega
    obtain rfl:(k:Int)=z:=by rw[← hw,hzH.out]
    obtain⟨hxH,hbH,hneH,hbaH,hxsH,hwH⟩:=hq2 hx (hqb hb hne hba hxs (Lib.hid hw));clear hx hb hne hba hxs hw;go_wp2;go_ret;exact⟨rfl,hbaH.out⟩
   ·have heq:(x.name.toList==s.toList)=false:=by rw[beq_data,decide_eq_false hxs]
    have R:WkNRel l s w (.int .i64 (k+1)) (wr.alloc (.cells #[.string x.name,.slice x.has.A x.has.n x.has.cap,.int .i64 x.slots,.int .i64 x.speed,.int .i64 x.from_,.int .i64 x.to_,.slice x.stands.A x.stands.n x.stands.cap] 84)):=⟨k+1,by have:=hllH.out;omega,by go_num,fun t y hy ht=>by
     rcases Nat.lt_or_ge t k with h | h
     ·exact hne t y hy h
     ·have:t=k:=by omega
      subst this;rw[hx]at hy;injection hy with hy;rw[← hy];exact hxs,hba⟩
    obtain⟨hxH,hbH,hneH,hbaH,hxsH,RH⟩:=hq2 hx (hqb hb hne hba hxs (Lib.hid R));clear hx hb hne hba hxs R;go_wp2;refine⟨?rel,?measure⟩
    case measure=>(simp[intOf];omega)
    case rel=>first | exact RH.out | exact⟨rfl,RH.out⟩
  ·have hw:wkF l s = -1:=by
    unfold wkF;rw[if_neg];intro h;obtain⟨y,hy,hys⟩:=ixNm_get h;exact hne _ y hy (by have:=ixNm_lt h;have:=hllH.out;omega) hys
   obtain rfl:-1=z:=by rw[← hw,hzH.out]
   obtain⟨hbH,hneH,hwH⟩:=hq2 hb (hq2 hne (Lib.hid hw));clear hb hne hw;go_wp2;go_ret;exact⟨rfl,hbH.out⟩
end Go.Proofs.YtbnkoefljcekbaaGreatDoor.C9
namespace Go.Proofs.YtbnkoefljcekbaaGreatDoor.C9
open Go.ChangeShapes Go.WideShapes Go.Deep Go.RowKit
def lossLe (a b:Loss):Bool:=decide (a.at_<b.at_)||(decide (a.at_=b.at_)&&sle a.worker b.worker)
def lossErr (ws:List Worker):Option Loss→List Loss→Int
 | _,[]=>0
 | p,s::r=>if hasNm ws s.worker=true then (if inR 0 1000000000 s.at_=true then (if p.map (lossLe s ·)=some true then 8 else lossErr ws (some s) r) else 1) else 5
def prevLo (l:List Loss) (k:Nat):Option Loss:=if k=0 then none else l[k-1]?
noncomputable def farmF (x:Farm):Int :=
 if workersF x.workers.l=0 then
  (if worksF x.works.l=0 then (if x.lost.l.length≤200 then (if lossErr x.workers.l none x.lost.l=0 then (if inR 1 10 x.tries=true then 0 else 1) else lossErr x.workers.l none x.lost.l) else 2) else worksF x.works.l)
 else workersF x.workers.l
theorem workersErr_ok:∀ (l:List Worker) (p:Option ByteArray),workersErr p l=0→(∀ x∈l,workerF x=0)∧(l.Pairwise fun a b=>cmpS a.name b.name = -1)∧∀ q,p=some q→∀ x∈l,cmpS q x.name = -1
 | [],p,_=>⟨(fun x h=>by cases h),List.Pairwise.nil,fun q _ x h=>by cases h⟩
 | x::l,p,h=>by
  unfold workersErr at h
  by_cases h1:workerF x=0
  ·rw[if_pos h1]at h
   by_cases h2:p.map (sle x.name ·)=some true
   ·rw[if_pos h2]at h;exact absurd h (by decide)
   ·rw[if_neg h2]at h;obtain⟨a,b,c⟩:=workersErr_ok l _ h;have hc:=c x.name rfl;refine⟨fun y hy=>?_,List.Pairwise.cons hc b,fun q hq y hy=>?_⟩
    ·rcases List.mem_cons.1 hy with rfl | hy
     ·exact h1
     ·exact a y hy
    ·subst hq;have hs:sle x.name q=false:=by
      cases e:sle x.name q
      ·rfl
      ·exact absurd (by rw[Option.map_some,e]) h2
     have hq1:=ltS_of_sle hs
     rcases List.mem_cons.1 hy with rfl | hy
     ·exact hq1
     ·exact cmpS_trans hq1 (hc y hy)
  ·rw[if_neg h1]at h;exact absurd h h1
theorem lossErr_ok (ws:List Worker):∀ (l:List Loss) (p:Option Loss),lossErr ws p l=0→∀ s∈l,hasNm ws s.worker=true∧0≤s.at_∧s.at_≤1000000000
 | [],p,_=>(fun x h=>by cases h)
 | x::l,p,h=>by
  unfold lossErr at h
  by_cases h1:hasNm ws x.worker=true
  ·rw[if_pos h1]at h
   by_cases h3:inR 0 1000000000 x.at_=true
   ·rw[if_pos h3]at h
    by_cases h2:p.map (lossLe x ·)=some true
    ·rw[if_pos h2]at h;exact absurd h (by decide)
    ·rw[if_neg h2]at h;intro s hs
     rcases List.mem_cons.1 hs with rfl | hs
     ·unfold inR at h3;simp only[Bool.and_eq_true,decide_eq_true_eq]at h3;exact⟨h1,h3.1,h3.2⟩
     ·exact lossErr_ok ws l _ h s hs
   ·rw[if_neg h3]at h;exact absurd h (by decide)
  ·rw[if_neg h1]at h;exact absurd h (by decide)
theorem farmOk_of {x:Farm} (h:farmF x=0):FarmOk x:=by
 unfold farmF at h
 by_cases h1:workersF x.workers.l=0
 ·rw[if_pos h1]at h
  by_cases h2:worksF x.works.l=0
  ·rw[if_pos h2]at h
   by_cases h3:x.lost.l.length≤200
   ·rw[if_pos h3]at h
    by_cases h4:lossErr x.workers.l none x.lost.l=0
    ·rw[if_pos h4]at h
     by_cases h5:inR 1 10 x.tries=true
     ·unfold workersF at h1
      by_cases h6:x.workers.l.length≤50
      ·rw[if_pos h6]at h1;obtain⟨a,b,_⟩:=workersErr_ok _ _ h1;unfold inR at h5;simp only[Bool.and_eq_true,decide_eq_true_eq]at h5;refine⟨a,b,h6,wok_of h2,h3,fun s hs=>?_,h5⟩;obtain⟨u,v,z⟩:=lossErr_ok _ _ _ h4 s hs;rw[hasNm,List.any_eq_true]at u;obtain⟨y,hy,e⟩:=u;exact⟨⟨y,hy,of_decide_eq_true e⟩,v,z⟩
      ·rw[if_neg h6]at h1;exact absurd h1 (by decide)
     ·rw[if_neg h5]at h;exact absurd h (by decide)
    ·rw[if_neg h4]at h;exact absurd h h4
   ·rw[if_neg h3]at h;exact absurd h (by decide)
  ·rw[if_neg h2]at h;exact absurd h h2
 ·rw[if_neg h1]at h;exact absurd h h1
theorem drop_lo {l:List Loss} {k:Nat} {x:Loss} (h:l[k]? = some x):l.drop k=x::l.drop (k+1):=by
 obtain⟨hk,rfl⟩:=List.getElem?_eq_some_iff.1 h;exact List.drop_eq_getElem_cons hk
end Go.Proofs.YtbnkoefljcekbaaGreatDoor.C9
namespace Go.Proofs.YtbnkoefljcekbaaGreatDoor.C9
open Go.RowKit
def orF:List Int→Int
 | []=>0
 | x::r=>if x=0 then orF r else x
def OrRel (l:List Int) (c:Int) (i:Value):Prop:=∃ k:Nat,k≤l.length∧i = .int .i64 k∧orF (l.drop k)=c
theorem cell_Int {w:World} {b off m k:Nat} {l:List Int} {x:Int} (h:SlAt RInt w (some ⟨b,off,none⟩) m l) (hx:l[k]? = some x):w.cell? ⟨b,off+k,none⟩=some (.int .i64 x):=by
 have hk:=(List.getElem?_eq_some_iff.1 hx).1;obtain⟨b',off',hA,hc⟩:=h.2.1 (by have:=h.1;omega);obtain⟨rfl,rfl⟩:b=b'∧off=off':=by simpa using hA
 have:=hc k x hx 0 _ rfl
 simpa[RInt]using this
theorem or_any (A:Option Addr) (len cap:Nat) (l:List Int) (w:World) (hlen:len≤1000) (hl:SlAt RInt w A len l) (c:Int) (hF:orF l=c) :
  Calls Tryz.prog 40 #[.slice A len cap] w fun e w'=>e = .returned (.int .i64 c)∧w=w':=by
 have hll:=hl.1;obtain⟨hllH,hFH,hlH⟩:=hq2 hll (hq2 hF (Lib.hid hl));clear hll hF hl;go_enter Tryz.func40,Tryz.ntmps40;go_wp2
 go_loop [8] (fun i=>OrRel l c i) (fun i=>len-(intOf i).toNat)
 case atStart=>exact⟨0,Nat.zero_le _,rfl,hFH.out⟩
 case round =>
  obtain⟨k,hk,rfl,hck⟩:=hrel;have hkl:k≤len:=by have:=hllH.out;omega
  by_cases hlt:k<len
  ·obtain⟨b,off,hA,_⟩:=hlH.out.2.1 (by omega);subst hA;obtain⟨x,hx⟩:∃ x,l[k]? = some x:=⟨l[k]'(by have:=hllH.out;omega),List.getElem?_eq_getElem _⟩;have c0:=cell_Int hlH.out hx;have hkl2:k+1≤l.length:=by have:=hllH.out;omega
   rw[drop_cons hx,orF]at hck
   by_cases h0:x=0
   ·rw[if_pos h0]at hck;subst h0;have R:OrRel l c (.int .i64 (k+1)):=⟨k+1,hkl2,by go_num,hck⟩;obtain⟨hckH,hxH,RH⟩:=hq2 hck (hq2 hx (Lib.hid R));clear hck hx R;go_wp2;refine⟨?rel,?measure⟩
    case measure=>(simp[intOf];omega)
    case rel=>first | exact RH.out | exact⟨rfl,RH.out⟩
   ·rw[if_neg h0]at hck;subst hck;have h1:(x != 0)=true:=by simpa using h0
    have hxH:=Lib.hid hx;clear hx;go_wp2;go_ret;exact⟨rfl,rfl⟩
  ·have e:l.drop k = []:=List.drop_eq_nil_of_le (by have:=hllH.out;omega);rw[e,orF]at hck;subst hck;clear e;go_wp2;go_ret;exact⟨rfl,rfl⟩
def runLt (a b:Run):Bool:=if a.from_=b.from_ then (if a.id_=b.id_ then ltS a.worker b.worker else ltS a.id_ b.id_) else decide (a.from_<b.from_)
def runCmp (a b:Run):Int:=orF [Lib.compareInt a.from_ b.from_,cmpS a.id_ b.id_,cmpS a.worker b.worker]
theorem runCmp_eq (a b:Run):runCmp a b=if a.from_=b.from_ then (if a.id_=b.id_ then cmpS a.worker b.worker else cmpS a.id_ b.id_) else if a.from_<b.from_ then -1 else 1:=by
 unfold runCmp;simp only[orF]
 by_cases h:a.from_=b.from_
 ·have h0:Lib.compareInt a.from_ b.from_=0:=by
   unfold Lib.compareInt;rw[if_neg (by omega),if_neg (by omega)]
  rw[if_pos h0,if_pos h]
  by_cases h2:a.id_=b.id_
  ·rw[if_pos ((cmpS_zero _ _).2 h2),if_pos h2]
   split
   ·rename_i h3;exact h3.symm
   ·rfl
  ·rw[if_neg (fun e=>h2 ((cmpS_zero _ _).1 e)),if_neg h2]
 ·rw[if_neg h]
  by_cases h2:a.from_<b.from_
  ·have h0:Lib.compareInt a.from_ b.from_ = -1:=by
    unfold Lib.compareInt;rw[if_pos h2]
   rw[h0,if_pos h2];rfl
  ·have h0:Lib.compareInt a.from_ b.from_=1:=by
    unfold Lib.compareInt;rw[if_neg h2,if_pos (by omega)]
   rw[h0,if_neg h2];rfl
theorem runCmp_le {a b:Run} (h:runLt b a=false):runCmp a b≤0:=by
 rw[runCmp_eq];unfold runLt at h
 by_cases h1:a.from_=b.from_
 ·rw[if_pos h1];rw[if_pos h1.symm]at h
  by_cases h2:a.id_=b.id_
  ·rw[if_pos h2];rw[if_pos h2.symm,ltS_cmp,cmpS_swap a.worker b.worker]at h;have:=of_decide_eq_false h
   rcases cmpS_range a.worker b.worker with h3 | h3 | h3 <;> omega
  ·rw[if_neg h2];rw[if_neg (fun e=>h2 e.symm),ltS_cmp,cmpS_swap a.id_ b.id_]at h;have:=of_decide_eq_false h
   rcases cmpS_range a.id_ b.id_ with h3 | h3 | h3 <;> omega
 ·rw[if_neg h1];rw[if_neg (fun e=>h1 e.symm)]at h;have:=of_decide_eq_false h;rw[if_pos (by omega)]
  decide
theorem before_any (a b:Run) (w:World) (c:Bool) (hF:runLt a b=c) :
  Calls Tryz.prog 34 #[.agg #[.string a.id_,.string a.worker,.int .i64 a.from_,.int .i64 a.to_,.int .i64 a.end_],.agg #[.string b.id_,.string b.worker,.int .i64 b.from_,.int .i64 b.to_,.int .i64 b.end_]] w fun e w'=>e = .returned (.bool c)∧Below w.heap.size w w':=by
 have hba:=((Below.refl w.heap.size w).alloc (Nat.le_refl _) (.cells #[.string a.id_,.string a.worker,.int .i64 a.from_,.int .i64 a.to_,.int .i64 a.end_] 34)).alloc (by simp) (.cells #[.string b.id_,.string b.worker,.int .i64 b.from_,.int .i64 b.to_,.int .i64 b.end_] 34);unfold runLt at hF;have hbaH:=Lib.hid hba;clear hba
 by_cases h1:a.from_=b.from_
 ·rw[if_pos h1]at hF;have h1':(a.from_ != b.from_)=false:=by simpa using h1
  clear h1
  by_cases h2:a.id_=b.id_
  ·rw[if_pos h2]at hF;have h3:=nbne_data h2;clear h2;have hFH:=Lib.hid hF;clear hF;go_enter Tryz.func34,Tryz.ntmps34;go_wp2;go_ret;exact⟨ret_bool hFH.out,hbaH.out⟩
  ·rw[if_neg h2]at hF;have h3:=bne_data h2;clear h2;have hFH:=Lib.hid hF;clear hF;go_enter Tryz.func34,Tryz.ntmps34;go_wp2;go_ret;exact⟨ret_bool hFH.out,hbaH.out⟩
 ·rw[if_neg h1]at hF;have h2:(a.from_ != b.from_)=true:=by simpa using h1
  clear h1;have hFH:=Lib.hid hF;clear hF;go_enter Tryz.func34,Tryz.ntmps34;go_wp2;go_ret;exact⟨ret_bool hFH.out,hbaH.out⟩
theorem or_cells {w:World} {A:Option Addr} {b:Nat} {x y z:Int} (hA:A=some ⟨b,0,none⟩) (h0:w.cell? ⟨b,0,none⟩=some (.int .i64 x)) (h1:w.cell? ⟨b,1,none⟩=some (.int .i64 y)) (h2:w.cell? ⟨b,2,none⟩=some (.int .i64 z)) (hx:I64 x:=by trivial) (hy:I64 y:=by trivial) (hz:I64 z:=by trivial) :
  SlAt RInt w A 3 [x,y,z]:=by
 refine⟨rfl,fun _=>⟨b,0,hA,fun i v hv j u hu=>?_⟩,?_⟩
 ·match j,hu with
  | 0,hu =>
   simp only[RInt,List.getElem?_cons_zero,Option.some.injEq]at hu;subst hu
   match i,hv with
   | 0,hv=>simp only[List.getElem?_cons_zero,Option.some.injEq]at hv;subst hv;exact h0
   | 1,hv=>simp only[List.getElem?_cons_succ,List.getElem?_cons_zero,Option.some.injEq]at hv;subst hv;exact h1
   | 2,hv=>simp only[List.getElem?_cons_succ,List.getElem?_cons_zero,Option.some.injEq]at hv;subst hv;exact h2
   | n+3,hv=>simp at hv
  | n+1,hu=>simp[RInt]at hu
 ·intro v hv;simp only[List.mem_cons,List.not_mem_nil,or_false]at hv
  rcases hv with rfl | rfl | rfl
  ·exact hx
  ·exact hy
  ·exact hz
theorem I64_of {x:Int} (h:x = -1∨x=0∨x=1):I64 x:=by unfold I64;omega
theorem cmpI_range (x y:Int):Lib.compareInt x y = -1∨Lib.compareInt x y=0∨Lib.compareInt x y=1:=by
 unfold Lib.compareInt
 split
 ·exact Or.inl rfl
 ·split
  ·exact Or.inr (Or.inr rfl)
  ·exact Or.inr (Or.inl rfl)
end Go.Proofs.YtbnkoefljcekbaaGreatDoor.C9
namespace Go.Proofs.YtbnkoefljcekbaaGreatDoor.C9
open Go.ChangeShapes Go.WideShapes Go.Deep Go.RowKit Go.Maps
theorem rise_inj {α:Type} {f:α→ByteArray} {l:List α} (hr:l.Pairwise fun a b=>cmpS (f a) (f b) = -1) {i j:Nat} {a b:α} (hi:l[i]? = some a) (hj:l[j]? = some b) (e:f a=f b):i=j:=by
 obtain⟨hi1,hi2⟩:=List.getElem?_eq_some_iff.1 hi;obtain⟨hj1,hj2⟩:=List.getElem?_eq_some_iff.1 hj;have hp:=List.pairwise_iff_getElem.1 hr;have z:∀ s:ByteArray,cmpS s s=0:=fun s=>(cmpS_zero s s).2 rfl
 rcases Nat.lt_trichotomy i j with h | h | h
 ·have:=hp _ _ hi1 hj1 h;rw[hi2,hj2,e,z]at this;cases this
 ·exact h
 ·have:=hp _ _ hj1 hi1 h;rw[hi2,hj2,e,z]at this;cases this
theorem idInj {x:Farm} (h:FarmOk x) {i j:Nat} (hi:i<x.works.l.length) (hj:j<x.works.l.length) (e:(woOf x i).id_=(woOf x j).id_):i=j:=by
 rw[woOf_get (List.getElem?_eq_getElem hi),woOf_get (List.getElem?_eq_getElem hj)]at e;exact rise_inj (f:=Work.id_) h.wo.rise (List.getElem?_eq_getElem hi) (List.getElem?_eq_getElem hj) e
theorem nmInj {x:Farm} (h:FarmOk x) {i j:Nat} (hi:i<x.workers.l.length) (hj:j<x.workers.l.length) (e:(wkOf x i).name=(wkOf x j).name):i=j:=by
 rw[wkOf_get (List.getElem?_eq_getElem hi),wkOf_get (List.getElem?_eq_getElem hj)]at e;exact rise_inj (f:=Worker.name) h.wkr (List.getElem?_eq_getElem hi) (List.getElem?_eq_getElem hj) e
theorem runLt_of {a b:Run} (h:runCmp a b≤0) (hne:¬ (a.from_=b.from_∧a.id_=b.id_∧a.worker=b.worker)):runLt a b=true:=by
 rw[runCmp_eq]at h;unfold runLt
 by_cases h1:a.from_=b.from_
 ·rw[if_pos h1]at h ⊢
  by_cases h2:a.id_=b.id_
  ·rw[if_pos h2]at h ⊢;rw[ltS_cmp];have:=cmpS_range a.worker b.worker;have h3:cmpS a.worker b.worker≠0:=fun e=>hne ⟨h1,h2,(cmpS_zero _ _).1 e⟩;exact decide_eq_true (by omega)
  ·rw[if_neg h2]at h ⊢;rw[ltS_cmp];have:=cmpS_range a.id_ b.id_;have h3:cmpS a.id_ b.id_≠0:=fun e=>h2 ((cmpS_zero _ _).1 e);exact decide_eq_true (by omega)
 ·rw[if_neg h1]at h ⊢
  by_cases h2:a.from_<b.from_
  ·exact decide_eq_true h2
  ·rw[if_neg h2]at h;omega
theorem len_runs {F:FP} (hF:FFine F) {q:QS} (h:Inv F q.at_ (q.at_+1) q):((q.runs.length:Nat):Int)≤F.nX*(F.tries+1):=by
 have ht:=hF.tri;have:=cnt_len (m:=(F.tries+1).toNat) F.nX q.runs (fun r hr=>(h.named r hr).2) (fun k=>by have:=h.cnt k;omega);have h2:((F.nX*(F.tries+1).toNat:Nat):Int)=F.nX*(F.tries+1):=by rw[Int.natCast_mul,Int.toNat_of_nonneg (by omega)]
 omega
structure Done (x:Farm) (q:QS) (L:List RR):Prop where
 ok:farmF x=0
 fin:FinQ (fpx x) q
 fine:FFine (fpx x)
 perm:L.Perm q.runs
 sort:L.Pairwise fun a b=>runCmp (toRun x a) (toRun x b)≤0
section
variable {x:Farm} {q:QS} {L:List RR}
theorem Done.mem (h:Done x q L) {r:RR} (hr:r∈L):r∈q.runs:=h.perm.mem_iff.1 hr
theorem Done.lt (h:Done x q L) {r:RR} (hr:r∈L):r.worker<x.workers.l.length∧r.work<x.works.l.length:=h.fin.inv.named r (h.mem hr)
theorem Done.len (h:Done x q L):L.length≤2200:=by
 have hok:=farmOk_of h.ok;have h1:=len_runs h.fine h.fin.inv;have h2:((fpx x).nX:Int)≤200:=by have:(fpx x).nX=x.works.l.length:=rfl;have:=hok.wo.len;omega
 have h3:(fpx x).tries≤10:=hok.tri.2;have h4:1≤(fpx x).tries:=hok.tri.1;have h5:((fpx x).nX:Int)*((fpx x).tries+1)≤200*11:=Int.mul_le_mul h2 (by omega) (by omega) (by omega);have:=h.perm.length_eq;omega
theorem Done.lt_run (h:Done x q L):(L.map (toRun x)).Pairwise fun a b=>runLt a b=true:=by
 rw[List.pairwise_map];have hd:L.Pairwise fun a b=>¬ (a.from_=b.from_∧a.work=b.work∧a.worker=b.worker) :=
  (h.perm.pairwise_iff (fun {a b} hab e=>hab ⟨e.1.symm,e.2.1.symm,e.2.2.symm⟩)).2 h.fin.inv.dis
 have hall:L.Pairwise fun a b=>runCmp (toRun x a) (toRun x b)≤0∧¬ (a.from_=b.from_∧a.work=b.work∧a.worker=b.worker):=List.Pairwise.and h.sort hd;refine List.Pairwise.imp_of_mem (fun {a b} ha hb hc=>?_) hall;have hok:=farmOk_of h.ok;exact runLt_of hc.1 (fun e=>hc.2 ⟨e.1,idInj hok (h.lt ha).2 (h.lt hb).2 e.2.1,nmInj hok (h.lt ha).1 (h.lt hb).1 e.2.2⟩)
end
theorem wo_ix {x:Farm} (hok:FarmOk x) {i:Nat} (hi:i<x.works.l.length):ixOf x.works.l (woOf x i).id_=i∧hasId x.works.l (woOf x i).id_=true:=by
 rw[woOf_get (List.getElem?_eq_getElem hi)];exact ixOf_eq hok.wo.rise (List.getElem?_eq_getElem hi)
theorem wk_ix {x:Farm} (hok:FarmOk x) {i:Nat} (hi:i<x.workers.l.length):ixNm x.workers.l (wkOf x i).name=i∧hasNm x.workers.l (wkOf x i).name=true:=by
 rw[wkOf_get (List.getElem?_eq_getElem hi)];exact ixNm_eq hok.wkr (List.getElem?_eq_getElem hi)
end Go.Proofs.YtbnkoefljcekbaaGreatDoor.C9