/-
 Several texts of mine as one, without what is not wanted here: XRqA, XRqB, XRqC.
-/
import Derived.Test.YtbnkoefljcekbaaGreatDoorPyOC9
import Derived.BigRegion
import Derived.Test.YtbnkoefljcekbaaGreatDoorPyShelf
set_option linter.unusedVariables false
set_option linter.unusedSimpArgs false
set_option maxRecDepth 100000
set_option maxHeartbeats 8000000
namespace Go.Proofs.YtbnkoefljcekbaaGreatDoor.C9
open Go.ChangeShapes Go.WideShapes Go.Deep Go.RowKit Go.Maps
structure RS (X:RX) (w0:World):Prop where
 ok:FarmOk X.x
 F:∃ o,X.F=fpOf X.x o∧X.M=nz o
 fx:RFarm.ok w0 X.x
structure RN (X:RX) (q:QS):Prop where
 nm:Named X.F q.runs
 len:q.runs.length≤4000
 t0:0≤q.at_
 t1:q.at_≤2000000000
 fr:∀ r∈q.runs,0≤r.from_∧r.from_≤2000000000
section
variable {X:RX} {rv:Value} {q:QS} {w0 W W':World}
theorem RS.nX (h:RS X w0):X.F.nX=X.x.works.l.length:=by obtain⟨o,e,_⟩:=h.F;rw[e];rfl
theorem RS.nW (h:RS X w0):X.F.nW=X.x.workers.l.length:=by obtain⟨o,e,_⟩:=h.F;rw[e];rfl
theorem RS.N (h:RS X w0):X.N=X.x.works.l.length:=h.fx.2.1.1.1.symm
theorem RN.idEq (h:RN X q) (hs:RS X w0) {r:RR} (hr:r∈q.runs) {k:Nat} (hk:k<X.x.works.l.length):((woOf X.x r.work).id_=(woOf X.x k).id_)↔r.work=k :=
 ⟨fun e=>idInj hs.ok (by rw[← hs.nX];exact(h.nm r hr).2) hk e,fun e=>by rw[e]⟩
theorem RN.nmEq (h:RN X q) (hs:RS X w0) {r:RR} (hr:r∈q.runs) {k:Nat} (hk:k<X.x.workers.l.length):((wkOf X.x r.worker).name=(wkOf X.x k).name)↔r.worker=k :=
 ⟨fun e=>nmInj hs.ok (by rw[← hs.nW];exact(h.nm r hr).1) hk e,fun e=>by rw[e]⟩
end
def StAnsQ9 (X:RX) (rv:Value) (q:QS) (w0 W:World) (g:Nat) (e:Ending) (w':World):Prop:=e = .returned (.tuple #[])∧QA X rv q w0 w'∧W.grownBy w' (some g)
theorem stop_any {X:RX} {q:QS} {w0 W:World} {g n cap:Nat} (hA:QA X (.slice (some ⟨g,0,none⟩) n cap) q w0 W) {i:Nat} (hi:i<n) (hn:n≤4000) (how:Int) (ht:I64 q.at_) (hh:I64 how) :
  Calls Tryz.prog 128 #[.pointer (some ⟨X.f,0,none⟩),.int .i64 i,.int .i64 how] W (StAnsQ9 X (.slice (some ⟨g,0,none⟩) n cap) { q with runs:=stopAt q.at_ how q.runs i } w0 W g):=by
 have hR:=hA.stop hi q.at_ how ht hh;have hg:W.grownBy ((W.setCell ⟨g,i*5+3,none⟩ (.int .i64 q.at_)).setCell ⟨g,i*5+4,none⟩ (.int .i64 how)) (some g):=grown_trans (grown_setc W ⟨g,i*5+3,none⟩ _) (grown_setc _ ⟨g,i*5+4,none⟩ _);have hl:=hA.runs.len;rw[List.length_map]at hl;obtain⟨r,hr⟩:∃ r,q.runs[i]? = some r:=⟨q.runs[i]'(by omega),List.getElem?_eq_getElem _⟩;obtain⟨d0,d1,d2,d3,d4⟩:=cells_Run hA.runs.slAt (x:=toRun X.x r) (by rw[List.getElem?_map,hr];rfl);rw[Nat.zero_add]at d0 d1 d2 d3 d4;obtain⟨cur,_,hb,_⟩:=own_open hA.runs;have hfz:∀ j,W.frozen? ⟨g,j,none⟩=false:=fun j=>frozen_of_row W g _ cur _ hb;have z3:=hfz (i*5+3);have z4:=hfz (i*5+4);have b6:=(hA.blk 6 _ rfl).1;have b7:=(hA.blk 7 _ rfl).1;have hne:X.f≠g:=fun e=>(hA.ap g rfl).1 e.symm;have h1:(0:Int)≤(i:Int):=by omega
 have h2:(i:Int)<(n:Int):=by omega
 obtain⟨t,htq⟩:∃ t,q.at_=t:=⟨_,rfl⟩;obtain⟨Z,hZ⟩:∃ Z,StAnsQ9 X (.slice (some ⟨g,0,none⟩) n cap) { q with runs:=stopAt q.at_ how q.runs i } w0 W g=Z:=⟨_,rfl⟩;have R:∀ W9:World,W9=(W.setCell ⟨g,i*5+3,none⟩ (.int .i64 q.at_)).setCell ⟨g,i*5+4,none⟩ (.int .i64 how)→Z (.returned (.tuple #[])) W9.drew:=fun W9 e=>by
  rw[← hZ,e];exact⟨rfl,hR.below ((Below.refl _ _).drew),grown_trans hg (grown_drew _ _)⟩
 rw[hZ];rw[htq]at b6 R;obtain⟨u3,hu3⟩:∃ u,(toRun X.x r).to_=u:=⟨_,rfl⟩;obtain⟨u4,hu4⟩:∃ u,(toRun X.x r).end_=u:=⟨_,rfl⟩;rw[hu3]at d3;rw[hu4]at d4;clear hfz hR d0 d1 d2;obtain⟨hAH,hgH,hlH,hrH,hbH,hZH,RH,htqH,hu3H,hu4H⟩:=hq2 hA (hqc hg hl hr hb hZ R htq hu3 (Lib.hid hu4));clear hA hg hl hr hb hZ R htq hu3 hu4;go_enter Tryz.func128,Tryz.ntmps128;go_wp2_with fail
 go_region
 have R9:=RH.out _ rfl;clear RH;have R9H:=Lib.hid R9;clear R9
 go_end0
 exact R9H.out
def GoAns (R:List RR) (k:Nat) (W:World) (e:Ending) (w':World):Prop :=
 ∃ (A:Option Addr) (n c:Nat),e = .returned (.slice A n c)∧Own RInt 3 w' W.heap.size (.slice A n c) (nz (gix R k))∧n≤R.length∧Below W.heap.size W w'
def GoRel (R:List RR) (k n:Nat) (W:World) (v i:Value) (wr:World):Prop :=
 ∃ (j m c:Nat) (A:Option Addr),j≤n∧i = .int .i64 j∧v = .slice A m c∧m≤j∧Own RInt 3 wr W.heap.size v (nz ((List.range j).filter (goI R k)))∧Below W.heap.size W wr
theorem elem_IntR9:Elem Tryz.prog 3 RInt.size 8:=elem_of (z:=.int .i64 0) (by kernel_rfl) (by decide)
theorem slAt_newJ {α:Type} {R:Rd α} (w:World) (e:TypeId) (x:α) (hok:R.ok w x) (b:Nat) (hb:w.heap.size=b):SlAt R (w.alloc (.cells (R.vals x).toArray e)) (some ⟨b,0,none⟩) 1 [x]:=by
 subst hb;exact slAt_new w e x hok
theorem going_any {X:RX} {rv:Value} {q:QS} {w0 W:World} (hA:QA X rv q w0 W) (hS:RS X w0) (hN:RN X q) {k:Nat} (hk:k<X.x.works.l.length) :
  Calls Tryz.prog 126 #[.pointer (some ⟨X.f,0,none⟩),.string (woOf X.x k).id_] W (GoAns q.runs k W):=by
 obtain⟨A,cap,hrv,_⟩:=hA.row;obtain⟨n,hn⟩:∃ n,q.runs.length=n:=⟨_,rfl⟩;rw[hn]at hrv;have b7:=(hA.blk 7 _ rfl).1;rw[hrv]at b7;have hsl:SlAt RRun W A n (q.runs.map (toRun X.x)):=by
  have:=hA.runs;rw[hrv]at this;exact this.slAt
 have hn4:n≤4000:=by rw[← hn];exact hN.len
 have hfl:=hA.lt.1;have hst:GoRel q.runs k n W (.slice none 0 0) (.int .i64 0) W:=⟨0,0,0,none,Nat.zero_le _,rfl,rfl,Nat.le_refl _,Own.nil _ _,Below.refl _ _⟩;obtain⟨kid,hkid⟩:∃ s,(woOf X.x k).id_=s:=⟨_,rfl⟩;obtain⟨Z,hZ⟩:∃ Z,GoAns q.runs k W=Z:=⟨_,rfl⟩;rw[hkid,hZ];obtain⟨hAH,hSH,hNH,hkH,hrvH,hnH,hslH,hstH,hkidH,hZH⟩:=hq2 hA (hqc hS hN hk hrv hn hsl hst hkid (Lib.hid hZ));clear hA hS hN hk hrv hn hsl hst hkid hZ;go_enter Tryz.func126,Tryz.ntmps126;go_wp2_with fail;clear b7
 go_loopw [5,13] (fun v i wr=>GoRel q.runs k n W v i wr) (fun _ i _=>n-(intOf i).toNat)
 case atStart=>exact hstH.out
 case round =>
  clear hstH;obtain⟨j,m,c,A1,hj,rfl,rfl,hm,hown,hb⟩:=hrel;have hbs:=hb.size
  by_cases hlt:j<n
  ·have hslr:=hslH.out.below hb;obtain⟨bl,ol,hA8,_⟩:=hslr.2.1 (by omega);subst hA8;obtain⟨r,hr⟩:∃ r,q.runs[j]? = some r:=⟨q.runs[j]'(by have:=hnH.out;omega),List.getElem?_eq_getElem _⟩;obtain⟨e0,e1,e2,e3,e4⟩:=cells_Run hslr (x:=toRun X.x r) (by rw[List.getElem?_map,hr];rfl);have hid:=hNH.out.idEq hSH.out (List.mem_of_getElem? hr) hkH.out;rw[hkidH.out]at hid;have hgi:goI q.runs k j=(going r&&r.work==k):=goI_get hr;have hnx:nz ((List.range (j+1)).filter (goI q.runs k))=nz ((List.range j).filter (goI q.runs k))++(if goI q.runs k j=true then [(j:Int)] else []):=by
    unfold nz;rw[List.range_succ,List.filter_append,List.map_append]
    congr 1
    by_cases h:goI q.runs k j=true
    ·rw[if_pos h,List.filter_cons_of_pos h];rfl
    ·rw[if_neg h,List.filter_cons_of_neg h];rfl
   obtain⟨l3,hl3⟩:∃ l3,nz ((List.range j).filter (goI q.runs k))=l3:=⟨_,rfl⟩;rw[hl3]at hown hnx;have hl3n:l3.length=m:=hown.len;have hend:(toRun X.x r).end_=r.end_:=rfl;have hidr:(toRun X.x r).id_=(woOf X.x r.work).id_:=rfl;rw[hend]at e4;rw[hidr]at e0;obtain⟨rid,hrid⟩:∃ s,(woOf X.x r.work).id_=s:=⟨_,rfl⟩;obtain⟨rwk,hrwk⟩:∃ s,(toRun X.x r).worker=s:=⟨_,rfl⟩;obtain⟨rfm,hrfm⟩:∃ s,(toRun X.x r).from_=s:=⟨_,rfl⟩;obtain⟨rto,hrto⟩:∃ s,(toRun X.x r).to_=s:=⟨_,rfl⟩;obtain⟨ren,hren⟩:∃ s,r.end_=s:=⟨_,rfl⟩;rw[hrid]at e0 hid;rw[hrwk]at e1;rw[hrfm]at e2;rw[hrto]at e3;rw[hren]at e4;have hba:=hb.alloc hbs (.cells #[.string rid,.string rwk,.int .i64 rfm,.int .i64 rto,.int .i64 ren] 34);have hown5:=hown.alloc (.cells #[.string rid,.string rwk,.int .i64 rfm,.int .i64 rto,.int .i64 ren] 34);have hnw:=slAt_newJ (R:=RInt) (wr.alloc (.cells #[.string rid,.string rwk,.int .i64 rfm,.int .i64 rto,.int .i64 ren] 34)) 3 (j:Int) (by show I64 (j:Int);unfold I64;omega) (wr.heap.size+1) (by simp);have hgo:going r=(ren==0):=by unfold going;rw[hren]
   have hbe:(rid.toList==kid.toList)=decide (rid=kid):=beq_data _ _;have hno:goI q.runs k j=false→GoRel q.runs k n W (.slice A1 m c) (.int .i64 ((j:Int)+1)) (wr.alloc (.cells #[.string rid,.string rwk,.int .i64 rfm,.int .i64 rto,.int .i64 ren] 34)):=fun h =>
    ⟨j+1,m,c,A1,hlt,by go_num,rfl,by omega,by rw[hnx,h,if_neg (by decide),List.append_nil];exact hown5,hba⟩
   rw[hgi,hgo]at hno;rw[hgi,hgo]at hnx;have hsz5:=hba.size;clear hown hgi hgo hend hidr hrid hrwk hrfm hrto hren
   by_cases hA:rid=kid
   ·rw[decide_eq_true hA]at hbe;have hw:(r.work==k)=true:=by rw[beq_iff_eq];exact hid.1 hA
    rw[hw,Bool.and_true]at hno hnx
    by_cases hB:ren=0
    ·subst hB;rw[if_pos (by decide)]at hnx;clear hno hw hid hA;obtain⟨hbH,hrH,hnxH,hl3H,hl3nH,hbaH,hown5H,hnwH,hsz5H,hslrH⟩:=hq2 hb (hqc hr hnx hl3 hl3n hba hown5 hnw hsz5 (Lib.hid hslr));clear hb hr hnx hl3 hl3n hba hown5 hnw hsz5 hslr;go_wp2_with (at_builtin;go_loud (refine wpList_app rfl (.tmp 27) (.tmp 29) 56 rfl Tryz.underlying56 elem_IntR9 (by decide) rfl (hown5H.out.alloc _) (some ⟨wr.heap.size+1,0,none⟩) 1 1 [(j:Int)] rfl hnwH.out ?nn ?ok ?c1 ?c2 ?c3 (m+1) ?c4 ?_))
     case nn=>intro h;cases h
     case ok=>exact fun _ _ _ _ h=>h
     case c1=>rw[hl3nH.out];simp[maxLen] <;> omega
     case c2=>rw[hl3nH.out];omega
     case c3=>have:=hsz5H.out;simp at this ⊢;omega
     case c4=>rw[hl3nH.out]
     intro A' c' w9 hown9 hg9 hat9 hb9;have R:GoRel q.runs k n W (.slice A' (m+1) c') (.int .i64 ((j:Int)+1)) w9:=⟨j+1,m+1,c',A',hlt,by go_num,rfl,by omega,by rw[hnxH.out];exact hown9,(hbaH.out.alloc hsz5H.out _).trans hb9⟩;clear hg9 hat9 hb9 hown9;have RH:=Lib.hid R;clear R;go_wp2;refine⟨?rel,?measure⟩
     case measure=>(simp[intOf];omega)
     case rel=>first | exact RH.out | exact⟨rfl,RH.out⟩
    ·have dB:(ren==0)=false:=by simpa using hB
     have R:=hno dB;clear hno hnx hw hid hA hB;obtain⟨RH,hbH,hrH,hl3H,hl3nH,hbaH,hown5H,hnwH,hsz5H,hslrH⟩:=hq2 R (hqc hb hr hl3 hl3n hba hown5 hnw hsz5 (Lib.hid hslr));clear R hb hr hl3 hl3n hba hown5 hnw hsz5 hslr;go_wp2;refine⟨?rel,?measure⟩
     case measure=>(simp[intOf];omega)
     case rel=>first | exact RH.out | exact⟨rfl,RH.out⟩
   ·rw[decide_eq_false hA]at hbe;have hw:(r.work==k)=false:=by rw[beq_eq_false_iff_ne];exact fun h=>hA (hid.2 h)
    have R:=hno (by rw[hw,Bool.and_false]);clear hno hnx hw hid hA;obtain⟨RH,hbH,hrH,hl3H,hl3nH,hbaH,hown5H,hnwH,hsz5H,hslrH⟩:=hq2 R (hqc hb hr hl3 hl3n hba hown5 hnw hsz5 (Lib.hid hslr));clear R hb hr hl3 hl3n hba hown5 hnw hsz5 hslr;go_wp2;refine⟨?rel,?measure⟩
    case measure=>(simp[intOf];omega)
    case rel=>first | exact RH.out | exact⟨rfl,RH.out⟩
  ·obtain rfl:j=n:=by omega
   have R:Z (.returned (.slice A1 m c)) wr:=by
    rw[← hZH.out];refine⟨A1,m,c,rfl,?_,by have:=hnH.out;omega,hb⟩;unfold gix;rw[hnH.out];exact hown
   clear hown;obtain⟨RH,hbH⟩:=hq2 R (Lib.hid hb);clear R hb;go_wp2;exact RH.out
end Go.Proofs.YtbnkoefljcekbaaGreatDoor.C9
namespace Go.Proofs.YtbnkoefljcekbaaGreatDoor.C9
open Go.ChangeShapes Go.WideShapes Go.Deep Go.RowKit Go.Maps
open Go.Shelf Go.Lib
def leq (x y:Loss):Bool:=decide (x.worker=y.worker)&&decide (x.at_=y.at_)
def encL (x:Loss):List Value:=[.string x.worker,.int .i64 x.at_]
theorem eqLoss:EqlAt Tryz.prog 71 (fun x=>.agg (encL x).toArray) leq:=by
 refine⟨fun x y w=>?_,GuardAt.agg _ (by kernel_rfl)⟩;have u9:=Tryz.underlying9;have u3:=Tryz.underlying3;have a9:=Tryz.isAgg9;have z9:=Tryz.sizeOf9;have a3:=Tryz.isAgg3;have z3:=Tryz.sizeOf3;have hS:Tryz.prog.underlying 71 = some (.struct (Tryz.prog.fieldsOf 71)):=by kernel_rfl
 have hp:Tryz.prog.stoodInHeld 71 = false:=by kernel_rfl
 simp only[encL];rw[run_eql_struct,show (10000:Nat)=9999+1 from rfl,run_equalIn_agg w 9999 71 _ _ hS hp];simp only[Program.fieldsOf,Tryz.underlying71];go_simp;unfold leq;have hne:∀ a b:ByteArray,¬ a=b→¬ a.toList=b.toList:=fun a b h e=>h (by
  have:=beq_data a b;rw[e,beq_self_eq_true]at this;exact of_decide_eq_true this.symm)
 by_cases h1:x.worker=y.worker
 ·by_cases h2:x.at_=y.at_
  ·simp[h1,h2]
  ·simp[h1,h2]
 ·by_cases h2:x.at_=y.at_
  ·simp[h1,h2,hne _ _ h1]
  ·simp[h1,h2,hne _ _ h1]
theorem idxL_empty (A:Option Addr) (c:Nat) (p:Loss) (w:World) :
  Calls Tryz.prog 212 #[.slice A 0 c,.agg #[.string p.worker,.int .i64 p.at_]] w fun e w'=>e = .returned (.int .i64 (-1))∧Below w.heap.size w w':=by
 have hba:=(Below.refl w.heap.size w).alloc (Nat.le_refl _) (.cells #[.string p.worker,.int .i64 p.at_] 71);obtain⟨W,hW⟩:∃ X,w.alloc (.cells #[.string p.worker,.int .i64 p.at_] 71)=X:=⟨_,rfl⟩;rw[hW]at hba;obtain⟨hbaH,hWH⟩:=hq2 hba (Lib.hid hW);clear hba hW;go_enter Tryz.func212,Tryz.ntmps212;go_wp2_with fail;rw[hWH.out]
 go_loopw [8] (fun i wr=>i = .int .i64 0∧W=wr) (fun i _=>0)
 case atStart=>exact⟨rfl,rfl⟩
 case round =>
  obtain⟨rfl,rfl⟩:=hrel;go_wp2;go_ret;exact⟨rfl,hbaH.out⟩
theorem contL_any (A:Option Addr) (n c:Nat) (l:List Loss) (p:Loss) (w:World) (hl:SlAt RLoss w A n l) (hn:n≤9223372036854775807) :
  Calls Tryz.prog 177 #[.slice A n c,.agg #[.string p.worker,.int .i64 p.at_]] w fun e w'=>e = .returned (.bool (l.any (leq p)))∧Below w.heap.size w w':=by
 by_cases h0:n=0
 ·subst h0;obtain rfl:l = []:=List.eq_nil_of_length_eq_zero hl.1;have hba:=(Below.refl w.heap.size w).alloc (Nat.le_refl _) (.cells #[.string p.worker,.int .i64 p.at_] 71);obtain⟨hbaH,hlH⟩:=hq2 hba (Lib.hid hl);clear hba hl;go_enter Tryz.func177,Tryz.ntmps177;go_wp2_with fail;refine(idxL_empty A c p _).mono ?_;rintro e w1 ⟨rfl,hw1⟩;have hb1:=hbaH.out.trans (hw1.mono hbaH.out.size);have hb1H:=Lib.hid hb1;clear hb1;go_wp2;go_ret;exact⟨rfl,hb1H.out⟩
 ·obtain⟨b,off,rfl,hc⟩:=hl.2.1 (by omega);have h:=AnyQ.slices_Contains Tryz.containsL 2 Tryz.isAgg71 Tryz.sizeOf71 encL (fun _=>rfl) leq eqLoss b off n c l p w (by rw[hl.1];exact Nat.le_refl _) hn (fun j hj i v hi=>by
   rw[getElem!_pos l j hj]at hi;exact hc j _ (List.getElem?_eq_getElem hj) i v hi)
  rw[List.take_of_length_le (by rw[hl.1];exact Nat.le_refl _)]at h;exact h
theorem any_leq (l:List Loss) (p:Loss):l.any (leq p)=decide (p∈l):=by
 rw[Bool.eq_iff_iff,List.any_eq_true,decide_eq_true_eq]
 constructor
 ·rintro⟨x,hx,e⟩;unfold leq at e;rw[Bool.and_eq_true,decide_eq_true_eq,decide_eq_true_eq]at e;obtain⟨a,b⟩:=p;obtain⟨c,d⟩:=x;simp only at e;rw[e.1,e.2];exact hx
 ·intro h;exact⟨p,h,by unfold leq;simp⟩
/-! ### the least moment behind one -/
def LkC (W:World) (sb:Nat) (t:Int) (o:Option Int):Prop:=Blk W sb [.int .i64 t,.int .i64 (o.getD 0),.bool o.isSome]
def LkAns (sb:Nat) (t:Int) (o:Option Int) (W:World) (e:Ending) (w':World):Prop:=e = .returned (.tuple #[])∧LkC w' sb t o∧W.grownBy w' (some sb)
theorem look_any (W:World) (sb:Nat) (t n:Int) (o:Option Int) (h:LkC W sb t o) :
  Calls Tryz.prog 133 #[.pointer (some ⟨sb,0,none⟩),.int .i64 n] W (LkAns sb t (lookO t o n) W):=by
 have c0:=(h 0 _ rfl).1;have c1:=(h 1 _ rfl).1;have c2:=(h 2 _ rfl).1;have z1:=(h 1 _ rfl).2;have z2:=(h 2 _ rfl).2;have hput:∀ Z:Ending→World→Prop,LkAns sb t (some n) W=Z→Z (.returned (.tuple #[])) ((W.setCell ⟨sb,1,none⟩ (.int .i64 n)).setCell ⟨sb,2,none⟩ (.bool true)):=fun Z hZ=>by
  rw[← hZ];exact⟨rfl,(h.set (k:=1) (by simp) _).set (k:=2) (by simp) _,grown_trans (grown_setc W ⟨sb,1,none⟩ _) (grown_setc _ ⟨sb,2,none⟩ _)⟩
 have hstay:∀ Z:Ending→World→Prop,LkAns sb t o W=Z→Z (.returned (.tuple #[])) W:=fun Z hZ=>by
  rw[← hZ];exact⟨rfl,h,World.grownBy.refl _ _⟩
 by_cases h1:t<n
 ·have d1:decide (n>t)=true:=decide_eq_true h1
  cases o with
  | none =>
   have e:lookO t none n=some n:=by unfold lookO;rw[if_pos h1]
   rw[e];obtain⟨Z,hZ⟩:∃ Z,LkAns sb t (some n) W=Z:=⟨_,rfl⟩;have R:=hput Z hZ;rw[hZ];simp only[Option.getD_none,Option.isSome_none]at c1 c2;clear hput hstay e h1;obtain⟨RH,hZH,hH⟩:=hq2 R (hq2 hZ (Lib.hid h));clear R hZ h;go_enter Tryz.func133,Tryz.ntmps133;go_wp2
   go_end0
   exact RH.out
  | some m =>
   simp only[Option.getD_some,Option.isSome_some]at c1 c2
   by_cases h2:n<m
   ·have d2:decide (n<m)=true:=decide_eq_true h2;have e:lookO t (some m) n=some n:=by unfold lookO;rw[if_pos h1];simp only;rw[if_pos h2]
    rw[e];obtain⟨Z,hZ⟩:∃ Z,LkAns sb t (some n) W=Z:=⟨_,rfl⟩;have R:=hput Z hZ;rw[hZ];clear hput hstay e h1 h2;obtain⟨RH,hZH,hH⟩:=hq2 R (hq2 hZ (Lib.hid h));clear R hZ h;go_enter Tryz.func133,Tryz.ntmps133;go_wp2
    go_end0
    exact RH.out
   ·have d2:decide (n<m)=false:=decide_eq_false h2;have e:lookO t (some m) n=some m:=by unfold lookO;rw[if_pos h1];simp only;rw[if_neg h2]
    rw[e];obtain⟨Z,hZ⟩:∃ Z,LkAns sb t (some m) W=Z:=⟨_,rfl⟩;have R:=hstay Z hZ;rw[hZ];clear hput hstay e h1 h2;obtain⟨RH,hZH,hH⟩:=hq2 R (hq2 hZ (Lib.hid h));clear R hZ h;go_enter Tryz.func133,Tryz.ntmps133;go_wp2
    go_end0
    exact RH.out
 ·have d1:decide (n>t)=false:=decide_eq_false h1;have e:lookO t o n=o:=by unfold lookO;rw[if_neg h1]
  rw[e];obtain⟨Z,hZ⟩:∃ Z,LkAns sb t o W=Z:=⟨_,rfl⟩;have R:=hstay Z hZ;rw[hZ];clear hput hstay e h1;obtain⟨RH,hZH,hH⟩:=hq2 R (hq2 hZ (Lib.hid h));clear R hZ h;go_enter Tryz.func133,Tryz.ntmps133;go_wp2
  go_end0
  exact RH.out
end Go.Proofs.YtbnkoefljcekbaaGreatDoor.C9
namespace Go.Proofs.YtbnkoefljcekbaaGreatDoor.C9
open Go.ChangeShapes Go.WideShapes Go.Deep Go.RowKit Go.Maps
section
variable {X:RX} {q:QS} {w0:World}
theorem RS.wk (h:RS X w0) {k:Nat} {y:Worker} (hy:X.x.workers.l[k]? = some y):X.F.wfrom k=y.from_∧X.F.wto k=y.to_∧X.F.slots k=y.slots∧X.F.speed k=y.speed∧(∀ i,X.F.fit k i=fitF (woOf X.x i).needs.l y.has.l)∧∀ t,X.F.loss k t=decide ((⟨y.name,t⟩:Loss)∈X.x.lost.l):=by
 obtain⟨o,e,_⟩:=h.F;rw[e];simp only[fpOf];rw[wkOf_get hy];exact⟨rfl,rfl,rfl,rfl,fun _=>rfl,fun _=>rfl⟩
theorem RS.ends (h:RS X w0) {k i:Nat} {y:Worker} {z:Work} (hy:X.x.workers.l[k]? = some y) (hz:X.x.works.l[i]? = some z) (t:Int) :
  X.F.endAt k i t=if (rendsF y z.size t).2=true then some (rendsF y z.size t).1 else none:=by
 obtain⟨o,e,_⟩:=h.F;rw[e];simp only[fpOf];rw[wkOf_get hy,woOf_get hz,rends_ends]
 cases h:(rendsF y z.size t).2 <;> simp[h]
theorem RS.secsV (h:RS X w0) {k i:Nat} {y:Worker} {z:Work} (hy:X.x.workers.l[k]? = some y) (hz:X.x.works.l[i]? = some z):X.F.secs k i=secsF y z.size:=by
 obtain⟨o,e,_⟩:=h.F;rw[e];simp only[fpOf];rw[wkOf_get hy,woOf_get hz]
end
theorem keep14 {W W':World} {W1:World} {a0 a1 a2 a3 a4 a5 a6 a7 a8 a9 a10 a11 a12:Addr} {v0 v1 v2 v3 v4 v5 v6 v7 v8 v9 v10 v11 v12:Value} (hb:Below W.heap.size W W') (h:Below W1.heap.size W1 W∧W.cell? a0=some v0∧W.cell? a1=some v1∧W.cell? a2=some v2∧W.cell? a3=some v3∧W.cell? a4=some v4∧W.cell? a5=some v5∧W.cell? a6=some v6∧W.cell? a7=some v7∧W.cell? a8=some v8∧W.cell? a9=some v9∧W.cell? a10=some v10∧W.cell? a11=some v11∧W.cell? a12=some v12) :
  Below W1.heap.size W1 W'∧W'.cell? a0=some v0∧W'.cell? a1=some v1∧W'.cell? a2=some v2∧W'.cell? a3=some v3∧W'.cell? a4=some v4∧W'.cell? a5=some v5∧W'.cell? a6=some v6∧W'.cell? a7=some v7∧W'.cell? a8=some v8∧W'.cell? a9=some v9∧W'.cell? a10=some v10∧W'.cell? a11=some v11∧W'.cell? a12=some v12 :=
 ⟨h.1.trans (hb.mono h.1.size),keepC hb h.2.1,keepC hb h.2.2.1,keepC hb h.2.2.2.1,keepC hb h.2.2.2.2.1,keepC hb h.2.2.2.2.2.1,keepC hb h.2.2.2.2.2.2.1,keepC hb h.2.2.2.2.2.2.2.1,keepC hb h.2.2.2.2.2.2.2.2.1,keepC hb h.2.2.2.2.2.2.2.2.2.1,keepC hb h.2.2.2.2.2.2.2.2.2.2.1,keepC hb h.2.2.2.2.2.2.2.2.2.2.2.1,keepC hb h.2.2.2.2.2.2.2.2.2.2.2.2.1,keepC hb h.2.2.2.2.2.2.2.2.2.2.2.2.2⟩
def EnAns (F:FP) (r:RR) (W:World) (e:Ending) (w':World):Prop:=∃ (a:Int) (b:Bool),e = .returned (.tuple #[.int .i64 a,.bool b])∧(F.endAt r.worker r.work r.from_=if b=true then some a else none)∧Below W.heap.size W w'
abbrev runV (x:Farm) (r:RR):Value:=.agg #[.string (toRun x r).id_,.string (toRun x r).worker,.int .i64 r.from_,.int .i64 r.to_,.int .i64 r.end_]
theorem rend_any {X:RX} {rv:Value} {q:QS} {w0 W:World} {r:RR} (hA:QA X rv q w0 W) (hS:RS X w0) (hkW:r.worker<X.F.nW) (hiX:r.work<X.F.nX) (hf0:0≤r.from_) (hf1:r.from_≤1000000000) :
  Calls Tryz.prog 127 #[.pointer (some ⟨X.f,0,none⟩),runV X.x r] W (EnAns X.F r W):=by
 unfold runV;have hnX:=hS.nX;have hnW:=hS.nW;have hkl:r.worker<X.x.workers.l.length:=by rw[← hnW];exact hkW
 have hil:r.work<X.x.works.l.length:=by rw[← hnX];exact hiX
 have hwn:X.x.workers.l.length=X.x.workers.n:=hS.fx.1.1.1;have hxn:X.x.works.l.length=X.x.works.n:=hS.fx.2.1.1.1;have hM:X.x.workers.n≤1000:=by have:=hS.ok.wkn;omega
 have hN2:X.x.works.n≤1000:=by have:=hS.ok.wo.len;omega
 obtain⟨y,hy⟩:∃ y,X.x.workers.l[r.worker]? = some y:=⟨X.x.workers.l[r.worker]'(by omega),List.getElem?_eq_getElem _⟩;obtain⟨z,hz⟩:∃ z,X.x.works.l[r.work]? = some z:=⟨X.x.works.l[r.work]'(by omega),List.getElem?_eq_getElem _⟩;obtain⟨by_,oy,hYA,_⟩:=(hS.fx.1.1).2.1 (by omega);obtain⟨bx,ox,hXA,_⟩:=(hS.fx.2.1.1).2.1 (by omega);obtain⟨⟨g1,g2⟩,_,_,gsp⟩:=worker_good (hS.ok.wk y (List.mem_of_getElem? hy));obtain⟨z0,z1⟩:=hS.ok.wo.size z (List.mem_of_getElem? hz);have hyn:(toRun X.x r).worker=y.name:=by show (wkOf X.x r.worker).name=_;rw[wkOf_get hy]
 have hzn:(toRun X.x r).id_=z.id_:=by show (woOf X.x r.work).id_=_;rw[woOf_get hz]
 have hwk:wkF X.x.workers.l y.name=((r.worker:Nat):Int):=by
  have:=wk_ix hS.ok hkl;rw[wkOf_get hy]at this;unfold wkF;rw[if_pos this.2,this.1]
 have hwo:woF X.x.works.l z.id_=((r.work:Nat):Int):=by
  have:=wo_ix hS.ok hil;rw[woOf_get hz]at this;unfold woF;rw[if_pos this.2,this.1]
 have hev:=hS.ends hy hz r.from_;obtain⟨a,b,hab⟩:∃ a b,rendsF y z.size r.from_=(a,b):=⟨_,_,rfl⟩;rw[hab]at hev;obtain⟨Z,hZ⟩:∃ Z,EnAns X.F r W=Z:=⟨_,rfl⟩;have RZ:∀ W',Below W.heap.size W W'→Z (.returned (.tuple #[.int .i64 a,.bool b])) W':=fun W' h=>by rw[← hZ];exact⟨a,b,rfl,hev,h⟩
 rw[hZ,hyn,hzn];clear hev;have hba:=(Below.refl W.heap.size W).alloc (Nat.le_refl _) (.cells #[.string z.id_,.string y.name,.int .i64 r.from_,.int .i64 r.to_,.int .i64 r.end_] 34);obtain⟨W1,hW1⟩:∃ Y,W.alloc (.cells #[.string z.id_,.string y.name,.int .i64 r.from_,.int .i64 r.to_,.int .i64 r.end_] 34)=Y:=⟨_,rfl⟩;obtain⟨rb,hrb⟩:∃ b,W.heap.size=b:=⟨_,rfl⟩;have g0':W1.cell? ⟨rb,0,none⟩=some (.string z.id_):=by rw[← hW1,← hrb];exact cell_new _ _ _ 0
 have g1':W1.cell? ⟨rb,1,none⟩=some (.string y.name):=by rw[← hW1,← hrb];exact cell_new _ _ _ 1
 have g2':W1.cell? ⟨rb,2,none⟩=some (.int .i64 r.from_):=by rw[← hW1,← hrb];exact cell_new _ _ _ 2
 rw[hW1]at hba;have hA1:=hA.below hba;have hws1:=hS.fx.1.1.below hA1.bel;have hxs1:=hS.fx.2.1.1.below hA1.bel;have hyok:=RWorker.mono _ _ _ hA1.bel (hS.fx.1.1.2.2 y (List.mem_of_getElem? hy));rw[hYA]at hws1;rw[hXA]at hxs1;obtain⟨d0,d1,d2,d3,d4,d5,d6⟩:=cells_Worker hws1 hy;have e2:=(cells_Work hxs1 hz).2.2.1;have c0:=(hA1.blk 0 _ rfl).1;have c1':=(hA1.blk 1 _ rfl).1;rw[hYA]at c0;rw[hXA]at c1';obtain⟨iw,hiw⟩:∃ q,r.work=q:=⟨_,rfl⟩;obtain⟨ik,hik⟩:∃ q,r.worker=q:=⟨_,rfl⟩;obtain⟨ifr,hifr⟩:∃ q,r.from_=q:=⟨_,rfl⟩;rw[hifr]at g2' hf0 hf1 hab hW1;rw[hiw]at hil hiX e2 hwo;rw[hik]at hkl hkW d0 d1 d2 d3 d4 d5 d6 hwk;rw[hwn]at hkl;rw[hxn]at hil;rw[hifr];obtain⟨ito,hito⟩:∃ q,r.to_=q:=⟨_,rfl⟩;obtain⟨ien,hien⟩:∃ q,r.end_=q:=⟨_,rfl⟩;rw[hito,hien]at hW1 ⊢;have hH0:(fun w':World=>Below W1.heap.size W1 w'∧w'.cell? ⟨rb,0,none⟩=some (.string z.id_)∧w'.cell? ⟨rb,1,none⟩=some (.string y.name)∧w'.cell? ⟨rb,2,none⟩=some (.int .i64 ifr)∧w'.cell? ⟨X.f,0,none⟩=some (.slice (some ⟨by_,oy,none⟩) X.x.workers.n X.x.workers.cap)∧w'.cell? ⟨X.f,1,none⟩=some (.slice (some ⟨bx,ox,none⟩) X.x.works.n X.x.works.cap)∧w'.cell? ⟨bx,ox+iw*4+2,none⟩=some (.int .i64 z.size)∧w'.cell? ⟨by_,oy+ik*7,none⟩=some (.string y.name)∧w'.cell? ⟨by_,oy+ik*7+1,none⟩=some (.slice y.has.A y.has.n y.has.cap)∧w'.cell? ⟨by_,oy+ik*7+2,none⟩=some (.int .i64 y.slots)∧w'.cell? ⟨by_,oy+ik*7+3,none⟩=some (.int .i64 y.speed)∧w'.cell? ⟨by_,oy+ik*7+4,none⟩=some (.int .i64 y.from_)∧w'.cell? ⟨by_,oy+ik*7+5,none⟩=some (.int .i64 y.to_)∧w'.cell? ⟨by_,oy+ik*7+6,none⟩=some (.slice y.stands.A y.stands.n y.stands.cap)) W1:=⟨Below.refl _ _,g0',g1',g2',c0,c1',e2,d0,d1,d2,d3,d4,d5,d6⟩
 clear d0 d1 d2 d3 d4 d5 d6 e2 c0 c1' g0' g1' g2';obtain⟨hAH,hSH,hnXH,hnWH,hwnH,hxnH,hyH,hzH,hYAH,hXAH,hynH,hznH,hwkH,hwoH,habH,hZH,RZH,hbaH,hW1H,hrbH,hA1H,hws1H,hxs1H,hyokH,hiwH,hikH,hifrH,hitoH,hienH,hMH,hN2H,gspH⟩:=hq2 hA (hq2 hS (hq2 hnX (hqb hnW hwn hxn hy (hqc hz hYA hXA hyn hzn hwk hwo hab (hqc hZ RZ hba hW1 hrb hA1 hws1 hxs1 (hqc hyok hiw hik hifr hito hien hM hN2 (Lib.hid gsp)))))));clear hA hS hnX hnW hwn hxn hy hz hYA hXA hyn hzn hwk hwo hab hZ RZ hba hW1 hrb hA1 hws1 hxs1 hyok hiw hik hifr hito hien hM hN2 gsp;go_enter Tryz.func127,Tryz.ntmps127;go_wp2_with fail;rw[hW1H.out,hrbH.out];refine wp_region_held_drew (S:=fun w':World=>Below W1.heap.size W1 w'∧w'.cell? ⟨rb,0,none⟩=some (.string z.id_)∧w'.cell? ⟨rb,1,none⟩=some (.string y.name)∧w'.cell? ⟨rb,2,none⟩=some (.int .i64 ifr)∧w'.cell? ⟨X.f,0,none⟩=some (.slice (some ⟨by_,oy,none⟩) X.x.workers.n X.x.workers.cap)∧w'.cell? ⟨X.f,1,none⟩=some (.slice (some ⟨bx,ox,none⟩) X.x.works.n X.x.works.cap)∧w'.cell? ⟨bx,ox+iw*4+2,none⟩=some (.int .i64 z.size)∧w'.cell? ⟨by_,oy+ik*7,none⟩=some (.string y.name)∧w'.cell? ⟨by_,oy+ik*7+1,none⟩=some (.slice y.has.A y.has.n y.has.cap)∧w'.cell? ⟨by_,oy+ik*7+2,none⟩=some (.int .i64 y.slots)∧w'.cell? ⟨by_,oy+ik*7+3,none⟩=some (.int .i64 y.speed)∧w'.cell? ⟨by_,oy+ik*7+4,none⟩=some (.int .i64 y.from_)∧w'.cell? ⟨by_,oy+ik*7+5,none⟩=some (.int .i64 y.to_)∧w'.cell? ⟨by_,oy+ik*7+6,none⟩=some (.slice y.stands.A y.stands.n y.stands.cap)) (by kernel_rfl) (keep14 (Below.refl _ _).drew hH0) (fun hHeld=>?_)
 refine tkS [(0,6),(1,7),(2,8),(3,9),(4,10),(5,11),(6,12),(7,13),(8,14),(9,15),(10,16),(11,17)] ?_;(iterate 12 (refine tkL ?_ ?_ ?_;rotate_left;(· intro w hSw;(try dsimp only at hSw);go_simp;(try with_reducible rfl));(try simp only[Act.put,tkA,tkB,tkC])));refine tkE ?_;refine tkS [(15,21),(16,22),(17,23),(18,24),(19,25),(20,26),(21,27),(22,28),(23,29),(24,30),(25,31),(26,32)] ?_;(iterate 12 (refine tkL ?_ ?_ ?_;rotate_left;(· intro w hSw;(try dsimp only at hSw);go_simp;(try with_reducible rfl));(try simp only[Act.put,tkA,tkB,tkC])));refine tkE ?_;refine tkS [(31,37),(32,38)] ?_;(iterate 2 (refine tkL ?_ ?_ ?_;rotate_left;(· intro w hSw;(try dsimp only at hSw);go_simp;(try with_reducible rfl));(try simp only[Act.put,tkA,tkB,tkC])));refine tkE ?_;refine wpAnyH_ready (rs:=[12]) (by kernel_rfl) (by simp) ?_;refine AllReadyH.cons (i:=12) rfl (fun K hK=>?_) AllReadyH.nil;go_simp;go_at_call 46;refine(workerOf_any _ X.x.workers.n X.x.workers.cap X.x.workers.l y.name _ hMH.out (hws1H.out.below hHeld.1)).mono ?_;rintro e w4 ⟨rfl,hb4⟩;rw[hwkH.out];have hHeld:=keep14 hb4 hHeld;clear hb4;refine hK.out _ _ hHeld (fun hHeld=>?_);clear hK K
 (try simp only[Act.put,tkA,tkB,tkC])
 refine tkS [(13,19),(14,20)] ?_;(iterate 2 (refine tkL ?_ ?_ ?_;rotate_left;(· intro w hSw;(try dsimp only at hSw);go_simp;(try with_reducible rfl));(try simp only[Act.put,tkA,tkB,tkC])));refine tkE ?_;refine wpAnyH_ready (rs:=[27]) (by kernel_rfl) (by simp) ?_;refine AllReadyH.cons (i:=27) rfl (fun K hK=>?_) AllReadyH.nil;go_simp;go_at_call 60;refine(workOf_any _ X.x.works.n X.x.works.cap X.x.works.l z.id_ _ hN2H.out (hxs1H.out.below hHeld.1)).mono ?_;rintro e w5 ⟨rfl,hb5⟩;rw[hwoH.out];have hHeld:=keep14 hb5 hHeld;clear hb5;refine hK.out _ _ hHeld (fun hHeld=>?_);clear hK K
 (try simp only[Act.put,tkA,tkB,tkC])
 refine tkS [(28,34),(29,35),(30,36)] ?_;(iterate 3 (refine tkL ?_ ?_ ?_;rotate_left;(· intro w hSw;(try dsimp only at hSw);go_simp;(try with_reducible rfl));(try simp only[Act.put,tkA,tkB,tkC])));refine tkE ?_;refine wpAnyH_ready (rs:=[33]) (by kernel_rfl) (by simp) ?_;refine AllReadyH.cons (i:=33) rfl (fun K hK=>?_) AllReadyH.nil;go_simp;go_at_call 176;refine(rends_any y z.size ifr _ (RWorker.mono _ _ _ hHeld.1 hyokH.out) z0 z1 g1 g2 hf0 hf1 gspH.out a b habH.out).mono ?_;rintro e w6 ⟨rfl,hb6⟩;have hHeld:=keep14 hb6 hHeld;clear hb6;refine hK.out _ _ hHeld (fun hHeld=>?_);clear hK K
 (try simp only[Act.put,tkA,tkB,tkC])
 refine tkS [(34,40),(35,41)] ?_;(iterate 2 (refine tkL ?_ ?_ ?_;rotate_left;(· intro w hSw;(try dsimp only at hSw);go_simp;(try with_reducible rfl));(try simp only[Act.put,tkA,tkB,tkC])));refine tkE ?_;refine tkS [(36,4),(37,5)] ?_;(iterate 2 (refine tkL ?_ ?_ ?_;rotate_left;(· intro w hSw;(try dsimp only at hSw);go_simp;(try with_reducible rfl));(try simp only[Act.put,tkA,tkB,tkC])));refine tkE ?_;refine wpAnyH_done (by kernel_rfl) ?_ _;have R:=RZH.out _ (hbaH.out.trans (hHeld.1.mono hbaH.out.size));clear hHeld hH0;have RH:=Lib.hid R;clear R;go_wp2;exact RH.out
end Go.Proofs.YtbnkoefljcekbaaGreatDoor.C9