/-
 Several texts of mine as one, without what is not wanted here: XRqL, XRqM.
-/
import Derived.Test.YtbnkoefljcekbaaGreatDoorPyRC9
import Derived.Test.YtbnkoefljcekbaaGreatDoorPyTC9
set_option linter.unusedVariables false
set_option linter.unusedSimpArgs false
set_option maxRecDepth 100000
set_option maxHeartbeats 8000000
namespace Go.Proofs.YtbnkoefljcekbaaGreatDoor.C9
open Go.ChangeShapes Go.WideShapes Go.Deep Go.RowKit Go.Maps
structure FarS (X:RX) (rv:Value) (sb:Nat):Prop where
 f:sb≠X.f
 d:sb≠X.db
 l:sb≠X.lb
 o:X.ov.ownBlock≠some sb
 r:rv.ownBlock≠some sb
 b:X.base≤sb
section
variable {X:RX} {rv:Value} {q:QS} {w0 W W':World}
theorem QA.farS (h:QA X rv q w0 W):FarS X rv W.heap.size:=by
 obtain⟨l1,l2,l3⟩:=h.lt;refine⟨by omega,by omega,by omega,fun e=>?_,fun e=>?_,?_⟩
 ·have:=(h.ord.1.lt _ e).2;omega
 ·have:=(h.runs.1.lt _ e).2;omega
 ·have:=h.ge.1;omega
theorem QA.far (h:QA X rv q w0 W) {sb:Nat} (hf:FarS X rv sb) (hg:W.grownBy W' (some sb)):QA X rv q w0 W':=by
 obtain⟨p1,p2,p3,p4,p5,p6,p7⟩:=h.parts hg;exact⟨p1 (fun e=>hf.f (by injection e)),p2 (fun e=>hf.d (by injection e)),p3 (fun e=>hf.l (by injection e)),p4 (fun b hb e=>hf.o (by rw[hb];exact e.symm)),p5 (fun b hb e=>hf.r (by rw[hb];exact e.symm)),h.ne,h.ge,p6,h.ap,h.oap,h.base,p7 (fun b hb=>by injection hb with hb;rw[← hb];exact hf.b)⟩
end
structure NxS (X:RX) (rv:Value) (q:QS) (w0:World) (sb:Nat) (l:List Int) (W:World):Prop where
 A:QA X rv q w0 W
 L:LkC W sb q.at_ (l.foldl (lookO q.at_) none)
 F:FarS X rv sb
 lt:sb<W.heap.size
section
variable {X:RX} {rv:Value} {q:QS} {w0 W W':World} {sb:Nat} {l:List Int}
theorem NxS.below (h:NxS X rv q w0 sb l W) (hb:Below W.heap.size W W'):NxS X rv q w0 sb l W' :=
 ⟨h.A.below hb,blk_below h.L (by simp) hb,h.F,Nat.lt_of_lt_of_le h.lt hb.size⟩
theorem NxS.look (h:NxS X rv q w0 sb l W) {n:Int} {e:Ending} (ha:LkAns sb q.at_ (lookO q.at_ (l.foldl (lookO q.at_) none) n) W e W'):e = .returned (.tuple #[])∧NxS X rv q w0 sb (l ++ [n]) W'∧W.grownBy W' (some sb):=by
 obtain⟨e1,e2,e3⟩:=ha;exact⟨e1,⟨h.A.far h.F e3,by rw[List.foldl_append];exact e2,h.F,Nat.lt_of_lt_of_le h.lt e3.size⟩,e3⟩
end
def cW (F:FP) (m:Nat):List Int:=(List.range m).flatMap fun k=>[F.wfrom k,F.wto k]
def cR (F:FP) (R:List RR):List Int:=(R.filter going).flatMap fun r=>(F.endAt r.worker r.work r.from_).toList ++ [late F r]
theorem cW_next (F:FP) (m:Nat):cW F (m+1)=cW F m ++ [F.wfrom m] ++ [F.wto m]:=by
 unfold cW;rw[List.range_succ,List.flatMap_append,List.flatMap_singleton];simp
theorem cR_next {F:FP} {R:List RR} {m:Nat} {r:RR} (h:R[m]? = some r):cR F (R.take (m+1))=cR F (R.take m)++if going r=true then (F.endAt r.worker r.work r.from_).toList ++ [late F r] else []:=by
 unfold cR;rw[List.take_add_one,h,Option.toList_some,List.filter_append,List.flatMap_append]
 congr 1
 cases hg:going r
 ·rw[List.filter_cons_of_neg (by rw[hg];decide)];rfl
 ·rw[List.filter_cons_of_pos hg];simp
def NxAns (X:RX) (rv:Value) (q:QS) (w0:World) (e:Ending) (w':World):Prop:=e = .returned (.tuple #[.int .i64 ((nextQ X.F q).getD 0),.bool (nextQ X.F q).isSome])∧QA X rv q w0 w'
def N1Rel (X:RX) (rv:Value) (q:QS) (w0:World) (sb n:Nat) (i:Value) (wr:World):Prop:=∃ m:Nat,m≤n∧i = .int .i64 m∧NxS X rv q w0 sb (cW X.F m) wr
def N2Rel (X:RX) (rv:Value) (q:QS) (w0:World) (sb n:Nat) (i:Value) (wr:World):Prop:=∃ m:Nat,m≤n∧i = .int .i64 m∧NxS X rv q w0 sb (cW X.F X.F.nW++X.F.lossAt.take m) wr
def N3Rel (X:RX) (rv:Value) (q:QS) (w0:World) (sb n:Nat) (i:Value) (wr:World):Prop:=∃ m:Nat,m≤n∧i = .int .i64 m∧NxS X rv q w0 sb (cW X.F X.F.nW++X.F.lossAt++cR X.F (q.runs.take m)) wr
theorem RS.lossAt {X:RX} {w0:World} (h:RS X w0):X.F.lossAt=X.x.lost.l.map (·.at_):=by obtain⟨o,e,e2⟩:=h.F;rw[e];rfl
theorem rnext_any {X:RX} {rv:Value} {q:QS} {w0 W:World} (hA:QA X rv q w0 W) (hS:RS X w0) (hNq:RN X q) (hfr:∀ r∈q.runs,r.from_≤1000000000) :
  Calls Tryz.prog 80 #[.pointer (some ⟨X.f,0,none⟩)] W (NxAns X rv q w0):=by
 obtain⟨A,cap,hrv,hrv1⟩:=hA.row;obtain⟨nR,hnR⟩:∃ n,q.runs.length=n:=⟨_,rfl⟩;rw[hnR]at hrv hrv1;have hn4:nR≤4000:=by rw[← hnR];exact hNq.len
 have hwn:X.x.workers.l.length=X.x.workers.n:=hS.fx.1.1.1;have hln:X.x.lost.l.length=X.x.lost.n:=hS.fx.2.2.1.1.1;have hM:X.x.workers.n≤50:=by have:=hS.ok.wkn;omega
 have hL2:X.x.lost.n≤200:=by have:=hS.ok.lon;omega
 have hnW:=hS.nW;have hla:=hS.lossAt;obtain⟨t,ht⟩:∃ t,q.at_=t:=⟨_,rfl⟩;obtain⟨W1,hW1⟩:∃ Y,W.alloc (.cells #[.int .i64 t,.int .i64 0,.bool false] 166)=Y:=⟨_,rfl⟩;obtain⟨sb,hsb⟩:∃ b,W.heap.size=b:=⟨_,rfl⟩;have hb1:Below W.heap.size W W1:=by rw[← hW1];exact(Below.refl _ _).alloc (Nat.le_refl _) _
 have hB1:Blk W1 sb [.int .i64 t,.int .i64 0,.bool false]:=by rw[← hW1,← hsb];exact blk_new W [.int .i64 t,.int .i64 0,.bool false] 166
 have hX1:NxS X rv q w0 sb [] W1:=⟨hA.below hb1,by rw[ht];exact hB1,by rw[← hsb];exact hA.farS,by rw[← hW1,← hsb];simp⟩;have b6:=(hA.blk 6 _ rfl).1;rw[ht]at b6;have b0:(W.alloc (.cells #[.int .i64 t,.int .i64 0,.bool false] 166)).cell? ⟨X.f,0,none⟩=some (.slice X.x.workers.A X.x.workers.n X.x.workers.cap):=by rw[hW1];exact(hX1.A.blk 0 _ rfl).1
 have hst:N1Rel X rv q w0 sb X.x.workers.n (.int .i64 0) W1:=⟨0,Nat.zero_le _,rfl,hX1⟩;obtain⟨Z,hZ⟩:∃ Z,NxAns X rv q w0=Z:=⟨_,rfl⟩;have RZ:∀ W' o,o=nextQ X.F q→QA X rv q w0 W'→Z (.returned (.tuple #[.int .i64 (o.getD 0),.bool o.isSome])) W':=fun W' o ho h=>by
  rw[← hZ,ho];exact⟨rfl,h⟩
 have hnq:∀ l,l=cW X.F X.F.nW++X.F.lossAt++cR X.F q.runs→l.foldl (lookO q.at_) none=nextQ X.F q:=fun l hl=>by
  rw[look_above,hl];rfl
 rw[hZ];obtain⟨hAH,hSH,hNqH,hfrH,hrvH,hrv1H,hnRH,hwnH,hlnH,hnWH,hlaH,htH,hW1H,hsbH,hb1H,hB1H,hX1H,hstH,hZH,RZH,hnqH⟩:=hqb hA hS hNq hfr (hqc hrv hrv1 hnR hwn hln hnW hla ht (hqc hW1 hsb hb1 hB1 hX1 hst hZ RZ (Lib.hid hnq)));clear hA hS hNq hfr hrv hrv1 hnR hwn hln hnW hla ht hW1 hsb hb1 hB1 hX1 hst hZ RZ hnq;go_enter Tryz.func80,Tryz.ntmps80;go_wp2_with fail;simp only[hW1H.out,hsbH.out];clear b6 b0
 go_loopw [25] (fun i wr=>N1Rel X rv q w0 sb X.x.workers.n i wr) (fun i _=>X.x.workers.n-(intOf i).toNat)
 case atStart=>exact hstH.out
 case round =>
  clear hstH;obtain⟨m,hm,rfl,hX⟩:=hrel
  by_cases hlt:m<X.x.workers.n
  ·have hws:=hSH.out.fx.1.1.below hX.A.bel;obtain⟨by_,oy,hYA,_⟩:=hws.2.1 (by omega);rw[hYA]at hws ⊢;obtain⟨y,hy⟩:∃ y,X.x.workers.l[m]? = some y:=⟨X.x.workers.l[m]'(by have:=hwnH.out;omega),List.getElem?_eq_getElem _⟩;obtain⟨d0,d1,d2,d3,d4,d5,d6⟩:=cells_Worker hws hy;obtain⟨k1,k2,_⟩:=hSH.out.wk hy;obtain⟨yn,yh,ys,yv,yf,yt,yd⟩:=y;simp only at d0 d1 d2 d3 d4 d5 d6 k1 k2;obtain⟨W5,hW5⟩:∃ Y,wr.alloc (.cells #[.string yn,.slice yh.A yh.n yh.cap,.int .i64 ys,.int .i64 yv,.int .i64 yf,.int .i64 yt,.slice yd.A yd.n yd.cap] 84)=Y:=⟨_,rfl⟩;obtain⟨wb,hwb⟩:∃ b,wr.heap.size=b:=⟨_,rfl⟩;have hbr5:Below wr.heap.size wr W5:=by rw[← hW5];exact(Below.refl _ _).alloc (Nat.le_refl _) _
   have hB5:Blk W5 wb [.string yn,.slice yh.A yh.n yh.cap,.int .i64 ys,.int .i64 yv,.int .i64 yf,.int .i64 yt,.slice yd.A yd.n yd.cap]:=by rw[← hW5,← hwb];exact blk_new wr [.string yn,.slice yh.A yh.n yh.cap,.int .i64 ys,.int .i64 yv,.int .i64 yf,.int .i64 yt,.slice yd.A yd.n yd.cap] 84
   have hX5:=hX.below hbr5;have hne:wb≠sb:=by have:=hX.lt;omega
   have hc:=look_any W5 sb q.at_ yf _ hX5.L;have hn2:=cW_next X.F m;rw[k1,k2]at hn2;obtain⟨hXH,hyH,hwsH,hYAH,hW5H,hwbH,hbr5H,hB5H,hX5H,hneH,hcH,hn2H,k1H,k2H⟩:=hq2 hX (hqb hy hws hYA hW5 (hqc hwb hbr5 hB5 hX5 hne hc hn2 k1 (Lib.hid k2)));clear hX hy hws hYA hW5 hwb hbr5 hB5 hX5 hne hc hn2 k1 k2;go_wp2_with fail;simp only[hW5H.out,hwbH.out];refine hcH.out.mono ?_;rintro e w7 ha;obtain⟨rfl,hX7,hg7⟩:=hX5H.out.look ha;have e5:=hg7.cell (hB5H.out 5 _ rfl).1 (fun e=>hneH.out (by injection e));have hc2:=look_any w7 sb q.at_ yt _ hX7.L;clear ha d0 d1 d2 d3 d4 d5 d6;obtain⟨hX7H,hg7H,hc2H⟩:=hq2 hX7 (hq2 hg7 (Lib.hid hc2));clear hX7 hg7 hc2;go_wp2_with fail;refine hc2H.out.mono ?_;rintro e w8 ha;obtain⟨rfl,hX8,hg8⟩:=hX7H.out.look ha;have R:N1Rel X rv q w0 sb X.x.workers.n (.int .i64 ((m:Int)+1)) w8:=⟨m+1,hlt,by go_num,by rw[hn2H.out];exact hX8⟩;clear ha hX8 hg8 e5;have RH:=Lib.hid R;clear R;go_wp2;refine⟨?rel,?measure⟩
   case measure=>(simp[intOf];omega)
   case rel=>first | exact RH.out | exact⟨rfl,RH.out⟩
  ·obtain rfl:m=X.x.workers.n:=by omega
   have hst2:N2Rel X rv q w0 sb X.x.lost.n (.int .i64 0) wr:=⟨0,Nat.zero_le _,rfl,by
    rw[hnWH.out,hwnH.out,List.take_zero,List.append_nil];exact hX⟩
   have b2:=(hX.A.blk 2 _ rfl).1;obtain⟨hXH,hst2H⟩:=hq2 hX (Lib.hid hst2);clear hX hst2;go_wp2_with fail;clear b2
   go_loopw [44] (fun i wr=>N2Rel X rv q w0 sb X.x.lost.n i wr) (fun i _=>X.x.lost.n-(intOf i).toNat)
   case atStart=>exact hst2H.out
   case round =>
    clear hst2H hXH;obtain⟨m,hm,rfl,hX⟩:=hrel
    by_cases hlt:m<X.x.lost.n
    ·have hls:=hSH.out.fx.2.2.1.1.below hX.A.bel;obtain⟨by_,oy,hYA,_⟩:=hls.2.1 (by omega);rw[hYA]at hls ⊢;obtain⟨y,hy⟩:∃ y,X.x.lost.l[m]? = some y:=⟨X.x.lost.l[m]'(by have:=hlnH.out;omega),List.getElem?_eq_getElem _⟩;obtain⟨d0,d1⟩:=cells_Loss hls hy;obtain⟨yn,yt⟩:=y;simp only at d0 d1;obtain⟨W5,hW5⟩:∃ Y,wr.alloc (.cells #[.string yn,.int .i64 yt] 71)=Y:=⟨_,rfl⟩;have hbr5:Below wr.heap.size wr W5:=by rw[← hW5];exact(Below.refl _ _).alloc (Nat.le_refl _) _
     have hX5:=hX.below hbr5;have hc:=look_any W5 sb q.at_ yt _ hX5.L;have hn2:X.F.lossAt.take (m+1)=X.F.lossAt.take m ++ [yt]:=by
      rw[List.take_add_one,hlaH.out,List.getElem?_map,hy];rfl
     obtain⟨hXH,hyH,hlsH,hYAH,hW5H,hbr5H,hX5H,hcH,hn2H⟩:=hqc hX hy hls hYA hW5 hbr5 hX5 hc (Lib.hid hn2);clear hX hy hls hYA hW5 hbr5 hX5 hc hn2;go_wp2_with fail;simp only[hW5H.out];refine hcH.out.mono ?_;rintro e w7 ha;obtain⟨rfl,hX7,hg7⟩:=hX5H.out.look ha;have R:N2Rel X rv q w0 sb X.x.lost.n (.int .i64 ((m:Int)+1)) w7:=⟨m+1,hlt,by go_num,by rw[hn2H.out,← List.append_assoc];exact hX7⟩;clear ha hX7 hg7 d0 d1;have RH:=Lib.hid R;clear R;go_wp2;refine⟨?rel,?measure⟩
     case measure=>(simp[intOf];omega)
     case rel=>first | exact RH.out | exact⟨rfl,RH.out⟩
    ·obtain rfl:m=X.x.lost.n:=by omega
     have hst3:N3Rel X rv q w0 sb nR (.int .i64 0) wr:=⟨0,Nat.zero_le _,rfl,by
      have e:X.F.lossAt.take X.x.lost.n=X.F.lossAt:=List.take_of_length_le (by rw[hlaH.out,List.length_map,hlnH.out];exact Nat.le_refl _);rw[e]at hX;show NxS X rv q w0 sb (cW X.F X.F.nW++X.F.lossAt ++ []) wr;rw[List.append_nil];exact hX⟩
     have b7:=(hX.A.blk 7 _ rfl).1;rw[hrvH.out]at b7;obtain⟨hXH,hst3H⟩:=hq2 hX (Lib.hid hst3);clear hX hst3;go_wp2_with fail;clear b7
     go_loopw [58] (fun i wr=>N3Rel X rv q w0 sb nR i wr) (fun i _=>nR-(intOf i).toNat)
     case atStart=>exact hst3H.out
     case round =>
      clear hst3H hXH;obtain⟨m,hm,rfl,hX⟩:=hrel
      by_cases hlt:m<nR
      ·obtain⟨g,hA8⟩:=hrv1H.out (by omega);subst hA8;have hA':=hX.A;rw[hrvH.out]at hA';obtain⟨r,hr⟩:∃ r,q.runs[m]? = some r:=⟨q.runs[m]'(by have:=hnRH.out;omega),List.getElem?_eq_getElem _⟩;have hrm:=List.mem_of_getElem? hr;obtain⟨e0,e1,e2,e3,e4⟩:=cells_Run hA'.runs.slAt (x:=toRun X.x r) (by rw[List.getElem?_map,hr];rfl);rw[Nat.zero_add]at e0 e1 e2 e3 e4;have hnm:=hNqH.out.nm r hrm;have hend:(toRun X.x r).end_=r.end_:=rfl;have hwkr:(toRun X.x r).worker=(wkOf X.x r.worker).name:=rfl;have hidr:(toRun X.x r).id_=(woOf X.x r.work).id_:=rfl;have hfrr:(toRun X.x r).from_=r.from_:=rfl;have htor:(toRun X.x r).to_=r.to_:=rfl;have hrend:=fun (V:World) (hV:QA X rv q w0 V)=>rend_any hV hSH.out hnm.1 hnm.2 (hNqH.out.fr r hrm).1 (hfrH.out r hrm);have hrlate:=fun (V:World) (hV:QA X rv q w0 V)=>rlate_any hV hSH.out hnm.1 hnm.2 (hNqH.out.fr r hrm).1 (hfrH.out r hrm);unfold runV at hrend hrlate;rw[hend]at e4;rw[hwkr]at e1 hrend hrlate;rw[hidr]at e0 hrend hrlate;rw[hfrr]at e2;rw[htor]at e3;have hn2:=cR_next (F:=X.F) hr;have hgo:going r=(r.end_==0):=rfl;obtain⟨rwk,hrwk⟩:∃ s,(wkOf X.x r.worker).name=s:=⟨_,rfl⟩;obtain⟨rid,hrid⟩:∃ s,(woOf X.x r.work).id_=s:=⟨_,rfl⟩;obtain⟨rfm,hrfm⟩:∃ s,r.from_=s:=⟨_,rfl⟩;obtain⟨rto,hrto⟩:∃ s,r.to_=s:=⟨_,rfl⟩;obtain⟨ren,hren⟩:∃ s,r.end_=s:=⟨_,rfl⟩;rw[hrwk]at e1 hrend hrlate;rw[hrid]at e0 hrend hrlate;rw[hrfm]at e2 hrend hrlate;rw[hrto]at e3 hrend hrlate;rw[hren]at e4 hrend hrlate hgo;obtain⟨W5,hW5⟩:∃ Y,wr.alloc (.cells #[.string rid,.string rwk,.int .i64 rfm,.int .i64 rto,.int .i64 ren] 34)=Y:=⟨_,rfl⟩
       obtain⟨wb,hwb⟩:∃ b,wr.heap.size=b:=⟨_,rfl⟩;have hbr5:Below wr.heap.size wr W5:=by rw[← hW5];exact(Below.refl _ _).alloc (Nat.le_refl _) _
       have hB5:Blk W5 wb [.string rid,.string rwk,.int .i64 rfm,.int .i64 rto,.int .i64 ren]:=by rw[← hW5,← hwb];exact blk_new wr [.string rid,.string rwk,.int .i64 rfm,.int .i64 rto,.int .i64 ren] 34
       have hX5:=hX.below hbr5;have hne:wb≠sb:=by have:=hX.lt;omega
       rw[hgo]at hn2
       by_cases h0:ren=0
       ·subst h0;have hg0:((0:Int)==0)=true:=rfl;rw[hg0,if_pos rfl,hrfm]at hn2;have hc:=hrend W5 hX5.A;clear hg0 hgo;obtain⟨hXH,hA'H,hrH,hrmH,hnmH,hendH,hwkrH,hidrH,hfrrH,htorH,hrendH,hrlateH,hn2H,hrwkH,hridH,hrfmH,hrtoH,hrenH,hW5H,hwbH,hbr5H,hB5H,hX5H,hneH,hcH⟩:=hqc hX hA' hr hrm hnm hend hwkr hidr (hqc hfrr htor hrend hrlate hn2 hrwk hrid hrfm (hqc hrto hren hW5 hwb hbr5 hB5 hX5 hne (Lib.hid hc)));clear hX hA' hr hrm hnm hend hwkr hidr hfrr htor hrend hrlate hn2 hrwk hrid hrfm hrto hren hW5 hwb hbr5 hB5 hX5 hne hc;go_wp2_with fail;simp only[hW5H.out,hwbH.out];clear e0 e1 e2 e3 e4;refine hcH.out.mono ?_;rintro e w6 ⟨a,bb,rfl,hab,hb6⟩;have hB6:=blk_below hB5H.out (by simp) hb6;have hX6:=hX5H.out.below hb6;rw[hrfmH.out]at hab
        cases bb
        ·rw[if_neg (by decide)]at hab;have f0:=(hB6 0 _ rfl).1;have f1:=(hB6 1 _ rfl).1;have f2:=(hB6 2 _ rfl).1;have f3:=(hB6 3 _ rfl).1;have f4:=(hB6 4 _ rfl).1;have hc3:=hrlateH.out w6 hX6.A;obtain⟨habH,hB6H,hX6H,hb6H,hc3H⟩:=hqb hab hB6 hX6 hb6 (Lib.hid hc3);clear hab hB6 hX6 hb6 hc3;go_wp2_with fail;refine hc3H.out.mono ?_;rintro e w7 ⟨rfl,hb7⟩;have hX7:=hX6H.out.below hb7;have hc4:=look_any w7 sb q.at_ (late X.F r) _ hX7.L;clear f0 f1 f2 f3 f4;obtain⟨hX7H,hb7H,hc4H⟩:=hq2 hX7 (hq2 hb7 (Lib.hid hc4));clear hX7 hb7 hc4;go_wp2_with fail;refine hc4H.out.mono ?_;rintro e w8 ha;obtain⟨rfl,hX8,hg8⟩:=hX7H.out.look ha;have R:N3Rel X rv q w0 sb nR (.int .i64 ((m:Int)+1)) w8:=⟨m+1,hlt,by go_num,by
          rw[hn2H.out,habH.out,Option.toList_none,List.nil_append,← List.append_assoc];exact hX8⟩
         clear ha hX8 hg8;have RH:=Lib.hid R;clear R;go_wp2;refine⟨?rel,?measure⟩
         case measure=>(simp[intOf];omega)
         case rel=>first | exact RH.out | exact⟨rfl,RH.out⟩
        ·rw[if_pos rfl]at hab;have hc2:=look_any w6 sb q.at_ a _ hX6.L;obtain⟨habH,hB6H,hX6H,hb6H,hc2H⟩:=hqb hab hB6 hX6 hb6 (Lib.hid hc2);clear hab hB6 hX6 hb6 hc2;go_wp2_with fail;refine hc2H.out.mono ?_;rintro e w7 ha;obtain⟨rfl,hX7,hg7⟩:=hX6H.out.look ha;have hB7:=hB6H.out.keep (hg7.block wb (hB6H.out.lt (by simp)) (fun e=>hneH.out (by injection e)));have f0:=(hB7 0 _ rfl).1;have f1:=(hB7 1 _ rfl).1;have f2:=(hB7 2 _ rfl).1;have f3:=(hB7 3 _ rfl).1;have f4:=(hB7 4 _ rfl).1;have hc3:=hrlateH.out w7 hX7.A;clear ha;obtain⟨hX7H,hg7H,hB7H,hc3H⟩:=hq2 hX7 (hq2 hg7 (hq2 hB7 (Lib.hid hc3)));clear hX7 hg7 hB7 hc3;go_wp2_with fail;refine hc3H.out.mono ?_;rintro e w8 ⟨rfl,hb8⟩;have hX8:=hX7H.out.below hb8;have hc4:=look_any w8 sb q.at_ (late X.F r) _ hX8.L;clear f0 f1 f2 f3 f4;obtain⟨hX8H,hb8H,hc4H⟩:=hq2 hX8 (hq2 hb8 (Lib.hid hc4));clear hX8 hb8 hc4;go_wp2_with fail;refine hc4H.out.mono ?_;rintro e w9 ha;obtain⟨rfl,hX9,hg9⟩:=hX8H.out.look ha;have R:N3Rel X rv q w0 sb nR (.int .i64 ((m:Int)+1)) w9:=⟨m+1,hlt,by go_num,by
          rw[hn2H.out,habH.out,Option.toList_some,← List.append_assoc,← List.append_assoc];exact hX9⟩
         clear ha hX9 hg9;have RH:=Lib.hid R;clear R;go_wp2;refine⟨?rel,?measure⟩
         case measure=>(simp[intOf];omega)
         case rel=>first | exact RH.out | exact⟨rfl,RH.out⟩
       ·have h0':(ren==0)=false:=by simpa using h0
        rw[h0',if_neg (by decide),List.append_nil]at hn2;have R:N3Rel X rv q w0 sb nR (.int .i64 ((m:Int)+1)) W5:=⟨m+1,hlt,by go_num,by rw[hn2];exact hX5⟩;subst hW5 hwb;clear hgo h0;obtain⟨hXH,hA'H,hrH,hrmH,hnmH,hendH,hwkrH,hidrH,hfrrH,htorH,hrendH,hrlateH,hn2H,hrwkH,hridH,hrfmH,hrtoH,hrenH,hbr5H,hB5H,hX5H,hneH,RH⟩:=hq2 hX (hq2 hA' (hqb hr hrm hnm hend (hqc hwkr hidr hfrr htor hrend hrlate hn2 hrwk (hqc hrid hrfm hrto hren hbr5 hB5 hX5 hne (Lib.hid R)))));clear hX hA' hr hrm hnm hend hwkr hidr hfrr htor hrend hrlate hn2 hrwk hrid hrfm hrto hren hbr5 hB5 hX5 hne R;go_wp2;refine⟨?rel,?measure⟩
        case measure=>(simp[intOf];omega)
        case rel=>first | exact RH.out | exact⟨rfl,RH.out⟩
      ·obtain rfl:m=nR:=by omega
       have e:q.runs.take m=q.runs:=List.take_of_length_le (by have:=hnRH.out;omega);rw[e]at hX;have hL:=hX.L;rw[hnqH.out _ rfl]at hL;have c1:=(hL 1 _ rfl).1;have c2:=(hL 2 _ rfl).1;have R:=fun V (hV:Below wr.heap.size wr V)=>RZH.out V _ rfl (hX.A.below hV);clear hL e;obtain⟨hXH,RH⟩:=hq2 hX (Lib.hid R);clear hX R;go_wp2_with fail
       go_quiet (fail)
       go_wp2;exact RH.out _ (bel_drewN (Below.refl _ _) _)
theorem inv_len {F:FP} (hF:FFine F) {lo hi:Int} {q:QS} (h:Inv F lo hi q) (h1:F.nX≤200) (h2:F.tries≤10):q.runs.length≤2200:=by
 have htr:=hF.tri;have:=cnt_len (m:=11) F.nX q.runs (fun r hr=>(h.named r hr).2) (fun k=>by have:=h.cnt k;omega);omega
theorem known {X:RX} {w0:World} (hS:RS X w0) (hF:FFine X.F) {lo hi:Int} {q:QS} (h:Inv X.F lo hi q) (ht:q.at_≤1002000000):RN X q∧(∀ r∈q.runs,r.from_≤1000000000)∧∀ k,0≤q.lost k∧q.lost k≤100000:=by
 obtain⟨o,eF,_⟩:=hS.F;have hB:Bnd X.F 1000000000 1000000:=by rw[eF];exact bnd_of hS.ok o
 have hnX:X.F.nX≤200:=by rw[hS.nX];exact hS.ok.wo.len
 have htr:X.F.tries≤10:=by rw[hS.tries];exact hS.ok.tri.2
 have hl:=inv_len hF h hnX htr;have hfr:∀ r∈q.runs,0≤r.from_∧r.from_≤1000000000:=fun r hr=>by
  have h1:=h.fr r hr;have h2:=(hB.w r.worker (h.named r hr).1).2;omega
 refine⟨⟨h.named,by omega,h.t0,by omega,fun r hr=>⟨(hfr r hr).1,by have:=(hfr r hr).2;omega⟩⟩,fun r hr=>(hfr r hr).2,fun k=>?_⟩;rw[h.los];have:q.runs.countP (isEnd 2 k)≤q.runs.length:=List.countP_le_length;omega
theorem moment {F:FP} (hF:FFine F) {q:QS} (h:Inv F (q.at_-1) q.at_ q):Inv F (q.at_-1) q.at_ (finQ F q)∧Inv F q.at_ (q.at_+1) (loseQ F (finQ F q))∧Inv F q.at_ (q.at_+1) (startQ F (loseQ F (finQ F q)))∧Inv F q.at_ (q.at_+1) (stepQ F q):=by
 have h1:Inv F (q.at_-1) q.at_ (finQ F q):=h.fin hF (by omega) (Int.le_refl _);have h2:Inv F (q.at_-1) (q.at_+1) (loseQ F (finQ F q)):=Inv.lose hF (q:=finQ F q) h1 (show q.at_-1<q.at_ by omega);have h3:Inv F q.at_ (q.at_+1) (loseQ F (finQ F q)):=Inv.now (q:=loseQ F (finQ F q)) h2;have h4:Inv F q.at_ (q.at_+1) (startQ F (loseQ F (finQ F q))):=Inv.starts hF (q:=loseQ F (finQ F q)) F.order hF.lt _ h3;exact⟨h1,h3,h4,Inv.step hF h⟩
theorem at_step (F:FP) (q:QS):(stepQ F q).at_=q.at_:=by
 unfold stepQ dblQ
 split <;> rfl
structure FJ (x:Farm) (xb N:Nat) (w0:World) (u3 u7 u11:Option Value) (w:World):Prop where
 bel:Below w0.heap.size w0 w
 xlt:xb<w.heap.size
 k3:∀ v,u3=some v→∃ (A':Option Addr) (c':Nat) (S M:List Int),v = .slice A' N c'∧Own RInt 3 w xb v M∧Crit (gOf x.works.l) (szOf x.works.l) N (gt S)∧SortedBy (fR S) M∧SameCls (fR S) M (nz (List.range N))
 k7:∀ v,u7=some v→∃ b,v = .slice (some ⟨b,0,none⟩) N N∧xb<b∧b<w.heap.size∧BRow w b N (fun _=>false)
 k11:∀ v,u11=some v→∃ b,v = .slice (some ⟨b,0,none⟩) N N∧xb<b∧b<w.heap.size∧IRow w b N (fun _=>0)
 n1:∀ v v' b,u3=some v→u7=some v'→v'.ownBlock=some b→v.ownBlock≠some b
 n2:∀ v v' b,u3=some v→u11=some v'→v'.ownBlock=some b→v.ownBlock≠some b
 n3:∀ v v' b,u7=some v→u11=some v'→v'.ownBlock=some b→v.ownBlock≠some b
section
variable {x:Farm} {xb N:Nat} {w0 w w':World} {u3 u7 u11:Option Value}
theorem FJ.keep (h:FJ x xb N w0 u3 u7 u11 w) (hb:Below w.heap.size w w'):FJ x xb N w0 u3 u7 u11 w':=by
 refine⟨h.bel.trans (hb.mono h.bel.size),Nat.lt_of_lt_of_le h.xlt hb.size,fun v e=>?_,fun v e=>?_,fun v e=>?_,h.n1,h.n2,h.n3⟩
 ·obtain⟨A',c',S,M,e1,e2,e3⟩:=h.k3 v e;exact⟨A',c',S,M,e1,own_kp e2 (below_g hb) (fun b _=>by simp) (fun x _ hx=>hx),e3⟩
 ·obtain⟨b,e1,e2,e3,e4⟩:=h.k7 v e;exact⟨b,e1,e2,Nat.lt_of_lt_of_le e3 hb.size,brow_kp e4 (hb.block b e3)⟩
 ·obtain⟨b,e1,e2,e3,e4⟩:=h.k11 v e;exact⟨b,e1,e2,Nat.lt_of_lt_of_le e3 hb.size,e4.keep (hb.block b e3)⟩
theorem FJ.old7 (h:FJ x xb N w0 u3 u7 u11 w) {v:Value} {b:Nat} (e:u7=some v) (hb:v.ownBlock=some b):b<w.heap.size:=by
 obtain⟨c,rfl,_,e3,_⟩:=h.k7 v e;have:c=b:=by simpa[Value.ownBlock]using hb
 omega
theorem FJ.old11 (h:FJ x xb N w0 u3 u7 u11 w) {v:Value} {b:Nat} (e:u11=some v) (hb:v.ownBlock=some b):b<w.heap.size:=by
 obtain⟨c,rfl,_,e3,_⟩:=h.k11 v e;have:c=b:=by simpa[Value.ownBlock]using hb
 omega
theorem FJ.old3 (h:FJ x xb N w0 u3 u7 u11 w) {v:Value} {b:Nat} (e:u3=some v) (hb:v.ownBlock=some b):b<w.heap.size:=by
 obtain⟨A',c',S,M,_,e2,_⟩:=h.k3 v e;exact(e2.1.lt b hb).2
theorem FJ.put3 (h:FJ x xb N w0 none u7 u11 w) (hb:Below w.heap.size w w') {A':Option Addr} {c':Nat} {S M:List Int} (ho:Own RInt 3 w' w.heap.size (.slice A' N c') M) (hC:Crit (gOf x.works.l) (szOf x.works.l) N (gt S)∧SortedBy (fR S) M∧SameCls (fR S) M (nz (List.range N))) :
  FJ x xb N w0 (some (.slice A' N c')) u7 u11 w':=by
 have h':=h.keep hb;have hx:=h.xlt;refine⟨h'.bel,h'.xlt,fun v e=>?_,h'.k7,h'.k11,fun v v' b e1 e2 e3 e4=>?_,fun v v' b e1 e2 e3 e4=>?_,h'.n3⟩
 ·injection e with e;subst e;exact⟨A',c',S,M,rfl,own_base ho (by omega),hC⟩
 ·injection e1 with e1;subst e1;have:=(ho.1.lt b e4).1;have:=h.old7 e2 e3;omega
 ·injection e1 with e1;subst e1;have:=(ho.1.lt b e4).1;have:=h.old11 e2 e3;omega
theorem FJ.put7 (h:FJ x xb N w0 u3 none u11 w) (hb:Below w.heap.size w w') (hs:w.heap.size<w'.heap.size) (hr:BRow w' w.heap.size N (fun _=>false)):FJ x xb N w0 u3 (some (.slice (some ⟨w.heap.size,0,none⟩) N N)) u11 w':=by
 have h':=h.keep hb;refine⟨h'.bel,h'.xlt,h'.k3,fun v e=>?_,h'.k11,fun v v' b e1 e2 e3 e4=>?_,h'.n2,fun v v' b e1 e2 e3 e4=>?_⟩
 ·injection e with e;exact⟨_,e.symm,h.xlt,hs,hr⟩
 ·injection e2 with e2;subst e2;have hbb:w.heap.size=b:=by simpa[Value.ownBlock]using e3
  have:=h.old3 e1 e4;omega
 ·injection e1 with e1;subst e1;have hbb:w.heap.size=b:=by simpa[Value.ownBlock]using e4
  have:=h.old11 e2 e3;omega
theorem FJ.put11 (h:FJ x xb N w0 u3 u7 none w) (hb:Below w.heap.size w w') (hs:w.heap.size<w'.heap.size) (hr:IRow w' w.heap.size N (fun _=>0)):FJ x xb N w0 u3 u7 (some (.slice (some ⟨w.heap.size,0,none⟩) N N)) w':=by
 have h':=h.keep hb;refine⟨h'.bel,h'.xlt,h'.k3,h'.k7,fun v e=>?_,h'.n1,fun v v' b e1 e2 e3 e4=>?_,fun v v' b e1 e2 e3 e4=>?_⟩
 ·injection e with e;exact⟨_,e.symm,h.xlt,hs,hr⟩
 ·injection e2 with e2;subst e2;have hbb:w.heap.size=b:=by simpa[Value.ownBlock]using e3
  have:=h.old3 e1 e4;omega
 ·injection e2 with e2;subst e2;have hbb:w.heap.size=b:=by simpa[Value.ownBlock]using e3
  have:=h.old7 e1 e4;omega
end
theorem irow_madeQ (w:World) (n:Nat):IRow (w.alloc (.cells (madeI n) 3)) w.heap.size n (fun _=>0):=fun j hj=>by
 have:(w.alloc (.cells (madeI n) 3)).cell? ⟨w.heap.size,j,none⟩=(madeI n)[j]?:=by simp[go_sem]
 rw[this];exact⟨madeI_get n j hj,by simp[go_sem]⟩
theorem follow_lays {x:Farm} {xb N:Nat} {w0 wr:World} {v3 v7 v11:Value} (hJ:FJ x xb N w0 (some v3) (some v7) (some v11) wr) (hxb:w0.heap.size=xb) (hN:x.works.n=N) (hok:FarmOk x) (hx:RFarm.ok w0 x) :
  ∃ X:RX,X.x=x∧X.f=wr.heap.size∧X.F=fpx x∧RS X w0∧FFine X.F ∧
   QA X (.slice none 0 0) q0 w0 (wr.alloc (.cells #[.slice x.workers.A x.workers.n x.workers.cap,.slice x.works.A N x.works.cap,.slice x.lost.A x.lost.n x.lost.cap,.int .i64 x.tries,.bool x.doubles,v3,.int .i64 0,.slice none 0 0,v7,v11] 63)):=by
 obtain⟨A',c',S,M,rfl,ho,hC,hso,hcl⟩:=hJ.k3 v3 rfl;obtain⟨db,rfl,d1,d2,d3⟩:=hJ.k7 v7 rfl;obtain⟨lb,rfl,l1,l2,l3⟩:=hJ.k11 v11 rfl;have hxl:x.works.l.length=x.works.n:=hx.2.1.1.1;have hNl:N=x.works.l.length:=by rw[hxl,hN]
 subst hNl;have hM:M=nz (orx x):=by
  rw[← orx_eq hok.wo hC];exact sorted_uniq hso (ordOf_so S _) (hcl.trans (ordOf_cl S _).symm)
 have hba:=(Below.refl wr.heap.size wr).alloc (Nat.le_refl _) (.cells #[.slice x.workers.A x.workers.n x.workers.cap,.slice x.works.A x.works.l.length x.works.cap,.slice x.lost.A x.lost.n x.lost.cap,.int .i64 x.tries,.bool x.doubles,.slice A' x.works.l.length c',.int .i64 0,.slice none 0 0,.slice (some ⟨db,0,none⟩) x.works.l.length x.works.l.length,.slice (some ⟨lb,0,none⟩) x.works.l.length x.works.l.length] 63);have hJ9:=hJ.keep hba;have hb9:=blk_new wr [.slice x.workers.A x.workers.n x.workers.cap,.slice x.works.A x.works.l.length x.works.cap,.slice x.lost.A x.lost.n x.lost.cap,.int .i64 x.tries,.bool x.doubles,.slice A' x.works.l.length c',.int .i64 0,.slice none 0 0,.slice (some ⟨db,0,none⟩) x.works.l.length x.works.l.length,.slice (some ⟨lb,0,none⟩) x.works.l.length x.works.l.length] 63;have hne:=hJ.n3 _ _ lb rfl rfl (by simp[Value.ownBlock]);have hdl:db≠lb:=fun e=>hne (by simp[Value.ownBlock,e]);have ho9:=own_base (own_kp ho (below_g hba) (fun b _=>by simp) (fun x _ hx=>hx)) (b:=w0.heap.size) (by omega);have hs9:wr.heap.size<(wr.alloc (.cells #[.slice x.workers.A x.workers.n x.workers.cap,.slice x.works.A x.works.l.length x.works.cap,.slice x.lost.A x.lost.n x.lost.cap,.int .i64 x.tries,.bool x.doubles,.slice A' x.works.l.length c',.int .i64 0,.slice none 0 0,.slice (some ⟨db,0,none⟩) x.works.l.length x.works.l.length,.slice (some ⟨lb,0,none⟩) x.works.l.length x.works.l.length] 63)).heap.size:=by simp
 refine⟨⟨x,fpx x,A',c',M,w0.heap.size,wr.heap.size,db,lb⟩,rfl,rfl,rfl,⟨hok,⟨orx x,rfl,hM⟩,hx⟩,(fpx_fine hok hC).1,?_⟩;have hXN:(⟨x,fpx x,A',c',M,w0.heap.size,wr.heap.size,db,lb⟩:RX).N=x.works.l.length:=hxl.symm;refine⟨?_,?_,?_,?_,Own.nil _ _,?_,?_,?_,(fun b e=>by cases e),?_,rfl,hJ9.bel⟩
 ·rw[hxl]at hb9 ⊢;exact hb9
 ·rw[hXN];exact brow_kp d3 (hba.block db d2)
 ·rw[hXN];exact l3.keep (hba.block lb l2)
 ·unfold RX.ov;rw[hXN];exact ho9
 ·refine⟨?_,?_,hdl⟩
  ·show wr.heap.size≠db;omega
  ·show wr.heap.size≠lb;omega
 ·have:=hJ.bel.size;refine⟨?_,?_,?_⟩
  ·exact this
  ·show w0.heap.size≤db;omega
  ·show w0.heap.size≤lb;omega
 ·refine⟨hs9,?_,?_⟩
  ·show db<_;omega
  ·show lb<_;omega
 ·intro b e;unfold RX.ov at e;rw[hXN]at e;have h1:=(ho.1.lt b e).2;refine⟨?_,fun h=>?_,fun h=>?_⟩
  ·show b≠wr.heap.size;omega
  ·have h:b=db:=h;exact hJ.n1 _ _ db rfl rfl (by simp[Value.ownBlock]) (by rw[e,h])
  ·have h:b=lb:=h;exact hJ.n2 _ _ lb rfl rfl (by simp[Value.ownBlock]) (by rw[e,h])
end Go.Proofs.YtbnkoefljcekbaaGreatDoor.C9