/-
 Several texts of mine as one, without what is not wanted here: XRqK.
-/
import Derived.Test.YtbnkoefljcekbaaGreatDoorPyQC9
set_option linter.unusedVariables false
set_option linter.unusedSimpArgs false
set_option maxRecDepth 100000
set_option maxHeartbeats 8000000
namespace Go.Proofs.YtbnkoefljcekbaaGreatDoor.C9
open Go.ChangeShapes Go.WideShapes Go.Deep Go.RowKit Go.Maps
theorem cell_IntK {w:World} {b off m k:Nat} {l:List Int} {x:Int} (h:SlAt RInt w (some ⟨b,off,none⟩) m l) (hx:l[k]? = some x):w.cell? ⟨b,off+k,none⟩=some (.int .i64 x):=by
 have hk:=(List.getElem?_eq_some_iff.1 hx).1;obtain⟨b',off',hA,hc⟩:=h.2.1 (by have:=h.1;omega);obtain⟨rfl,rfl⟩:b=b'∧off=off':=by simpa using hA
 have:=hc k x hx 0 _ rfl
 simpa[RInt]using this
theorem nm_less {x:Farm} (h:FarmOk x) {j k:Nat} (hj:j<x.workers.l.length) (hk:k<x.workers.l.length):Op.bytesLess (wkOf x j).name.toList (wkOf x k).name.toList=decide (j<k):=by
 have e:ltS (wkOf x j).name (wkOf x k).name=decide (j<k):=by
  rw[ltS_cmp,wkOf_get (List.getElem?_eq_getElem hj),wkOf_get (List.getElem?_eq_getElem hk)];have hp:=List.pairwise_iff_getElem.1 h.wkr
  rcases Nat.lt_trichotomy j k with hc | hc | hc
  ·rw[hp j k hj hk hc,decide_eq_true hc];rfl
  ·subst hc;rw[(cmpS_zero _ _).2 rfl,decide_eq_false (Nat.lt_irrefl _)];rfl
  ·have e2:decide (j<k)=false:=decide_eq_false (by omega);rw[cmpS_swap,hp k j hk hj hc,e2];rfl
 exact e
def finQT (F:FP) (q:QS) (m:Nat):QS:={ q with runs:=q.runs.map (finTo F q.at_ q.runs m),done:=fun k=>q.done k||(decide (k<m)&&hasDone F q.at_ q.runs k) }
theorem finQT_zero (F:FP) (q:QS):(finQT F q 0).runs=q.runs∧∀ k,(finQT F q 0).done k=q.done k:=by
 refine⟨finTo_zero F q.at_ q.runs,fun k=>?_⟩;show (q.done k||(decide (k<0)&&_))=_;simp
theorem hasDone_lt {F:FP} {t:Int} {R:List RR} {N k:Nat} (h:∀ r∈R,r.work<N) (hd:hasDone F t R k=true):k<N:=by
 unfold hasDone at hd;rw[List.any_eq_true]at hd;obtain⟨r,hr,he⟩:=hd;rw[Bool.and_eq_true,beq_iff_eq]at he;rw[← he.1];exact h r hr
theorem finQT_all {F:FP} {q:QS} {N:Nat} (h:∀ r∈q.runs,r.work<N):(finQT F q N).runs=(finQ F q).runs∧∀ k,(finQT F q N).done k=(finQ F q).done k:=by
 refine⟨finTo_all q.at_ h,fun k=>?_⟩;show (q.done k||(decide (k<N)&&hasDone F q.at_ q.runs k))=(q.done k||hasDone F q.at_ q.runs k)
 cases hd:hasDone F q.at_ q.runs k
 ·simp
 ·rw[decide_eq_true (hasDone_lt h hd)];rfl
theorem RN.finT {X:RX} {q:QS} (h:RN X q) (m:Nat):RN X (finQT X.F q m):=by
 refine⟨fun r hr=>?_,by show (q.runs.map _).length≤_;rw[List.length_map];exact h.len,h.t0,h.t1,fun r hr=>?_⟩
 ·obtain⟨s,hs,rfl⟩:=List.mem_map.1 hr;obtain⟨e1,e2,_⟩:=finTo_work X.F q.at_ q.runs m s;rw[e1,e2];exact h.nm s hs
 ·obtain⟨s,hs,rfl⟩:=List.mem_map.1 hr;rw[(finTo_work X.F q.at_ q.runs m s).2.2];exact h.fr s hs
def FqRel (X:RX) (rv:Value) (q:QS) (n:Nat) (w0:World) (i:Value) (wr:World):Prop:=∃ m:Nat,m≤n∧i = .int .i64 m∧QA X rv (finQT X.F q m) w0 wr
def FbRel (F:FP) (t:Int) (R:List RR) (k c:Nat) (w6:World) (v i:Value) (wr:World):Prop:=∃ j:Nat,j≤c∧i = .int .i64 j∧v = .int .i64 (bI (((gix R k).take j).foldl (bstI F t R) none))∧Below w6.heap.size w6 wr
def FsRel (X:RX) (rv:Value) (q:QS) (R:List RR) (k c g:Nat) (w0 w6:World) (i:Value) (wr:World):Prop :=
 ∃ j:Nat,j≤c∧i = .int .i64 j∧QA X rv { q with runs:=((gix R k).take j).foldl (stopAt q.at_ 3) R } w0 wr∧w6.heap.size≤wr.heap.size∧∀ b,b<w6.heap.size→b≠g→wr.heap[b]? = w6.heap[b]?
theorem slAt_heapK {A:Option Addr} {n:Nat} {l:List Int} {w w':World} (h:SlAt RInt w A n l) (hk:∀ a,A=some a→a.block<w.heap.size→w'.heap[a.block]? = w.heap[a.block]?):SlAt RInt w' A n l:=by
 refine⟨h.1,fun hn=>?_,h.2.2⟩;obtain⟨b,off,rfl,hc⟩:=h.2.1 hn;refine⟨b,off,rfl,fun i x hx j v hv=>?_⟩;have:=hc i x hx j v hv;exact(World.cell?_of_block (a:=⟨b,off+i*RInt.size+j,none⟩) (hk ⟨b,off,none⟩ rfl (show b<w.heap.size from cell?_lt this))).trans this
theorem bst_mem {F:FP} {t:Int} {R:List RR} {l:List Nat} {b:Nat} (h:l.foldl (bstI F t R) none=some b):b∈l:=by
 rcases((bst_ok F t R l none).som b h).1 with hc | hc
 ·cases hc
 ·exact hc.1
theorem keep4k {w6 W W':World} {a0 a1 a2 a3:Addr} {v0 v1 v2 v3:Value} (hb:Below W.heap.size W W') (h:Below w6.heap.size w6 W∧W.cell? a0=some v0∧W.cell? a1=some v1∧W.cell? a2=some v2∧W.cell? a3=some v3):Below w6.heap.size w6 W'∧W'.cell? a0=some v0∧W'.cell? a1=some v1∧W'.cell? a2=some v2∧W'.cell? a3=some v3 :=
 ⟨h.1.trans (hb.mono h.1.size),keepC hb h.2.1,keepC hb h.2.2.1,keepC hb h.2.2.2.1,keepC hb h.2.2.2.2⟩
theorem rfinish_any {X:RX} {rv:Value} {q:QS} {w0 W:World} (hA:QA X rv q w0 W) (hS:RS X w0) (hNq:RN X q) (hpw:∀ k,(goingOf q.runs k).Pairwise fun a b=>a.worker≠b.worker) (hfr:∀ r∈q.runs,r.from_≤1000000000) :
  Calls Tryz.prog 76 #[.pointer (some ⟨X.f,0,none⟩)] W (LoAns X rv (finQ X.F q) w0):=by
 obtain⟨A,cap,hrv,hrv1⟩:=hA.row;obtain⟨nR,hnR⟩:∃ n,q.runs.length=n:=⟨_,rfl⟩;rw[hnR]at hrv hrv1;have hn4:nR≤4000:=by rw[← hnR];exact hNq.len
 have hwl:=hS.ok.wo.len;have hxn:X.x.works.l.length=X.x.works.n:=hS.fx.2.1.1.1;have hnX:=hS.nX;have hXn:X.N=X.x.works.n:=rfl;obtain⟨n,hn⟩:∃ n,X.x.works.n=n:=⟨_,rfl⟩;have hn2:n≤200:=by omega
 have b1:=(hA.blk 1 _ rfl).1;rw[hn]at b1 hXn;have hst:FqRel X rv q n w0 (.int .i64 0) W:=⟨0,Nat.zero_le _,rfl,hA.congr (finQT_zero X.F q).1.symm rfl (fun k=>((finQT_zero X.F q).2 k).symm) (fun _=>rfl)⟩;obtain⟨Z,hZ⟩:∃ Z,LoAns X rv (finQ X.F q) w0=Z:=⟨_,rfl⟩;have RZ:∀ W',QA X rv (finQT X.F q n) w0 W'→Z (.returned (.tuple #[])) W':=fun W' h=>by
  rw[← hZ];have hall:=finQT_all (F:=X.F) (q:=q) (N:=n) (fun r hr=>by have:=(hNq.nm r hr).2;omega);exact⟨rfl,h.congr hall.1 rfl hall.2 (fun _=>rfl)⟩
 have hat:I64 q.at_:=by unfold I64;have:=hNq.t0;have:=hNq.t1;omega
 obtain⟨t,ht⟩:∃ t,q.at_=t:=⟨_,rfl⟩;rw[hZ];obtain⟨hAH,hSH,hNqH,hpwH,hfrH,hrvH,hrv1H,hnRH,hxnH,hnXH,hXnH,hnH,hstH,hZH,RZH,hatH,htH⟩:=hqc hA hS hNq hpw hfr hrv hrv1 hnR (hqc hxn hnX hXn hn hst hZ RZ hat (Lib.hid ht));clear hA hS hNq hpw hfr hrv hrv1 hnR hxn hnX hXn hn hst hZ RZ hat ht;go_enter Tryz.func76,Tryz.ntmps76;go_wp2_with fail;clear b1
 go_loopw [18] (fun i wr=>FqRel X rv q n w0 i wr) (fun i _=>n-(intOf i).toNat)
 case atStart=>exact hstH.out
 case round =>
  clear hstH;obtain⟨m,hm,rfl,hA⟩:=hrel
  by_cases hlt:m<n
  ·have hil:m<X.x.works.l.length:=by have:=hxnH.out;have:=hnH.out;omega
   obtain⟨z,hz⟩:∃ z,X.x.works.l[m]? = some z:=⟨X.x.works.l[m]'hil,List.getElem?_eq_getElem _⟩;have hzw:woOf X.x m=z:=woOf_get hz;have hxs:=hSH.out.fx.2.1.1.below hA.bel;rw[hnH.out]at hxs;obtain⟨bx,ox,hXA,_⟩:=hxs.2.1 (by omega);rw[hXA]at hxs ⊢;obtain⟨x0,x1,x2,x3⟩:=cells_Work hxs hz;have hNm:RN X (finQT X.F q m):=hNqH.out.finT m;have hnx:=finTo_next (F:=X.F) (t:=q.at_) (R:=q.runs) (k:=m) (hpwH.out m);have hgoing:=fun (V:World) (hV:QA X rv (finQT X.F q m) w0 V)=>going_any hV hSH.out hNm hil;rw[hzw]at hgoing;obtain⟨zi,zn,zs,za⟩:=z;simp only at x0 x1 x2 x3 hgoing;obtain⟨W5,hW5⟩:∃ Y,wr.alloc (.cells #[.string zi,.slice zn.A zn.n zn.cap,.int .i64 zs,.slice za.A za.n za.cap] 86)=Y:=⟨_,rfl⟩;obtain⟨sb,hsb⟩:∃ b,wr.heap.size=b:=⟨_,rfl⟩;have hb5:Below wr.heap.size wr W5:=by rw[← hW5];exact(Below.refl _ _).alloc (Nat.le_refl _) _
   have hA5:=hA.below hb5;have hgoing5:=hgoing W5 hA5;obtain⟨Rm,hRm⟩:∃ R,(finQT X.F q m).runs=R:=⟨_,rfl⟩;have hRme:q.runs.map (finTo X.F q.at_ q.runs m)=Rm:=hRm;rw[hRme]at hnx;have hRl:Rm.length=nR:=by rw[← hRme,List.length_map];exact hnRH.out
   have hRf:∀ r∈Rm,0≤r.from_∧r.from_≤1000000000:=fun r hr=>by
    rw[← hRme]at hr;obtain⟨s,hs,rfl⟩:=List.mem_map.1 hr;rw[(finTo_work X.F q.at_ q.runs m s).2.2];exact⟨(hNqH.out.fr s hs).1,hfrH.out s hs⟩
   have hRn:∀ r∈Rm,r.worker<X.F.nW∧r.work<X.F.nX:=fun r hr=>hNm.nm r (by rw[hRm];exact hr);have hgoR:=hgoing5;rw[hRm]at hgoR;clear hgoing hgoing5;obtain⟨hAH,hilH,hzH,hzwH,hxsH,hXAH,hNmH,hW5H,hsbH,hb5H,hA5H,hnxH,hRmH,hRmeH,hRlH,hRfH,hRnH,hgoRH⟩:=hq2 hA (hqc hil hz hzw hxs hXA hNm hW5 hsb (hqc hb5 hA5 hnx hRm hRme hRl hRf hRn (Lib.hid hgoR)));clear hA hil hz hzw hxs hXA hNm hW5 hsb hb5 hA5 hnx hRm hRme hRl hRf hRn hgoR;have s0:(wr.alloc (.cells #[.string zi,.slice zn.A zn.n zn.cap,.int .i64 zs,.slice za.A za.n za.cap] 86)).cell? ⟨wr.heap.size,0,none⟩=some (.string zi):=cell_new _ _ _ 0;go_wp2_with fail;simp only[hW5H.out,hsbH.out];clear s0 x0 x1 x2 x3;refine hgoRH.out.mono ?_;rintro e w6 ⟨A6,c,c6,rfl,hown6,hn6,hb6⟩;have hcl:(nz (gix Rm m)).length=c:=hown6.len;have hcg:(gix Rm m).length=c:=by rw[← hcl];unfold nz;rw[List.length_map]
   have hA6:=hA5H.out.below hb6;have hs6:=hown6.slAt;have hA6lt:∀ a,A6=some a→W5.heap.size≤a.block:=fun a e=>by
    subst e;exact(hown6.1.lt a.block rfl).1
   have hst2:FbRel X.F t Rm m c w6 (.int .i64 (-1)) (.int .i64 0) w6:=⟨0,Nat.zero_le _,rfl,rfl,Below.refl _ _⟩;have hc4:c≤nR:=by rw[← hRlH.out];exact hn6
   obtain⟨hb6H,hown6H,hclH,hcgH,hA6H,hs6H,hA6ltH,hst2H,hn6H⟩:=hqc hb6 hown6 hcl hcg hA6 hs6 hA6lt hst2 (Lib.hid hn6);clear hb6 hown6 hcl hcg hA6 hs6 hA6lt hst2 hn6;go_wp2_with fail
   go_loopw [4,29] (fun v i wq=>FbRel X.F t Rm m c w6 v i wq) (fun _ i _=>c-(intOf i).toNat)
   case atStart=>exact hst2H.out
   case round =>
    clear hst2H;obtain⟨j,hj,rfl,rfl,hbq⟩:=hrel;obtain⟨bo,hbo⟩:∃ b,((gix Rm m).take j).foldl (bstI X.F t Rm) none=b:=⟨_,rfl⟩;rw[hbo]
    by_cases hlt2:j<c
    ·obtain⟨i,hi⟩:∃ i,(gix Rm m)[j]? = some i:=⟨(gix Rm m)[j]'(by have:=hcgH.out;omega),List.getElem?_eq_getElem _⟩;obtain⟨r,hr,hgr,hwr⟩:=mem_gix.1 (List.mem_of_getElem? hi);have hin:i<nR:=by have:=(List.getElem?_eq_some_iff.1 hr).1;have:=hRlH.out;omega
     obtain⟨g,hA8⟩:=hrv1H.out (by omega);subst hA8;have hsq:=hs6H.out.below hbq;obtain⟨b6,o6,hA66,_⟩:=hsq.2.1 (by omega);subst hA66;have f0:=cell_IntK hsq (k:=j) (x:=(i:Int)) (by unfold nz;rw[List.getElem?_map,hi];rfl);have hAq:=hA6H.out.below hbq;have hAq':=hAq;rw[hrvH.out]at hAq';have hr2:(finQT X.F q m).runs[i]? = some r:=by rw[hRmH.out];exact hr
     obtain⟨e0,e1,e2,e3,e4⟩:=cells_Run hAq'.runs.slAt (x:=toRun X.x r) (by rw[List.getElem?_map,hr2];rfl);rw[Nat.zero_add]at e0 e1 e2 e3 e4;have hrm:=List.mem_of_getElem? hr;have hnm:=hRnH.out r hrm;have hkl:r.worker<X.x.workers.l.length:=by rw[← hSH.out.nW];exact hnm.1
     have hrend:=rend_any hAq hSH.out hnm.1 hnm.2 (hRfH.out r hrm).1 (hRfH.out r hrm).2;unfold runV at hrend;have hcd:candI X.F t Rm i=(X.F.endAt r.worker r.work r.from_==some t):=by
      unfold candI;rw[hr];show cand X.F t r=_;unfold cand;rw[hgr,Bool.true_and]
     have hstep:((gix Rm m).take (j+1)).foldl (bstI X.F t Rm) none=bstI X.F t Rm bo i:=by
      rw[List.take_add_one,hi,Option.toList_some,List.foldl_append,hbo];rfl
     have hend:(toRun X.x r).end_=r.end_:=rfl;have hwkr:(toRun X.x r).worker=(wkOf X.x r.worker).name:=rfl;have hidr:(toRun X.x r).id_=(woOf X.x r.work).id_:=rfl;have hfrr:(toRun X.x r).from_=r.from_:=rfl;have htor:(toRun X.x r).to_=r.to_:=rfl;rw[hend]at e4;rw[hwkr]at e1 hrend;rw[hidr]at e0 hrend;rw[hfrr]at e2;rw[htor]at e3;obtain⟨rwk,hrwk⟩:∃ s,(wkOf X.x r.worker).name=s:=⟨_,rfl⟩;obtain⟨rid,hrid⟩:∃ s,(woOf X.x r.work).id_=s:=⟨_,rfl⟩;obtain⟨rfm,hrfm⟩:∃ s,r.from_=s:=⟨_,rfl⟩;obtain⟨rto,hrto⟩:∃ s,r.to_=s:=⟨_,rfl⟩;obtain⟨ren,hren⟩:∃ s,r.end_=s:=⟨_,rfl⟩;rw[hrwk]at e1 hrend;rw[hrid]at e0 hrend;rw[hrfm]at e2 hrend;rw[hrto]at e3 hrend;rw[hren]at e4 hrend;have b6':=(hAq.blk 6 _ rfl).1;have b7:=(hAq'.blk 7 _ rfl).1;have b6:wr.cell? ⟨X.f,6,none⟩=some (.int .i64 t):=by rw[← htH.out];exact b6'
     clear b6';have Rno:bstI X.F t Rm bo i=bo→∀ V,Below w6.heap.size w6 V→FbRel X.F t Rm m c w6 (.int .i64 (bI bo)) (.int .i64 ((j:Int)+1)) V:=fun h V hV=>⟨j+1,hlt2,by go_num,by rw[hstep,h],hV⟩;have Ryes:bstI X.F t Rm bo i=some i→∀ V,Below w6.heap.size w6 V→FbRel X.F t Rm m c w6 (.int .i64 (i:Int)) (.int .i64 ((j:Int)+1)) V:=fun h V hV=>⟨j+1,hlt2,by go_num,by rw[hstep,h];rfl,hV⟩;have hixi:(i:Int)<(nR:Int):=by omega
     obtain⟨hAqH,hAq'H,hbqH,hrH,hgrH,hwrH,hr2H,hrmH,hnmH,hklH,hsqH,hiH,hcdH,hstepH,hendH,hwkrH,hidrH,hfrrH,htorH,hrwkH,hridH,hrfmH,hrtoH,hrenH,RnoH,RyesH,hboH,hrendH⟩:=hq2 hAq (hq2 hAq' (hq2 hbq (hqc hr hgr hwr hr2 hrm hnm hkl hsq (hqc hi hcd hstep hend hwkr hidr hfrr htor (hqc hrwk hrid hrfm hrto hren Rno Ryes hbo (Lib.hid hrend))))));clear hAq hAq' hbq hr hgr hwr hr2 hrm hnm hkl hsq hi hcd hstep hend hwkr hidr hfrr htor hrwk hrid hrfm hrto hren Rno Ryes hbo hrend;go_wp2_with fail;refine hrendH.out.mono ?_;rintro e w7 ⟨a,bb,rfl,hab,hb7⟩;have hb67:=hbqH.out.trans (hb7.mono hbqH.out.size);have hH:∀ b0 nm0,wr.cell? ⟨g,b0*5+1,none⟩=some (.string nm0)→Below w6.heap.size w6 w7∧w7.cell? ⟨X.f,6,none⟩=some (.int .i64 t)∧w7.cell? ⟨X.f,7,none⟩=some (.slice (some ⟨g,0,none⟩) nR cap)∧w7.cell? ⟨g,i*5+1,none⟩=some (.string rwk)∧w7.cell? ⟨g,b0*5+1,none⟩=some (.string nm0):=fun b0 nm0 h=>⟨hb67,keepC hb7 b6,keepC hb7 b7,keepC hb7 e1,keepC hb7 h⟩;have hH0:=hH i rwk e1;have hcd:=hcdH.out;rw[hab]at hcd;clear f0 e0 e1 e2 e3 e4 b6 b7
     cases bb
     ·rw[if_neg (by decide)]at hcd;have R:=RnoH.out (by unfold bstI;rw[hcd];rfl);clear hH RnoH RyesH hcd;obtain⟨habH,hb7H,hb67H,RH⟩:=hq2 hab (hq2 hb7 (hq2 hb67 (Lib.hid R)));clear hab hb7 hb67 R;go_wp2_with fail;refine wp_region_held_drew (S:=fun V:World=>Below w6.heap.size w6 V∧V.cell? ⟨X.f,6,none⟩=some (.int .i64 t)∧V.cell? ⟨X.f,7,none⟩=some (.slice (some ⟨g,0,none⟩) nR cap)∧V.cell? ⟨g,i*5+1,none⟩=some (.string rwk)∧V.cell? ⟨g,i*5+1,none⟩=some (.string rwk)) (by kernel_rfl) (keep4k (Below.refl _ _).drew hH0) (fun hHeld=>?_);refine tkS [(0,45),(1,46)] ?_;(iterate 2 (refine tkL ?_ ?_ ?_;rotate_left;(· intro w hSw;(try dsimp only at hSw);go_simp;(try with_reducible rfl));(try simp only[Act.put,tkA,tkB,tkC])));refine tkE ?_;refine tkS [(2,47),(3,48),(4,49),(5,50),(6,51),(7,52)] ?_;(iterate 6 (refine skL ?_;(try simp only[Act.put,tkA,tkB,tkC])));refine tkE ?_;refine tkS [(8,53),(9,54)] ?_;(iterate 2 (refine tkL ?_ ?_ ?_;rotate_left;(· intro w hSw;(try dsimp only at hSw);go_simp;(try with_reducible rfl));(try simp only[Act.put,tkA,tkB,tkC])));refine tkE ?_;refine tkS [(10,55),(11,56),(12,57)] ?_;(iterate 3 (refine skL ?_;(try simp only[Act.put,tkA,tkB,tkC])));refine tkE ?_;refine tkS [(13,58),(14,59),(15,60),(16,61),(17,62),(18,63),(19,64),(20,65),(21,66),(22,67),(23,68),(24,69),(25,70),(26,71),(27,72),(28,73),(29,74)] ?_;(iterate 17 (refine skL ?_;(try simp only[Act.put,tkA,tkB,tkC])));refine tkE ?_;refine tkS [(30,75)] ?_;(iterate 1 (refine skL ?_;(try simp only[Act.put,tkA,tkB,tkC])));refine tkE ?_
      refine tkS [(31,76)] ?_;(iterate 1 (refine tkL ?_ ?_ ?_;rotate_left;(· intro w hSw;(try dsimp only at hSw);go_simp;(try with_reducible rfl));(try simp only[Act.put,tkA,tkB,tkC])));refine tkE ?_;refine wpAnyH_done (by kernel_rfl) ?_ _;have R:=RH.out _ hHeld.1;clear hHeld hH0 RH;have RH:=Lib.hid R;clear R;go_wp2;refine⟨?rel,?measure⟩
      case measure=>(simp[intOf];omega)
      case rel=>first | exact RH.out | exact⟨rfl,RH.out⟩
     ·rw[if_pos rfl]at hcd;have hcd2:candI X.F t Rm i=(a==t):=by rw[hcd];simp
      by_cases ha:a=t
      ·have ha':(a==t)=true:=by simpa using ha
       rw[ha']at hcd2
       cases bo with
       | none =>
        have hbn:bI none = -1:=rfl;have R:=RyesH.out (by unfold bstI;rw[hcd2];rfl);clear hH RnoH RyesH hcd hcd2;simp only[hbn];clear hbn;obtain⟨habH,hb7H,hb67H,RH⟩:=hq2 hab (hq2 hb7 (hq2 hb67 (Lib.hid R)));clear hab hb7 hb67 R;go_wp2_with fail;refine wp_region_held_drew (S:=fun V:World=>Below w6.heap.size w6 V∧V.cell? ⟨X.f,6,none⟩=some (.int .i64 t)∧V.cell? ⟨X.f,7,none⟩=some (.slice (some ⟨g,0,none⟩) nR cap)∧V.cell? ⟨g,i*5+1,none⟩=some (.string rwk)∧V.cell? ⟨g,i*5+1,none⟩=some (.string rwk)) (by kernel_rfl) (keep4k (Below.refl _ _).drew hH0) (fun hHeld=>?_);refine tkS [(0,45),(1,46),(2,47),(3,48),(4,49),(5,50),(6,51),(7,52),(8,53),(9,54),(10,55),(11,56),(12,57)] ?_;(iterate 13 (refine tkL ?_ ?_ ?_;rotate_left;(· intro w hSw;(try dsimp only at hSw);go_simp;(try with_reducible rfl));(try simp only[Act.put,tkA,tkB,tkC])));refine tkE ?_;refine tkS [(13,58),(14,59),(15,60),(16,61),(17,62),(18,63),(19,64),(20,65),(21,66),(22,67),(23,68),(24,69),(25,70),(26,71),(27,72),(28,73),(29,74)] ?_;(iterate 17 (refine skL ?_;(try simp only[Act.put,tkA,tkB,tkC])));refine tkE ?_;refine tkS [(30,75),(31,76)] ?_;(iterate 2 (refine tkL ?_ ?_ ?_;rotate_left;(· intro w hSw;(try dsimp only at hSw);go_simp;(try with_reducible rfl));(try simp only[Act.put,tkA,tkB,tkC])));refine tkE ?_;refine wpAnyH_done (by kernel_rfl) ?_ _;have R:=RH.out _ hHeld.1;clear hHeld hH0 RH;have RH:=Lib.hid R;clear R;go_wp2;refine⟨?rel,?measure⟩
        case measure=>(simp[intOf];omega)
        case rel=>first | exact RH.out | exact⟨rfl,RH.out⟩
       | some b0 =>
        have hbn:bI (some b0)=(b0:Int):=rfl;have hb0m:=List.mem_of_mem_take (bst_mem hboH.out);obtain⟨r0,hr0,_,_⟩:=mem_gix.1 hb0m;have hb0n:b0<nR:=by have:=(List.getElem?_eq_some_iff.1 hr0).1;have:=hRlH.out;omega
        have hb0i:(b0:Int)<(nR:Int):=by omega
        have hb0i0:decide ((b0:Int)<0)=false:=by simp
        have hr02:(finQT X.F q m).runs[b0]? = some r0:=by rw[hRmH.out];exact hr0
        have q1:=(cells_Run (hAq'H.out.runs.slAt) (x:=toRun X.x r0) (by rw[List.getElem?_map,hr02];rfl)).2.1;rw[Nat.zero_add]at q1;have hk0:r0.worker<X.x.workers.l.length:=by rw[← hSH.out.nW];exact(hRnH.out r0 (List.mem_of_getElem? hr0)).1
        have hless:=nm_less hSH.out.ok hklH.out hk0;have hwkr0:(toRun X.x r0).worker=(wkOf X.x r0.worker).name:=rfl;rw[hwkr0]at q1;obtain⟨rw0,hrw0⟩:∃ s,(wkOf X.x r0.worker).name=s:=⟨_,rfl⟩;rw[hrw0]at q1 hless;rw[hrwkH.out]at hless;have hH0:=hH b0 rw0 q1;have hw1:wkI Rm i=r.worker:=by unfold wkI;rw[hrH.out];rfl
        have hw2:wkI Rm b0=r0.worker:=by unfold wkI;rw[hr0];rfl
        clear hH q1 hwkr0 hrw0 hk0 hr02 hb0m
        by_cases hl:r.worker<r0.worker
        ·rw[decide_eq_true hl]at hless;have R:=RyesH.out (by unfold bstI;rw[hcd2,if_pos rfl];simp only;rw[hw1,hw2,if_pos hl]);clear RnoH RyesH hcd hcd2 hw1 hw2 hl;simp only[hbn];clear hbn;obtain⟨habH,hb7H,hb67H,RH,hr0H⟩:=hqb hab hb7 hb67 R (Lib.hid hr0);clear hab hb7 hb67 R hr0;go_wp2_with fail;refine wp_region_held_drew (S:=fun V:World=>Below w6.heap.size w6 V∧V.cell? ⟨X.f,6,none⟩=some (.int .i64 t)∧V.cell? ⟨X.f,7,none⟩=some (.slice (some ⟨g,0,none⟩) nR cap)∧V.cell? ⟨g,i*5+1,none⟩=some (.string rwk)∧V.cell? ⟨g,b0*5+1,none⟩=some (.string rw0)) (by kernel_rfl) (keep4k (Below.refl _ _).drew hH0) (fun hHeld=>?_);refine tkS [(0,45),(1,46),(2,47),(3,48),(4,49),(5,50),(6,51),(7,52),(8,53),(9,54),(10,55),(11,56),(12,57),(13,58),(14,59),(15,60),(16,61),(17,62),(18,63),(19,64),(20,65),(21,66),(22,67),(23,68),(24,69),(25,70),(26,71),(27,72),(28,73),(29,74)] ?_;(iterate 30 (refine tkL ?_ ?_ ?_;rotate_left;(· intro w hSw;(try dsimp only at hSw);go_simp;(try with_reducible rfl));(try simp only[Act.put,tkA,tkB,tkC])));refine tkE ?_;refine tkS [(30,75),(31,76)] ?_;(iterate 2 (refine tkL ?_ ?_ ?_;rotate_left;(· intro w hSw;(try dsimp only at hSw);go_simp;(try with_reducible rfl));(try simp only[Act.put,tkA,tkB,tkC])));refine tkE ?_;refine wpAnyH_done (by kernel_rfl) ?_ _;have R:=RH.out _ hHeld.1;clear hHeld hH0 RH;have RH:=Lib.hid R;clear R;go_wp2;refine⟨?rel,?measure⟩
         case measure=>(simp[intOf];omega)
         case rel=>first | exact RH.out | exact⟨rfl,RH.out⟩
        ·rw[decide_eq_false hl]at hless;have R:=RnoH.out (by unfold bstI;rw[hcd2,if_pos rfl];simp only;rw[hw1,hw2,if_neg hl]);clear RnoH RyesH hcd hcd2 hw1 hw2 hl;rw[hbn]at R;simp only[hbn];clear hbn;obtain⟨habH,hb7H,hb67H,RH,hr0H⟩:=hqb hab hb7 hb67 R (Lib.hid hr0);clear hab hb7 hb67 R hr0;go_wp2_with fail;refine wp_region_held_drew (S:=fun V:World=>Below w6.heap.size w6 V∧V.cell? ⟨X.f,6,none⟩=some (.int .i64 t)∧V.cell? ⟨X.f,7,none⟩=some (.slice (some ⟨g,0,none⟩) nR cap)∧V.cell? ⟨g,i*5+1,none⟩=some (.string rwk)∧V.cell? ⟨g,b0*5+1,none⟩=some (.string rw0)) (by kernel_rfl) (keep4k (Below.refl _ _).drew hH0) (fun hHeld=>?_);refine tkS [(0,45),(1,46),(2,47),(3,48),(4,49),(5,50),(6,51),(7,52),(8,53),(9,54),(10,55),(11,56),(12,57),(13,58),(14,59),(15,60),(16,61),(17,62),(18,63),(19,64),(20,65),(21,66),(22,67),(23,68),(24,69),(25,70),(26,71),(27,72),(28,73),(29,74)] ?_;(iterate 30 (refine tkL ?_ ?_ ?_;rotate_left;(· intro w hSw;(try dsimp only at hSw);go_simp;(try with_reducible rfl));(try simp only[Act.put,tkA,tkB,tkC])));refine tkE ?_;refine tkS [(30,75),(31,76)] ?_;(iterate 2 (refine tkL ?_ ?_ ?_;rotate_left;(· intro w hSw;(try dsimp only at hSw);go_simp;(try with_reducible rfl));(try simp only[Act.put,tkA,tkB,tkC])));refine tkE ?_;refine wpAnyH_done (by kernel_rfl) ?_ _;have R:=RH.out _ hHeld.1;clear hHeld hH0 RH;have RH:=Lib.hid R;clear R;go_wp2;refine⟨?rel,?measure⟩
         case measure=>(simp[intOf];omega)
         case rel=>first | exact RH.out | exact⟨rfl,RH.out⟩
      ·have ha':(a==t)=false:=by simpa using ha
       rw[ha']at hcd2;have R:=RnoH.out (by unfold bstI;rw[hcd2];rfl);clear hH RnoH RyesH hcd hcd2 ha;obtain⟨habH,hb7H,hb67H,RH⟩:=hq2 hab (hq2 hb7 (hq2 hb67 (Lib.hid R)));clear hab hb7 hb67 R;go_wp2_with fail;refine wp_region_held_drew (S:=fun V:World=>Below w6.heap.size w6 V∧V.cell? ⟨X.f,6,none⟩=some (.int .i64 t)∧V.cell? ⟨X.f,7,none⟩=some (.slice (some ⟨g,0,none⟩) nR cap)∧V.cell? ⟨g,i*5+1,none⟩=some (.string rwk)∧V.cell? ⟨g,i*5+1,none⟩=some (.string rwk)) (by kernel_rfl) (keep4k (Below.refl _ _).drew hH0) (fun hHeld=>?_);refine tkS [(0,45),(1,46),(2,47),(3,48),(4,49),(5,50),(6,51),(7,52),(8,53),(9,54)] ?_;(iterate 10 (refine tkL ?_ ?_ ?_;rotate_left;(· intro w hSw;(try dsimp only at hSw);go_simp;(try with_reducible rfl));(try simp only[Act.put,tkA,tkB,tkC])));refine tkE ?_;refine tkS [(10,55),(11,56),(12,57)] ?_;(iterate 3 (refine skL ?_;(try simp only[Act.put,tkA,tkB,tkC])));refine tkE ?_;refine tkS [(13,58),(14,59),(15,60),(16,61),(17,62),(18,63),(19,64),(20,65),(21,66),(22,67),(23,68),(24,69),(25,70),(26,71),(27,72),(28,73),(29,74)] ?_;(iterate 17 (refine skL ?_;(try simp only[Act.put,tkA,tkB,tkC])));refine tkE ?_;refine tkS [(30,75)] ?_;(iterate 1 (refine skL ?_;(try simp only[Act.put,tkA,tkB,tkC])));refine tkE ?_;refine tkS [(31,76)] ?_;(iterate 1 (refine tkL ?_ ?_ ?_;rotate_left;(· intro w hSw;(try dsimp only at hSw);go_simp;(try with_reducible rfl));(try simp only[Act.put,tkA,tkB,tkC])));refine tkE ?_;refine wpAnyH_done (by kernel_rfl) ?_ _;have R:=RH.out _ hHeld.1;clear hHeld hH0 RH
       have RH:=Lib.hid R;clear R;go_wp2;refine⟨?rel,?measure⟩
       case measure=>(simp[intOf];omega)
       case rel=>first | exact RH.out | exact⟨rfl,RH.out⟩
    ·obtain rfl:j=c:=by omega
     have hfull:(gix Rm m).take j=gix Rm m:=List.take_of_length_le (by have:=hcgH.out;omega);rw[hfull]at hbo;have hnx:=hnxH.out;rw[htH.out,hbo]at hnx;have hAq:=hA6H.out.below hbq;have hsq:=hs6H.out.below hbq;have hdn:∀ k,(q.done k||(decide (k<m+1)&&hasDone X.F q.at_ q.runs k))=if k=m then (q.done m||hasDone X.F q.at_ q.runs m) else (q.done k||(decide (k<m)&&hasDone X.F q.at_ q.runs k)):=fun k=>by
      by_cases e:k=m
      ·subst e;rw[if_pos rfl,decide_eq_true (by omega),Bool.true_and]
      ·rw[if_neg e];have:decide (k<m+1)=decide (k<m):=decide_eq_decide.2 (by omega);rw[this]
     cases bo with
     | none =>
      have e1:Rm=q.runs.map (finTo X.F q.at_ q.runs (m+1)):=by
       rw[htH.out,← hnx.1];unfold finOne;rw[hbo]
      have e2:hasDone X.F q.at_ q.runs m=false:=by rw[htH.out];exact hnx.2.symm
      have R:FqRel X rv q n w0 (.int .i64 ((m:Int)+1)) wr:=⟨m+1,hlt,by go_num,hAq.congr (by rw[hRmH.out];exact e1) rfl (fun k=>by
       show (q.done k||(decide (k<m)&&_))=(q.done k||(decide (k<m+1)&&_));rw[hdn k]
       by_cases e:k=m
       ·subst e;rw[if_pos rfl,e2];simp
       ·rw[if_neg e]) (fun _=>rfl)⟩
      have hbn:bI none = -1:=rfl;simp only[hbn];clear hbn hnx hdn e1 e2 hsq;obtain⟨RH,hbqH,hboH,hfullH,hAqH⟩:=hqb R hbq hbo hfull (Lib.hid hAq);clear R hbq hbo hfull hAq;go_wp2;refine⟨?rel,?measure⟩
      case measure=>(simp[intOf];omega)
      case rel=>first | exact RH.out | exact⟨rfl,RH.out⟩
     | some b0 =>
      have e1:stopAt q.at_ 1 ((gix Rm m).foldl (stopAt q.at_ 3) Rm) b0=q.runs.map (finTo X.F q.at_ q.runs (m+1)):=by
       rw[htH.out,← hnx.1];unfold finOne;rw[hbo]
      have e2:hasDone X.F q.at_ q.runs m=true:=by rw[htH.out];exact hnx.2.symm
      obtain⟨r0,hr0,_,_⟩:=mem_gix.1 (bst_mem hbo);have hb0n:b0<nR:=by have:=(List.getElem?_eq_some_iff.1 hr0).1;have:=hRlH.out;omega
      obtain⟨g,hA8⟩:=hrv1H.out (by omega);subst hA8;have hAq':QA X (.slice (some ⟨g,0,none⟩) nR cap) { finQT X.F q m with runs:=Rm } w0 wr:=by
       rw[hrvH.out]at hAq;exact hAq.congr hRmH.out rfl (fun _=>rfl) (fun _=>rfl)
      have hst3:FsRel X (.slice (some ⟨g,0,none⟩) nR cap) (finQT X.F q m) Rm m j g w0 wr (.int .i64 0) wr:=⟨0,Nat.zero_le _,rfl,hAq',Nat.le_refl _,fun _ _ _=>rfl⟩;have hne:∀ a,A6=some a→a.block≠g:=fun a e=>by
       have h1:=hA6ltH.out a e;have h2:=hA5H.out.runs.1.lt;rw[hrvH.out]at h2;have:=(h2 g rfl).2;omega
      have Rend:∀ V,QA X (.slice (some ⟨g,0,none⟩) nR cap) { finQT X.F q m with runs:=stopAt q.at_ 1 ((gix Rm m).foldl (stopAt q.at_ 3) Rm) b0 } w0 V→FqRel X rv q n w0 (.int .i64 ((m:Int)+1)) (V.setCell ⟨X.db,m,none⟩ (.bool true)):=fun V hV=>by
       have h1:=hV.setDone m true;rw[← hrvH.out]at h1;exact⟨m+1,hlt,by go_num,h1.congr e1 rfl (fun k=>by
        show (if k=m then true else (q.done k||(decide (k<m)&&_)))=(q.done k||(decide (k<m+1)&&_));rw[hdn k]
        by_cases e:k=m
        ·subst e;rw[if_pos rfl,if_pos rfl,e2];simp
        ·rw[if_neg e,if_neg e]) (fun _=>rfl)⟩
      have hb0i0:decide ((b0:Int)<0)=false:=by simp
      have hbn:bI (some b0)=(b0:Int):=rfl;simp only[hbn];clear hbn hnx hdn;obtain⟨hbqH,hboH,hfullH,hAqH,hAq'H,hst3H,hneH,RendH,hsqH,hr0H,e1H,e2H⟩:=hq2 hbq (hq2 hbo (hq2 hfull (hqc hAq hAq' hst3 hne Rend hsq hr0 e1 (Lib.hid e2))));clear hbq hbo hfull hAq hAq' hst3 hne Rend hsq hr0 e1 e2;go_wp2_with fail;obtain⟨wz,hwz⟩:∃ Y,wr=Y:=⟨_,rfl⟩
      go_loopw [83] (fun i wq=>FsRel X (.slice (some ⟨g,0,none⟩) nR cap) (finQT X.F q m) Rm m j g w0 wz i wq) (fun i _=>j-(intOf i).toNat)
      case atStart=>rw[← hwz];exact hst3H.out
      case round =>
       have hst3:=hst3H.out;clear hst3H;obtain⟨l,hl,rfl,hAl,hsz,hblk⟩:=hrel
       by_cases hlt3:l<j
       ·obtain⟨i,hi⟩:∃ i,(gix Rm m)[l]? = some i:=⟨(gix Rm m)[l]'(by have:=hcgH.out;omega),List.getElem?_eq_getElem _⟩;obtain⟨r,hr,_,_⟩:=mem_gix.1 (List.mem_of_getElem? hi);have hin:i<nR:=by have:=(List.getElem?_eq_some_iff.1 hr).1;have:=hRlH.out;omega
        have hsl:=slAt_heapK (hsqH.out) (w':=wr) (fun a e hlt=>by rw[hwz]at hlt ⊢;exact hblk a.block hlt (hneH.out a e));obtain⟨b6,o6,hA66,_⟩:=hsl.2.1 (by omega);subst hA66;have f0:=cell_IntK hsl (k:=l) (x:=(i:Int)) (by unfold nz;rw[List.getElem?_map,hi];rfl);have hstop:=stop_any hAl hin hn4 3 hatH.out (by unfold I64;omega);have hnxt:((gix Rm m).take (l+1)).foldl (stopAt q.at_ 3) Rm=stopAt q.at_ 3 (((gix Rm m).take l).foldl (stopAt q.at_ 3) Rm) i:=by
         rw[List.take_add_one,hi,Option.toList_some,List.foldl_append];rfl
        obtain⟨hAlH,hblkH,hiH,hrH,hslH,hstopH,hnxtH,hst3H⟩:=hq2 hAl (hq2 hblk (hq2 hi (hqb hr hsl hstop hnxt (Lib.hid hst3))));clear hAl hblk hi hr hsl hstop hnxt hst3;go_wp2_with fail;clear f0;refine hstopH.out.mono ?_;rintro e w8 ⟨rfl,hA8,hg8⟩;have R:FsRel X (.slice (some ⟨g,0,none⟩) nR cap) (finQT X.F q m) Rm m j g w0 wz (.int .i64 ((l:Int)+1)) w8:=⟨l+1,hlt3,by go_num,hA8.congr hnxtH.out.symm rfl (fun _=>rfl) (fun _=>rfl),Nat.le_trans hsz hg8.size,fun b h1 h2=>(hg8.block b (by omega) (fun e=>h2 (by injection e))).trans (hblkH.out b h1 h2)⟩;clear hA8 hg8;have RH:=Lib.hid R;clear R;go_wp2;refine⟨?rel,?measure⟩
        case measure=>(simp[intOf];omega)
        case rel=>first | exact RH.out | exact⟨rfl,RH.out⟩
       ·obtain rfl:l=j:=by omega
        have hAl':QA X (.slice (some ⟨g,0,none⟩) nR cap) { finQT X.F q m with runs:=(gix Rm m).foldl (stopAt q.at_ 3) Rm } w0 wr:=by
         rw[hfullH.out]at hAl;exact hAl
        have hstop:=stop_any hAl' hb0n hn4 1 hatH.out (by unfold I64;omega);obtain⟨hAlH,hAl'H,hblkH,hstopH,hst3H⟩:=hqb hAl hAl' hblk hstop (Lib.hid hst3);clear hAl hAl' hblk hstop hst3;go_wp2_with fail;refine hstopH.out.mono ?_;rintro e w8 ⟨rfl,hA8,hg8⟩;have R:=RendH.out w8 hA8;have c8:=(hA8.blk 8 _ rfl).1;rw[hXnH.out]at c8;obtain⟨d0,d1⟩:=hA8.done m (by rw[hXnH.out];exact hlt);have hmi:(m:Int)<(n:Int):=by omega
        clear hA8 hg8;have RH:=Lib.hid R;clear R;go_wp2;refine⟨?rel,?measure⟩
        case measure=>(simp[intOf];omega)
        case rel=>first | exact RH.out | exact⟨rfl,RH.out⟩
  ·obtain rfl:m=n:=by omega
   have R:=RZH.out wr hA;obtain⟨RH,hAH⟩:=hq2 R (Lib.hid hA);clear R hA;go_wp2
   go_end0
   exact RH.out
end Go.Proofs.YtbnkoefljcekbaaGreatDoor.C9