/-
 Several texts of mine as one, without what is not wanted here: XSym3V, XMrgV, XStbV, XStbO.
-/
import Derived.Test.YtpdjjjiknijpkaaGreatDoorTvDC10
set_option linter.unusedVariables false
set_option linter.unusedSimpArgs false
set_option maxRecDepth 100000
set_option maxHeartbeats 8000000
namespace Go.Proofs.YtpdjjjiknijpkaaGreatDoor.C10
open Go.ChangeShapes Go.WideShapes Go.Deep Go.RowKit
def MgHyp (C:List ByteArray) (b off n cap k:Nat):Prop:=∀ (P L R S:List NV) (a m e:Nat) (w:World),P.length=a→m=a+L.length→e=m+R.length→e-a≤k→1≤L.length→1≤R.length→SortedBy (fI C) L→SortedBy (fI C) R→RowV C w b off n (P++L++R++S) →
 Calls Tryz.prog 147 #[.slice (some ⟨b,off,none⟩) n cap,.int .i64 a,.int .i64 m,.int .i64 e,gV] w (MgAns C P (L++R) S b off n w)
def B3Rel (C:List ByteArray) (D L R:List NV) (a mid s0 r0 b off n:Nat) (w0:World) (vs vr:Value) (wr:World):Prop :=
 ∃ st r:Nat,s0≤st∧st≤r∧r≤r0∧vs = .int .i64 (st:Int)∧vr = .int .i64 (r:Int)∧(s0<st→∀ x y,L[st-1-a]? = some x→R[mid-st]? = some y→(fI C) x≤(fI C) y)∧(r<r0→∀ x y,L[r-a]? = some x→R[mid-1-r]? = some y→(fI C) y<(fI C) x)∧RowV C wr b off n D∧Srt b w0 wr
theorem sorted_parts (C:List ByteArray) {L R:List NV} {i j:Nat} (hL:SortedBy (fI C) L) (hR:SortedBy (fI C) R) (hj:j≤R.length) (hi:i≤L.length)
  (h1:0<i→∀ x y,L[i-1]? = some x→R[j]? = some y→(fI C) x≤(fI C) y) (h2:0<j→∀ x y,L[i]? = some x→R[j-1]? = some y→(fI C) y<(fI C) x) {M1 M2:List NV}
  (m1:SortedBy (fI C) M1) (m2:SortedBy (fI C) M2) (s1:SameCls (fI C) M1 (L.take i++R.take j)) (s2:SameCls (fI C) M2 (L.drop i++R.drop j)):SortedBy (fI C) (M1++M2)∧SameCls (fI C) (M1++M2) (L++R):=by
 have:=sym_step (f:=fI C) (A:=L.take i) (X:=L.drop i) (Y:=R.take j) (B:=R.drop j) (M1:=M1) (M2:=M2) (by rw[List.take_append_drop];exact hL) (by rw[List.take_append_drop];exact hR)
  (fun x hx y hy=>by
   rw[getLast_take hi]at hx;rw[head_drop]at hy
   split at hx
   ·cases hx
   ·exact h1 (by omega) x y hx hy)
  (fun x hx y hy=>by
   rw[head_drop]at hx;rw[getLast_take hj]at hy
   split at hy
   ·cases hy
   ·exact h2 (by omega) x y hx hy) m1 m2 s1 s2
 rw[List.take_append_drop,List.take_append_drop]at this;exact this
theorem merge3 (C:List ByteArray) (b off n cap k:Nat) (ih:MgHyp C b off n cap k) (P L R S:List NV) (a m e:Nat) (w:World) (hP:P.length=a) (hm:m=a+L.length) (he:e=m+R.length) (hk:e-a≤k+1) (hl1:2≤L.length) (hl2:2≤R.length) (hn:n≤1000000000) (hsL:SortedBy (fI C) L) (hsR:SortedBy (fI C) R) (hrow:RowV C w b off n (P++L++R++S)) :
  Calls Tryz.prog 147 #[.slice (some ⟨b,off,none⟩) n cap,.int .i64 a,.int .i64 m,.int .i64 e,gV] w (MgAns C P (L++R) S b off n w):=by
 have hlen:=hrow.sl.1;simp only[List.length_append]at hlen;have hen:e≤n:=by omega
 have hme:m+2≤e:=by omega
 have ham:a+2≤m:=by omega
 have hma:¬ (m:Int)-(a:Int)=1:=by omega
 have hma2:((m:Int)-(a:Int)==1)=false:=by simpa using hma
 have hem:¬ (e:Int)-(m:Int)=1:=by omega
 have hem2:((e:Int)-(m:Int)==1)=false:=by simpa using hem
 obtain⟨mid,hmid⟩:∃ mid,(a+e) / 2=mid:=⟨_,rfl⟩;have hmidi:((a:Int)+(e:Int)) / 2=(mid:Int):=by omega
 have hmid1:a<mid:=by omega
 have hmid2:mid<e:=by omega
 unfold MgHyp at ih;unfold gV at ih;unfold gV
 by_cases hmm:mid<m
 ·obtain⟨s0,hs0⟩:∃ s0,mid+m-e=s0:=⟨_,rfl⟩;have hs0i:(mid:Int)+(m:Int)-(e:Int)=(s0:Int):=by omega
  obtain⟨r0,hr0⟩:∃ r0,mid=r0:=⟨_,rfl⟩;have hsr:s0≤r0:=by omega
  have hgeo:a≤s0∧r0≤mid∧r0≤m∧mid-s0≤e-m∧(s0=a∨mid-s0=e-m)∧(r0=m∨r0=mid):=⟨by omega,by omega,by omega,by omega,.inr (by omega),.inr hr0.symm⟩;obtain⟨hrowH,hlenH,hPH,heH,hsLH,hsRH,hmH,hgeoH,hsrH,ihH,hl1H,hl2H,hs0H,hr0H,hmidH⟩:=hq2 hrow (hq2 hlen (hqb hP he hsL hsR (hqc hm hgeo hsr ih hl1 hl2 hs0 hr0 (Lib.hid hmid))));clear hrow hlen hP he hsL hsR hm hgeo hsr ih hl1 hl2 hs0 hr0 hmid;go_enter Tryz.func147,Tryz.ntmps147;go_wp2_with fail
  go_loopw [20,21] (fun vs vr wr=>B3Rel C (P++L++R++S) L R a mid s0 r0 b off n w vs vr wr) (fun vs vr _=>(intOf vr).toNat-(intOf vs).toNat)
  case atStart=>exact⟨s0,r0,Nat.le_refl _,hsrH.out,Nat.le_refl _,rfl,(by rw[hr0H.out]),fun h=>by omega,fun h=>by omega,hrowH.out,World.grownBy.refl _ _⟩
  case round =>
   obtain⟨st,r,hst0,hstr,hrr0,rfl,rfl,hgood,hbad,hrw,hs⟩:=hrel;obtain⟨g1,g2,g3,g4,g5,g6⟩:=hgeoH.out;have hrm:r≤m:=by omega
   have hrmid:r≤mid:=by omega
   have hast:a≤st:=by omega
   by_cases hlt:st<r
   ·obtain⟨H,hH⟩:∃ H,(st+r) / 2=H:=⟨_,rfl⟩;have hHi:((st:Int)+(r:Int)) / 2=(H:Int):=by omega
    have hHI:st≤H:=by omega
    have hHJ:H<r:=by omega
    obtain⟨Z,hZ⟩:∃ Z,mid+m-1-H=Z:=⟨_,rfl⟩;have hZi:(mid:Int)+(m:Int)-1-(H:Int)=(Z:Int):=by omega
    have hm:=hmH.out;have he:=heH.out;obtain⟨x,hx⟩:∃ x,L[H-a]? = some x:=⟨L[H-a]'(by omega),List.getElem?_eq_getElem _⟩;obtain⟨y,hy⟩:∃ y,R[mid-1-H]? = some y:=⟨R[mid-1-H]'(by omega),List.getElem?_eq_getElem _⟩;have hgx:=get_at (P:=P) (S:=R++S) (i:=a) hPH.out hx;rw[← List.append_assoc,show a+(H-a)=H by omega]at hgx;have hgy:=get_at (P:=P++L) (S:=S) (i:=m) (by rw[List.length_append];have:=hPH.out;omega) hy;rw[show m+(mid-1-H)=Z by omega]at hgy;obtain⟨v0,v1,v2⟩:=hrw.at_ hgx;obtain⟨u0,u1,u2⟩:=hrw.at_ hgy;obtain⟨v,hv⟩:∃ v,Lib.compareInt (vC C x) (vC C y)=v:=⟨_,rfl⟩;have hvl:v<0↔(vC C x)<(vC C y):=by rw[← hv];exact cmpI_lt
    have k0:(0:Int)≤(H:Int):=by omega
    have k1:(H:Int)<(n:Int):=by omega
    have k2:(0:Int)≤(Z:Int):=by omega
    have k3:(Z:Int)<(n:Int):=by omega
    have hwZ:IntKind.i64.wrap (Z:Int)=(Z:Int):=by rw[IntKind.wrap_i64];omega
    clear hm he;obtain⟨hgoodH,hbadH,hrwH,hsH,hxH,hyH,hgyH,hgxH,hvH,hvlH,hHH,hZH,g1H,g2H,g3H,g4H,g5H,g6H⟩:=hq2 hgood (hqc hbad hrw hs hx hy hgy hgx hv (hqc hvl hH hZ g1 g2 g3 g4 g5 (Lib.hid g6)));clear hgood hbad hrw hs hx hy hgy hgx hv hvl hH hZ g1 g2 g3 g4 g5 g6;go_wp2_with fail;refine wp_region_held_drew (S:=(fun w'=>w'.cell? ⟨b,off+Z*3,none⟩=some (.string y.name)∧w'.cell? ⟨b,off+Z*3+1,none⟩=some (.pointer y.ptr)∧w'.cell? ⟨b,off+Z*3+2,none⟩=some (.slice y.A y.n y.cap)∧w'.cell? ⟨b,off+H*3,none⟩=some (.string x.name)∧w'.cell? ⟨b,off+H*3+1,none⟩=some (.pointer x.ptr)∧w'.cell? ⟨b,off+H*3+2,none⟩=some (.slice x.A x.n x.cap))) (by kernel_rfl) ⟨u0,u1,u2,v0,v1,v2⟩ (fun hHeld=>?_);clear u0 u1 u2 v0 v1 v2;refine tkS [(0,158),(1,159),(2,160),(3,161),(4,162),(5,163),(6,164),(7,165),(8,166),(9,167),(10,168)] ?_;(iterate 11 (refine tkL ?_ ?_ ?_;rotate_left;(· intro w hSw;(try dsimp only at hSw);go_simp;(try with_reducible rfl));(try simp only[Act.put,tkA,tkB,tkC])));refine tkE ?_;refine wpAnyH_ready (rs:=[11]) (by kernel_rfl) (by simp) ?_;refine AllReadyH.cons (i:=11) rfl (fun K hK=>?_) AllReadyH.nil;go_simp;go_at_call 71;refine(cmp_any C y x _ v (hrwH.out.in_ hgyH.out) (hrwH.out.in_ hgxH.out) hvH.out).mono ?_;rintro e' w2 ⟨rfl,hb2⟩;have hb2a:Below wr.heap.size wr w2:=by first | exact hb2 | exact(Below.refl _ _).drew.trans hb2
    replace hHeld:=keep6 hb2 hHeld;have hrw3:=hrwH.out.below hb2a;have hs3:=hsH.out.trans (Srt.of_below hb2a);clear hb2 hb2a;obtain⟨hrw3H,hs3H⟩:=hq2 hrw3 (Lib.hid hs3);clear hrw3 hs3;refine hK.out _ _ hHeld (fun hHeld=>?_);clear hK K
    (try simp only[Act.put,tkA,tkB,tkC])
    clear hHeld;refine tkS [(12,170),(13,171)] ?_;(iterate 2 (refine tkL ?_ ?_ ?_;rotate_left;(· intro w hSw;(try dsimp only at hSw);go_simp;(try with_reducible rfl));(try simp only[Act.put,tkA,tkB,tkC])));refine tkE ?_;refine wpAnyH_done (by kernel_rfl) ?_ _
    by_cases hc:v<0
    ·have R1:B3Rel C (P++L++R++S) L R a mid s0 r0 b off n w (.int .i64 (st:Int)) (.int .i64 (H:Int)) w2:=by
      refine⟨st,H,hst0,hHI,by omega,rfl,rfl,hgoodH.out,fun _ x' y' hx' hy'=>?_,hrw3H.out,hs3H.out⟩;rw[hxH.out]at hx';rw[hyH.out]at hy';injection hx' with hx';injection hy' with hy';subst hx';subst hy';have:=hvlH.out.1 hc;unfold fI;omega
     rw[show (!decide (v<0))=false by simp[hc]];have R1H:=Lib.hid R1;clear R1;go_wp2;refine⟨?rel,?measure⟩
     case measure=>(simp[intOf];omega)
     case rel=>first | exact R1H.out | exact⟨rfl,R1H.out⟩
    ·have R1:B3Rel C (P++L++R++S) L R a mid s0 r0 b off n w (.int .i64 ((H:Int)+1)) (.int .i64 (r:Int)) w2:=by
      refine⟨H+1,r,by omega,by omega,hrr0,by go_num,rfl,fun _ x' y' hx' hy'=>?_,hbadH.out,hrw3H.out,hs3H.out⟩;rw[show H+1-1-a=H-a by omega,hxH.out]at hx';rw[show mid-(H+1)=mid-1-H by omega,hyH.out]at hy';injection hx' with hx';injection hy' with hy';subst hx';subst hy';have:¬ (vC C x)<(vC C y):=fun h=>hc (hvlH.out.2 h);unfold fI;omega
     rw[show (!decide (v<0))=true by simp;omega];have R1H:=Lib.hid R1;clear R1;go_wp2;refine⟨?rel,?measure⟩
     case measure=>(simp[intOf];omega)
     case rel=>first | exact R1H.out | exact⟨rfl,R1H.out⟩
   ·obtain rfl:st=r:=by omega
    have hm:=hmH.out;have he:=heH.out;have hP:=hPH.out;obtain⟨En,hEn⟩:∃ En,mid+m-st=En:=⟨_,rfl⟩;have hEni:(mid:Int)+(m:Int)-(st:Int)=(En:Int):=by omega
    have hsym:=fun M1 M2=>sorted_parts C (L:=L) (R:=R) (i:=st-a) (j:=mid-st) (M1:=M1) (M2:=M2) hsLH.out hsRH.out (by omega) (by omega)
     (fun h0 x y hx hy=>by
      rcases g5 with e0 | e0
      ·exact hgood (by omega) x y (by rw[show st-1-a=st-a-1 by omega];exact hx) hy
      ·by_cases hss:s0<st
       ·exact hgood hss x y (by rw[show st-1-a=st-a-1 by omega];exact hx) hy
       ·exfalso;have:=(List.getElem?_eq_some_iff.1 hy).1;omega)
     (fun h0 x y hx hy=>by
      by_cases hss:st<r0
      ·exact hbad hss x y hx (by rw[show mid-1-st=mid-st-1 by omega];exact hy)
      ·exfalso;have:=(List.getElem?_eq_some_iff.1 hx).1
       rcases g6 with e0 | e0 <;> omega)
    obtain⟨A,hA⟩:∃ A,L.take (st-a)=A:=⟨_,rfl⟩;obtain⟨X,hX⟩:∃ X,L.drop (st-a)=X:=⟨_,rfl⟩;obtain⟨Y,hY⟩:∃ Y,R.take (mid-st)=Y:=⟨_,rfl⟩;obtain⟨B,hB⟩:∃ B,R.drop (mid-st)=B:=⟨_,rfl⟩;have hAX:L=A++X:=by rw[← hA,← hX,List.take_append_drop]
    have hYB:R=Y++B:=by rw[← hY,← hB,List.take_append_drop]
    have lA:A.length=st-a:=by rw[← hA,List.length_take];omega
    have lX:X.length=m-st:=by rw[← hX,List.length_drop];omega
    have lY:Y.length=mid-st:=by rw[← hY,List.length_take];omega
    have lB:B.length=e-En:=by rw[← hB,List.length_drop];omega
    have hsA:SortedBy (fI C) A:=by have:=hsLH.out;rw[hAX]at this;exact sorted_left this
    have hsX:SortedBy (fI C) X:=by have:=hsLH.out;rw[hAX]at this;exact sorted_right this
    have hsY:SortedBy (fI C) Y:=by have:=hsRH.out;rw[hYB]at this;exact sorted_left this
    have hsB:SortedBy (fI C) B:=by have:=hsRH.out;rw[hYB]at this;exact sorted_right this
    rw[hA,hX,hY,hB]at hsym;have hrwA:RowV C wr b off n (P++A++X++Y++(B++S)):=by rw[hAX,hYB]at hrw;simpa using hrw
    have hEe:En≤e:=by omega
    have hEm:m≤En:=by omega
    have hEl:En+st=mid+m:=by omega
    have l1:=hl1H.out;have l2:=hl2H.out;clear hgood hbad hrw
    by_cases hX0:X = []
    ·have hsm:m≤st:=by have:=lX;rw[hX0,List.length_nil]at this;omega
     have t0:¬ (st:Int)<(m:Int):=by omega
     have t2:(a:Int)<(st:Int):=by omega
     have t5:¬ (mid:Int)<(En:Int):=by omega
     by_cases hY0:Y = []
     ·have hm3:mid≤st:=by have:=lY;rw[hY0,List.length_nil]at this;omega
      have t3:¬ (st:Int)<(mid:Int):=by omega
      have hfin:=hsym (A++Y) (X++B) (by rw[hY0,List.append_nil];exact hsA) (by rw[hX0];exact hsB) (SameCls.refl _) (SameCls.refl _);have hrw9:RowV C wr b off n (P++((A++Y)++(X++B))++S):=by rw[hX0,hY0]at hrwA ⊢;simpa using hrwA
      obtain⟨hPH,lAH,lXH,lYH,lBH,hsAH,hsXH,hsYH,hsBH,hrwAH,hAXH,hYBH,hAH,hXH,hYH,hBH,hmH,heH,g1H,g2H,g3H,g4H,g5H,g6H,hEnH,hElH,hX0H,hY0H,hsymH,hfinH,hrw9H,hsH⟩:=hq2 hP (hq2 lA (hq2 lX (hqb lY lB hsA hsX (hqc hsY hsB hrwA hAX hYB hA hX hY (hqc hB hm he g1 g2 g3 g4 g5 (hqc g6 hEn hEl hX0 hY0 hsym hfin hrw9 (Lib.hid hs)))))));clear hP lA lX lY lB hsA hsX hsY hsB hrwA hAX hYB hA hX hY hB hm he g1 g2 g3 g4 g5 g6 hEn hEl hX0 hY0 hsym hfin hrw9 hs;go_wp2
      all_goals (go_end0;exact⟨rfl,_,hfinH.out.1,hfinH.out.2,hrw9H.out,hsH.out⟩)
     ·have y1:1≤Y.length:=by cases Y with | nil=>exact absurd rfl hY0 | cons z t=>simp
      have t3:(st:Int)<(mid:Int):=by omega
      have hcall:=ihH.out P A Y (X++(B++S)) a st mid wr hP (by omega) (by omega) (by omega) (by omega) y1 hsA hsY (by rw[hX0]at hrwA ⊢;simpa using hrwA);obtain⟨hPH,lAH,lXH,lYH,lBH,hsAH,hsXH,hsYH,hsBH,hrwAH,hAXH,hYBH,hAH,hXH,hYH,hBH,hmH,heH,g1H,g2H,g3H,g4H,g5H,g6H,hEnH,hElH,hX0H,hY0H,hsymH,hsH,hcallH⟩:=hq2 hP (hq2 lA (hqb lX lY lB hsA (hqc hsX hsY hsB hrwA hAX hYB hA hX (hqc hY hB hm he g1 g2 g3 g4 (hqc g5 g6 hEn hEl hX0 hY0 hsym hs (Lib.hid hcall))))));clear hP lA lX lY lB hsA hsX hsY hsB hrwA hAX hYB hA hX hY hB hm he g1 g2 g3 g4 g5 g6 hEn hEl hX0 hY0 hsym hs hcall;go_wp2_with fail;refine hcallH.out.mono ?_;rintro e' w3 ⟨rfl,M1,q1,c1,hrw8,hs8⟩;have hfin:=hsymH.out M1 (X++B) q1 (by rw[hX0H.out];exact hsBH.out) c1 (SameCls.refl _);have hs9:=hsH.out.trans hs8;clear q1 c1 hs8;obtain⟨hfinH,hrw8H,hs9H⟩:=hq2 hfin (hq2 hrw8 (Lib.hid hs9));clear hfin hrw8 hs9;go_wp2
      all_goals (go_end0;exact⟨rfl,_,hfinH.out.1,hfinH.out.2,by simpa using hrw8H.out,hs9H.out⟩)
    ·have x1:1≤X.length:=by cases X with | nil=>exact absurd rfl hX0 | cons z t=>simp
     have t0:(st:Int)<(m:Int):=by omega
     have t5:(mid:Int)<(En:Int):=by omega
     by_cases hY0:Y = []
     ·have hm3:mid≤st:=by have:=lY;rw[hY0,List.length_nil]at this;omega
      have t1:¬ (m:Int)<(En:Int):=by omega
      have t2:(a:Int)<(st:Int):=by omega
      have t3:¬ (st:Int)<(mid:Int):=by omega
      have t6:(En:Int)<(e:Int):=by omega
      have hcall:=ihH.out (P++A) X B S mid En e wr (by rw[List.length_append];omega) (by omega) (by omega) (by omega) x1 (by omega) hsX hsB (by rw[hY0]at hrwA;simpa using hrwA);obtain⟨hPH,lAH,lXH,lYH,lBH,hsAH,hsXH,hsYH,hsBH,hrwAH,hAXH,hYBH,hAH,hXH,hYH,hBH,hmH,heH,g1H,g2H,g3H,g4H,g5H,g6H,hEnH,hElH,hX0H,hY0H,hsymH,hsH,hcallH⟩:=hq2 hP (hq2 lA (hqb lX lY lB hsA (hqc hsX hsY hsB hrwA hAX hYB hA hX (hqc hY hB hm he g1 g2 g3 g4 (hqc g5 g6 hEn hEl hX0 hY0 hsym hs (Lib.hid hcall))))));clear hP lA lX lY lB hsA hsX hsY hsB hrwA hAX hYB hA hX hY hB hm he g1 g2 g3 g4 g5 g6 hEn hEl hX0 hY0 hsym hs hcall;go_wp2_with fail;refine hcallH.out.mono ?_;rintro e' w3 ⟨rfl,M2,q2,c2,hrw8,hs8⟩;have hfin:=hsymH.out (A++Y) M2 (by rw[hY0H.out,List.append_nil];exact hsAH.out) q2 (SameCls.refl _) c2;have hrw9:RowV C w3 b off n (P++((A++Y)++M2)++S):=by rw[hY0H.out];simpa using hrw8
      have hs9:=hsH.out.trans hs8;clear q2 c2 hs8 hrw8;obtain⟨hfinH,hrw9H,hs9H⟩:=hq2 hfin (hq2 hrw9 (Lib.hid hs9));clear hfin hrw9 hs9;go_wp2
      all_goals (go_end0;exact⟨rfl,_,hfinH.out.1,hfinH.out.2,hrw9H.out,hs9H.out⟩)
     ·have y1:1≤Y.length:=by cases Y with | nil=>exact absurd rfl hY0 | cons z t=>simp
      have t1:(m:Int)<(En:Int):=by omega
      have t3:(st:Int)<(mid:Int):=by omega
      have hrot:=rotate_any C b off n cap (P++A) X Y (B++S) st m En gV wr (by rw[List.length_append];omega) (by omega) (by omega) x1 y1 hn hrwA;unfold gV at hrot;obtain⟨hPH,lAH,lXH,lYH,lBH,hsAH,hsXH,hsYH,hsBH,hrwAH,hAXH,hYBH,hAH,hXH,hYH,hBH,hmH,heH,g1H,g2H,g3H,g4H,g5H,g6H,hEnH,hElH,hX0H,hY0H,hsymH,hsH,hrotH⟩:=hq2 hP (hq2 lA (hqb lX lY lB hsA (hqc hsX hsY hsB hrwA hAX hYB hA hX (hqc hY hB hm he g1 g2 g3 g4 (hqc g5 g6 hEn hEl hX0 hY0 hsym hs (Lib.hid hrot))))));clear hP lA lX lY lB hsA hsX hsY hsB hrwA hAX hYB hA hX hY hB hm he g1 g2 g3 g4 g5 g6 hEn hEl hX0 hY0 hsym hs hrot;go_wp2_with fail;refine hrotH.out.mono ?_;rintro e' w3 ⟨rfl,hrw8,hs8⟩;have hs9:=hsH.out.trans hs8;clear hs8;obtain⟨hrw8H,hs9H⟩:=hq2 hrw8 (Lib.hid hs9);clear hrw8 hs9
      by_cases hA0:a<st
      ·have t2:(a:Int)<(st:Int):=by omega
       have hcall:=ihH.out P A Y (X++(B++S)) a st mid w3 hPH.out (by have:=lAH.out;omega) (by have:=lYH.out;omega) (by omega) (by have:=lAH.out;omega) y1 hsAH.out hsYH.out (by simpa using hrw8H.out);have hcallH:=Lib.hid hcall;clear hcall;go_wp2_with fail;refine hcallH.out.mono ?_;rintro e' w4 ⟨rfl,M1,q1,c1,hrw7,hs7⟩;have hs10:=hs9H.out.trans hs7;have lM1:M1.length=mid-a:=by have:=c1.len;rw[List.length_append]at this;have:=lAH.out;have:=lYH.out;omega
       clear hs7;obtain⟨q1H,c1H,hrw7H,hs10H,lM1H⟩:=hqb q1 c1 hrw7 hs10 (Lib.hid lM1);clear q1 c1 hrw7 hs10 lM1
       by_cases hB0:En<e
       ·have t6:(En:Int)<(e:Int):=by omega
        have hcall2:=ihH.out (P++M1) X B S mid En e w4 (by rw[List.length_append];have:=lM1H.out;have:=hPH.out;omega) (by have:=lXH.out;have:=hEnH.out;omega) (by have:=lBH.out;omega) (by omega) x1 (by have:=lBH.out;omega) hsXH.out hsBH.out (by simpa using hrw7H.out);have hcall2H:=Lib.hid hcall2;clear hcall2;go_wp2_with fail;refine hcall2H.out.mono ?_;rintro e' w5 ⟨rfl,M2,q2,c2,hrw6,hs6⟩;have hfin:=hsymH.out M1 M2 q1H.out q2 c1H.out c2;have hs11:=(hs10H.out).trans hs6;clear q2 c2 hs6;obtain⟨hfinH,hrw6H,hs11H⟩:=hq2 hfin (hq2 hrw6 (Lib.hid hs11));clear hfin hrw6 hs11;go_wp2
        all_goals (go_end0;exact⟨rfl,_,hfinH.out.1,hfinH.out.2,by simpa using hrw6H.out,hs11H.out⟩)
       ·have t6:¬ (En:Int)<(e:Int):=by omega
        have hBn:B = []:=List.eq_nil_of_length_eq_zero (by have:=lBH.out;omega);have hfin:=hsymH.out M1 (X++B) q1H.out (by rw[hBn,List.append_nil];exact hsXH.out) c1H.out (SameCls.refl _);obtain⟨hfinH,hBnH⟩:=hq2 hfin (Lib.hid hBn);clear hfin hBn;go_wp2
        all_goals (go_end0;exact⟨rfl,_,hfinH.out.1,hfinH.out.2,by simpa using hrw7H.out,hs10H.out⟩)
      ·have t2:¬ (a:Int)<(st:Int):=by omega
       have hAn:A = []:=List.eq_nil_of_length_eq_zero (by have:=lAH.out;omega);have q1:SortedBy (fI C) (A++Y):=by rw[hAn];exact hsYH.out
       have lM1:(A++Y).length=mid-a:=by rw[List.length_append];have:=lAH.out;have:=lYH.out;omega
       have hrw7:RowV C w3 b off n (P++(A++Y)++(X++(B++S))):=by simpa using hrw8H.out
       obtain⟨q1H,hrw7H,lM1H,hAnH⟩:=hq2 q1 (hq2 hrw7 (hq2 lM1 (Lib.hid hAn)));clear q1 hrw7 lM1 hAn
       by_cases hB0:En<e
       ·have t6:(En:Int)<(e:Int):=by omega
        have hcall2:=ihH.out (P++(A++Y)) X B S mid En e w3 (by rw[List.length_append];have:=lM1H.out;have:=hPH.out;omega) (by have:=lXH.out;have:=hEnH.out;omega) (by have:=lBH.out;omega) (by omega) x1 (by have:=lBH.out;omega) hsXH.out hsBH.out (by simpa using hrw7H.out);have hcall2H:=Lib.hid hcall2;clear hcall2;go_wp2_with fail;refine hcall2H.out.mono ?_;rintro e' w5 ⟨rfl,M2,q2,c2,hrw6,hs6⟩;have hfin:=hsymH.out (A++Y) M2 q1H.out q2 (SameCls.refl _) c2;have hs11:=(hs9H.out).trans hs6;clear q2 c2 hs6;obtain⟨hfinH,hrw6H,hs11H⟩:=hq2 hfin (hq2 hrw6 (Lib.hid hs11));clear hfin hrw6 hs11;go_wp2
        all_goals (go_end0;exact⟨rfl,_,hfinH.out.1,hfinH.out.2,by simpa using hrw6H.out,hs11H.out⟩)
       ·have t6:¬ (En:Int)<(e:Int):=by omega
        have hBn:B = []:=List.eq_nil_of_length_eq_zero (by have:=lBH.out;omega);have hfin:=hsymH.out (A++Y) (X++B) q1H.out (by rw[hBn,List.append_nil];exact hsXH.out) (SameCls.refl _) (SameCls.refl _);obtain⟨hfinH,hBnH⟩:=hq2 hfin (Lib.hid hBn);clear hfin hBn;go_wp2
        all_goals (go_end0;exact⟨rfl,_,hfinH.out.1,hfinH.out.2,by simpa using hrw7H.out,hs9H.out⟩)
 ·have hmm2:¬ (mid:Int)<(m:Int):=by omega
  obtain⟨s0,hs0⟩:∃ s0,a=s0:=⟨_,rfl⟩;obtain⟨r0,hr0⟩:∃ r0,m=r0:=⟨_,rfl⟩;have hsr:s0≤r0:=by omega
  have hgeo:a≤s0∧r0≤mid∧r0≤m∧mid-s0≤e-m∧(s0=a∨mid-s0=e-m)∧(r0=m∨r0=mid):=⟨by omega,by omega,by omega,by omega,.inl hs0.symm,.inl hr0.symm⟩;obtain⟨hrowH,hlenH,hPH,heH,hsLH,hsRH,hmH,hgeoH,hsrH,ihH,hl1H,hl2H,hs0H,hr0H,hmidH⟩:=hq2 hrow (hq2 hlen (hqb hP he hsL hsR (hqc hm hgeo hsr ih hl1 hl2 hs0 hr0 (Lib.hid hmid))));clear hrow hlen hP he hsL hsR hm hgeo hsr ih hl1 hl2 hs0 hr0 hmid;go_enter Tryz.func147,Tryz.ntmps147;go_wp2_with fail
  go_loopw [20,21] (fun vs vr wr=>B3Rel C (P++L++R++S) L R a mid s0 r0 b off n w vs vr wr) (fun vs vr _=>(intOf vr).toNat-(intOf vs).toNat)
  case atStart=>exact⟨s0,r0,Nat.le_refl _,hsrH.out,Nat.le_refl _,(by rw[hs0H.out]),(by rw[hr0H.out]),fun h=>by omega,fun h=>by omega,hrowH.out,World.grownBy.refl _ _⟩
  case round =>
   obtain⟨st,r,hst0,hstr,hrr0,rfl,rfl,hgood,hbad,hrw,hs⟩:=hrel;obtain⟨g1,g2,g3,g4,g5,g6⟩:=hgeoH.out;have hrm:r≤m:=by omega
   have hrmid:r≤mid:=by omega
   have hast:a≤st:=by omega
   by_cases hlt:st<r
   ·obtain⟨H,hH⟩:∃ H,(st+r) / 2=H:=⟨_,rfl⟩;have hHi:((st:Int)+(r:Int)) / 2=(H:Int):=by omega
    have hHI:st≤H:=by omega
    have hHJ:H<r:=by omega
    obtain⟨Z,hZ⟩:∃ Z,mid+m-1-H=Z:=⟨_,rfl⟩;have hZi:(mid:Int)+(m:Int)-1-(H:Int)=(Z:Int):=by omega
    have hm:=hmH.out;have he:=heH.out;obtain⟨x,hx⟩:∃ x,L[H-a]? = some x:=⟨L[H-a]'(by omega),List.getElem?_eq_getElem _⟩;obtain⟨y,hy⟩:∃ y,R[mid-1-H]? = some y:=⟨R[mid-1-H]'(by omega),List.getElem?_eq_getElem _⟩;have hgx:=get_at (P:=P) (S:=R++S) (i:=a) hPH.out hx;rw[← List.append_assoc,show a+(H-a)=H by omega]at hgx;have hgy:=get_at (P:=P++L) (S:=S) (i:=m) (by rw[List.length_append];have:=hPH.out;omega) hy;rw[show m+(mid-1-H)=Z by omega]at hgy;obtain⟨v0,v1,v2⟩:=hrw.at_ hgx;obtain⟨u0,u1,u2⟩:=hrw.at_ hgy;obtain⟨v,hv⟩:∃ v,Lib.compareInt (vC C x) (vC C y)=v:=⟨_,rfl⟩;have hvl:v<0↔(vC C x)<(vC C y):=by rw[← hv];exact cmpI_lt
    have k0:(0:Int)≤(H:Int):=by omega
    have k1:(H:Int)<(n:Int):=by omega
    have k2:(0:Int)≤(Z:Int):=by omega
    have k3:(Z:Int)<(n:Int):=by omega
    have hwZ:IntKind.i64.wrap (Z:Int)=(Z:Int):=by rw[IntKind.wrap_i64];omega
    clear hm he;obtain⟨hgoodH,hbadH,hrwH,hsH,hxH,hyH,hgyH,hgxH,hvH,hvlH,hHH,hZH,g1H,g2H,g3H,g4H,g5H,g6H⟩:=hq2 hgood (hqc hbad hrw hs hx hy hgy hgx hv (hqc hvl hH hZ g1 g2 g3 g4 g5 (Lib.hid g6)));clear hgood hbad hrw hs hx hy hgy hgx hv hvl hH hZ g1 g2 g3 g4 g5 g6;go_wp2_with fail;refine wp_region_held_drew (S:=(fun w'=>w'.cell? ⟨b,off+Z*3,none⟩=some (.string y.name)∧w'.cell? ⟨b,off+Z*3+1,none⟩=some (.pointer y.ptr)∧w'.cell? ⟨b,off+Z*3+2,none⟩=some (.slice y.A y.n y.cap)∧w'.cell? ⟨b,off+H*3,none⟩=some (.string x.name)∧w'.cell? ⟨b,off+H*3+1,none⟩=some (.pointer x.ptr)∧w'.cell? ⟨b,off+H*3+2,none⟩=some (.slice x.A x.n x.cap))) (by kernel_rfl) ⟨u0,u1,u2,v0,v1,v2⟩ (fun hHeld=>?_);clear u0 u1 u2 v0 v1 v2;refine tkS [(0,158),(1,159),(2,160),(3,161),(4,162),(5,163),(6,164),(7,165),(8,166),(9,167),(10,168)] ?_;(iterate 11 (refine tkL ?_ ?_ ?_;rotate_left;(· intro w hSw;(try dsimp only at hSw);go_simp;(try with_reducible rfl));(try simp only[Act.put,tkA,tkB,tkC])));refine tkE ?_;refine wpAnyH_ready (rs:=[11]) (by kernel_rfl) (by simp) ?_;refine AllReadyH.cons (i:=11) rfl (fun K hK=>?_) AllReadyH.nil;go_simp;go_at_call 71;refine(cmp_any C y x _ v (hrwH.out.in_ hgyH.out) (hrwH.out.in_ hgxH.out) hvH.out).mono ?_;rintro e' w2 ⟨rfl,hb2⟩;have hb2a:Below wr.heap.size wr w2:=by first | exact hb2 | exact(Below.refl _ _).drew.trans hb2
    replace hHeld:=keep6 hb2 hHeld;have hrw3:=hrwH.out.below hb2a;have hs3:=hsH.out.trans (Srt.of_below hb2a);clear hb2 hb2a;obtain⟨hrw3H,hs3H⟩:=hq2 hrw3 (Lib.hid hs3);clear hrw3 hs3;refine hK.out _ _ hHeld (fun hHeld=>?_);clear hK K
    (try simp only[Act.put,tkA,tkB,tkC])
    clear hHeld;refine tkS [(12,170),(13,171)] ?_;(iterate 2 (refine tkL ?_ ?_ ?_;rotate_left;(· intro w hSw;(try dsimp only at hSw);go_simp;(try with_reducible rfl));(try simp only[Act.put,tkA,tkB,tkC])));refine tkE ?_;refine wpAnyH_done (by kernel_rfl) ?_ _
    by_cases hc:v<0
    ·have R1:B3Rel C (P++L++R++S) L R a mid s0 r0 b off n w (.int .i64 (st:Int)) (.int .i64 (H:Int)) w2:=by
      refine⟨st,H,hst0,hHI,by omega,rfl,rfl,hgoodH.out,fun _ x' y' hx' hy'=>?_,hrw3H.out,hs3H.out⟩;rw[hxH.out]at hx';rw[hyH.out]at hy';injection hx' with hx';injection hy' with hy';subst hx';subst hy';have:=hvlH.out.1 hc;unfold fI;omega
     rw[show (!decide (v<0))=false by simp[hc]];have R1H:=Lib.hid R1;clear R1;go_wp2;refine⟨?rel,?measure⟩
     case measure=>(simp[intOf];omega)
     case rel=>first | exact R1H.out | exact⟨rfl,R1H.out⟩
    ·have R1:B3Rel C (P++L++R++S) L R a mid s0 r0 b off n w (.int .i64 ((H:Int)+1)) (.int .i64 (r:Int)) w2:=by
      refine⟨H+1,r,by omega,by omega,hrr0,by go_num,rfl,fun _ x' y' hx' hy'=>?_,hbadH.out,hrw3H.out,hs3H.out⟩;rw[show H+1-1-a=H-a by omega,hxH.out]at hx';rw[show mid-(H+1)=mid-1-H by omega,hyH.out]at hy';injection hx' with hx';injection hy' with hy';subst hx';subst hy';have:¬ (vC C x)<(vC C y):=fun h=>hc (hvlH.out.2 h);unfold fI;omega
     rw[show (!decide (v<0))=true by simp;omega];have R1H:=Lib.hid R1;clear R1;go_wp2;refine⟨?rel,?measure⟩
     case measure=>(simp[intOf];omega)
     case rel=>first | exact R1H.out | exact⟨rfl,R1H.out⟩
   ·obtain rfl:st=r:=by omega
    have hm:=hmH.out;have he:=heH.out;have hP:=hPH.out;obtain⟨En,hEn⟩:∃ En,mid+m-st=En:=⟨_,rfl⟩;have hEni:(mid:Int)+(m:Int)-(st:Int)=(En:Int):=by omega
    have hsym:=fun M1 M2=>sorted_parts C (L:=L) (R:=R) (i:=st-a) (j:=mid-st) (M1:=M1) (M2:=M2) hsLH.out hsRH.out (by omega) (by omega)
     (fun h0 x y hx hy=>by
      rcases g5 with e0 | e0
      ·exact hgood (by omega) x y (by rw[show st-1-a=st-a-1 by omega];exact hx) hy
      ·by_cases hss:s0<st
       ·exact hgood hss x y (by rw[show st-1-a=st-a-1 by omega];exact hx) hy
       ·exfalso;have:=(List.getElem?_eq_some_iff.1 hy).1;omega)
     (fun h0 x y hx hy=>by
      by_cases hss:st<r0
      ·exact hbad hss x y hx (by rw[show mid-1-st=mid-st-1 by omega];exact hy)
      ·exfalso;have:=(List.getElem?_eq_some_iff.1 hx).1
       rcases g6 with e0 | e0 <;> omega)
    obtain⟨A,hA⟩:∃ A,L.take (st-a)=A:=⟨_,rfl⟩;obtain⟨X,hX⟩:∃ X,L.drop (st-a)=X:=⟨_,rfl⟩;obtain⟨Y,hY⟩:∃ Y,R.take (mid-st)=Y:=⟨_,rfl⟩;obtain⟨B,hB⟩:∃ B,R.drop (mid-st)=B:=⟨_,rfl⟩;have hAX:L=A++X:=by rw[← hA,← hX,List.take_append_drop]
    have hYB:R=Y++B:=by rw[← hY,← hB,List.take_append_drop]
    have lA:A.length=st-a:=by rw[← hA,List.length_take];omega
    have lX:X.length=m-st:=by rw[← hX,List.length_drop];omega
    have lY:Y.length=mid-st:=by rw[← hY,List.length_take];omega
    have lB:B.length=e-En:=by rw[← hB,List.length_drop];omega
    have hsA:SortedBy (fI C) A:=by have:=hsLH.out;rw[hAX]at this;exact sorted_left this
    have hsX:SortedBy (fI C) X:=by have:=hsLH.out;rw[hAX]at this;exact sorted_right this
    have hsY:SortedBy (fI C) Y:=by have:=hsRH.out;rw[hYB]at this;exact sorted_left this
    have hsB:SortedBy (fI C) B:=by have:=hsRH.out;rw[hYB]at this;exact sorted_right this
    rw[hA,hX,hY,hB]at hsym;have hrwA:RowV C wr b off n (P++A++X++Y++(B++S)):=by rw[hAX,hYB]at hrw;simpa using hrw
    have hEe:En≤e:=by omega
    have hEm:m≤En:=by omega
    have hEl:En+st=mid+m:=by omega
    have l1:=hl1H.out;have l2:=hl2H.out;clear hgood hbad hrw
    by_cases hX0:X = []
    ·have hsm:m≤st:=by have:=lX;rw[hX0,List.length_nil]at this;omega
     have t0:¬ (st:Int)<(m:Int):=by omega
     have t2:(a:Int)<(st:Int):=by omega
     have t5:¬ (mid:Int)<(En:Int):=by omega
     by_cases hY0:Y = []
     ·have hm3:mid≤st:=by have:=lY;rw[hY0,List.length_nil]at this;omega
      have t3:¬ (st:Int)<(mid:Int):=by omega
      have hfin:=hsym (A++Y) (X++B) (by rw[hY0,List.append_nil];exact hsA) (by rw[hX0];exact hsB) (SameCls.refl _) (SameCls.refl _);have hrw9:RowV C wr b off n (P++((A++Y)++(X++B))++S):=by rw[hX0,hY0]at hrwA ⊢;simpa using hrwA
      obtain⟨hPH,lAH,lXH,lYH,lBH,hsAH,hsXH,hsYH,hsBH,hrwAH,hAXH,hYBH,hAH,hXH,hYH,hBH,hmH,heH,g1H,g2H,g3H,g4H,g5H,g6H,hEnH,hElH,hX0H,hY0H,hsymH,hfinH,hrw9H,hsH⟩:=hq2 hP (hq2 lA (hq2 lX (hqb lY lB hsA hsX (hqc hsY hsB hrwA hAX hYB hA hX hY (hqc hB hm he g1 g2 g3 g4 g5 (hqc g6 hEn hEl hX0 hY0 hsym hfin hrw9 (Lib.hid hs)))))));clear hP lA lX lY lB hsA hsX hsY hsB hrwA hAX hYB hA hX hY hB hm he g1 g2 g3 g4 g5 g6 hEn hEl hX0 hY0 hsym hfin hrw9 hs;go_wp2
      all_goals (go_end0;exact⟨rfl,_,hfinH.out.1,hfinH.out.2,hrw9H.out,hsH.out⟩)
     ·have y1:1≤Y.length:=by cases Y with | nil=>exact absurd rfl hY0 | cons z t=>simp
      have t3:(st:Int)<(mid:Int):=by omega
      have hcall:=ihH.out P A Y (X++(B++S)) a st mid wr hP (by omega) (by omega) (by omega) (by omega) y1 hsA hsY (by rw[hX0]at hrwA ⊢;simpa using hrwA);obtain⟨hPH,lAH,lXH,lYH,lBH,hsAH,hsXH,hsYH,hsBH,hrwAH,hAXH,hYBH,hAH,hXH,hYH,hBH,hmH,heH,g1H,g2H,g3H,g4H,g5H,g6H,hEnH,hElH,hX0H,hY0H,hsymH,hsH,hcallH⟩:=hq2 hP (hq2 lA (hqb lX lY lB hsA (hqc hsX hsY hsB hrwA hAX hYB hA hX (hqc hY hB hm he g1 g2 g3 g4 (hqc g5 g6 hEn hEl hX0 hY0 hsym hs (Lib.hid hcall))))));clear hP lA lX lY lB hsA hsX hsY hsB hrwA hAX hYB hA hX hY hB hm he g1 g2 g3 g4 g5 g6 hEn hEl hX0 hY0 hsym hs hcall;go_wp2_with fail;refine hcallH.out.mono ?_;rintro e' w3 ⟨rfl,M1,q1,c1,hrw8,hs8⟩;have hfin:=hsymH.out M1 (X++B) q1 (by rw[hX0H.out];exact hsBH.out) c1 (SameCls.refl _);have hs9:=hsH.out.trans hs8;clear q1 c1 hs8;obtain⟨hfinH,hrw8H,hs9H⟩:=hq2 hfin (hq2 hrw8 (Lib.hid hs9));clear hfin hrw8 hs9;go_wp2
      all_goals (go_end0;exact⟨rfl,_,hfinH.out.1,hfinH.out.2,by simpa using hrw8H.out,hs9H.out⟩)
    ·have x1:1≤X.length:=by cases X with | nil=>exact absurd rfl hX0 | cons z t=>simp
     have t0:(st:Int)<(m:Int):=by omega
     have t5:(mid:Int)<(En:Int):=by omega
     by_cases hY0:Y = []
     ·have hm3:mid≤st:=by have:=lY;rw[hY0,List.length_nil]at this;omega
      have t1:¬ (m:Int)<(En:Int):=by omega
      have t2:(a:Int)<(st:Int):=by omega
      have t3:¬ (st:Int)<(mid:Int):=by omega
      have t6:(En:Int)<(e:Int):=by omega
      have hcall:=ihH.out (P++A) X B S mid En e wr (by rw[List.length_append];omega) (by omega) (by omega) (by omega) x1 (by omega) hsX hsB (by rw[hY0]at hrwA;simpa using hrwA);obtain⟨hPH,lAH,lXH,lYH,lBH,hsAH,hsXH,hsYH,hsBH,hrwAH,hAXH,hYBH,hAH,hXH,hYH,hBH,hmH,heH,g1H,g2H,g3H,g4H,g5H,g6H,hEnH,hElH,hX0H,hY0H,hsymH,hsH,hcallH⟩:=hq2 hP (hq2 lA (hqb lX lY lB hsA (hqc hsX hsY hsB hrwA hAX hYB hA hX (hqc hY hB hm he g1 g2 g3 g4 (hqc g5 g6 hEn hEl hX0 hY0 hsym hs (Lib.hid hcall))))));clear hP lA lX lY lB hsA hsX hsY hsB hrwA hAX hYB hA hX hY hB hm he g1 g2 g3 g4 g5 g6 hEn hEl hX0 hY0 hsym hs hcall;go_wp2_with fail;refine hcallH.out.mono ?_;rintro e' w3 ⟨rfl,M2,q2,c2,hrw8,hs8⟩;have hfin:=hsymH.out (A++Y) M2 (by rw[hY0H.out,List.append_nil];exact hsAH.out) q2 (SameCls.refl _) c2;have hrw9:RowV C w3 b off n (P++((A++Y)++M2)++S):=by rw[hY0H.out];simpa using hrw8
      have hs9:=hsH.out.trans hs8;clear q2 c2 hs8 hrw8;obtain⟨hfinH,hrw9H,hs9H⟩:=hq2 hfin (hq2 hrw9 (Lib.hid hs9));clear hfin hrw9 hs9;go_wp2
      all_goals (go_end0;exact⟨rfl,_,hfinH.out.1,hfinH.out.2,hrw9H.out,hs9H.out⟩)
     ·have y1:1≤Y.length:=by cases Y with | nil=>exact absurd rfl hY0 | cons z t=>simp
      have t1:(m:Int)<(En:Int):=by omega
      have t3:(st:Int)<(mid:Int):=by omega
      have hrot:=rotate_any C b off n cap (P++A) X Y (B++S) st m En gV wr (by rw[List.length_append];omega) (by omega) (by omega) x1 y1 hn hrwA;unfold gV at hrot;obtain⟨hPH,lAH,lXH,lYH,lBH,hsAH,hsXH,hsYH,hsBH,hrwAH,hAXH,hYBH,hAH,hXH,hYH,hBH,hmH,heH,g1H,g2H,g3H,g4H,g5H,g6H,hEnH,hElH,hX0H,hY0H,hsymH,hsH,hrotH⟩:=hq2 hP (hq2 lA (hqb lX lY lB hsA (hqc hsX hsY hsB hrwA hAX hYB hA hX (hqc hY hB hm he g1 g2 g3 g4 (hqc g5 g6 hEn hEl hX0 hY0 hsym hs (Lib.hid hrot))))));clear hP lA lX lY lB hsA hsX hsY hsB hrwA hAX hYB hA hX hY hB hm he g1 g2 g3 g4 g5 g6 hEn hEl hX0 hY0 hsym hs hrot;go_wp2_with fail;refine hrotH.out.mono ?_;rintro e' w3 ⟨rfl,hrw8,hs8⟩;have hs9:=hsH.out.trans hs8;clear hs8;obtain⟨hrw8H,hs9H⟩:=hq2 hrw8 (Lib.hid hs9);clear hrw8 hs9
      by_cases hA0:a<st
      ·have t2:(a:Int)<(st:Int):=by omega
       have hcall:=ihH.out P A Y (X++(B++S)) a st mid w3 hPH.out (by have:=lAH.out;omega) (by have:=lYH.out;omega) (by omega) (by have:=lAH.out;omega) y1 hsAH.out hsYH.out (by simpa using hrw8H.out);have hcallH:=Lib.hid hcall;clear hcall;go_wp2_with fail;refine hcallH.out.mono ?_;rintro e' w4 ⟨rfl,M1,q1,c1,hrw7,hs7⟩;have hs10:=hs9H.out.trans hs7;have lM1:M1.length=mid-a:=by have:=c1.len;rw[List.length_append]at this;have:=lAH.out;have:=lYH.out;omega
       clear hs7;obtain⟨q1H,c1H,hrw7H,hs10H,lM1H⟩:=hqb q1 c1 hrw7 hs10 (Lib.hid lM1);clear q1 c1 hrw7 hs10 lM1
       by_cases hB0:En<e
       ·have t6:(En:Int)<(e:Int):=by omega
        have hcall2:=ihH.out (P++M1) X B S mid En e w4 (by rw[List.length_append];have:=lM1H.out;have:=hPH.out;omega) (by have:=lXH.out;have:=hEnH.out;omega) (by have:=lBH.out;omega) (by omega) x1 (by have:=lBH.out;omega) hsXH.out hsBH.out (by simpa using hrw7H.out);have hcall2H:=Lib.hid hcall2;clear hcall2;go_wp2_with fail;refine hcall2H.out.mono ?_;rintro e' w5 ⟨rfl,M2,q2,c2,hrw6,hs6⟩;have hfin:=hsymH.out M1 M2 q1H.out q2 c1H.out c2;have hs11:=(hs10H.out).trans hs6;clear q2 c2 hs6;obtain⟨hfinH,hrw6H,hs11H⟩:=hq2 hfin (hq2 hrw6 (Lib.hid hs11));clear hfin hrw6 hs11;go_wp2
        all_goals (go_end0;exact⟨rfl,_,hfinH.out.1,hfinH.out.2,by simpa using hrw6H.out,hs11H.out⟩)
       ·have t6:¬ (En:Int)<(e:Int):=by omega
        have hBn:B = []:=List.eq_nil_of_length_eq_zero (by have:=lBH.out;omega);have hfin:=hsymH.out M1 (X++B) q1H.out (by rw[hBn,List.append_nil];exact hsXH.out) c1H.out (SameCls.refl _);obtain⟨hfinH,hBnH⟩:=hq2 hfin (Lib.hid hBn);clear hfin hBn;go_wp2
        all_goals (go_end0;exact⟨rfl,_,hfinH.out.1,hfinH.out.2,by simpa using hrw7H.out,hs10H.out⟩)
      ·have t2:¬ (a:Int)<(st:Int):=by omega
       have hAn:A = []:=List.eq_nil_of_length_eq_zero (by have:=lAH.out;omega);have q1:SortedBy (fI C) (A++Y):=by rw[hAn];exact hsYH.out
       have lM1:(A++Y).length=mid-a:=by rw[List.length_append];have:=lAH.out;have:=lYH.out;omega
       have hrw7:RowV C w3 b off n (P++(A++Y)++(X++(B++S))):=by simpa using hrw8H.out
       obtain⟨q1H,hrw7H,lM1H,hAnH⟩:=hq2 q1 (hq2 hrw7 (hq2 lM1 (Lib.hid hAn)));clear q1 hrw7 lM1 hAn
       by_cases hB0:En<e
       ·have t6:(En:Int)<(e:Int):=by omega
        have hcall2:=ihH.out (P++(A++Y)) X B S mid En e w3 (by rw[List.length_append];have:=lM1H.out;have:=hPH.out;omega) (by have:=lXH.out;have:=hEnH.out;omega) (by have:=lBH.out;omega) (by omega) x1 (by have:=lBH.out;omega) hsXH.out hsBH.out (by simpa using hrw7H.out);have hcall2H:=Lib.hid hcall2;clear hcall2;go_wp2_with fail;refine hcall2H.out.mono ?_;rintro e' w5 ⟨rfl,M2,q2,c2,hrw6,hs6⟩;have hfin:=hsymH.out (A++Y) M2 q1H.out q2 (SameCls.refl _) c2;have hs11:=(hs9H.out).trans hs6;clear q2 c2 hs6;obtain⟨hfinH,hrw6H,hs11H⟩:=hq2 hfin (hq2 hrw6 (Lib.hid hs11));clear hfin hrw6 hs11;go_wp2
        all_goals (go_end0;exact⟨rfl,_,hfinH.out.1,hfinH.out.2,by simpa using hrw6H.out,hs11H.out⟩)
       ·have t6:¬ (En:Int)<(e:Int):=by omega
        have hBn:B = []:=List.eq_nil_of_length_eq_zero (by have:=lBH.out;omega);have hfin:=hsymH.out (A++Y) (X++B) q1H.out (by rw[hBn,List.append_nil];exact hsXH.out) (SameCls.refl _) (SameCls.refl _);obtain⟨hfinH,hBnH⟩:=hq2 hfin (Lib.hid hBn);clear hfin hBn;go_wp2
        all_goals (go_end0;exact⟨rfl,_,hfinH.out.1,hfinH.out.2,by simpa using hrw7H.out,hs9H.out⟩)
theorem merge_any (C:List ByteArray) (b off n cap:Nat) (hn:n≤1000000000):∀ k,MgHyp C b off n cap k:=by
 intro k
 induction k with
 | zero =>
  intro P L R S a m e w hP hm he hk h1 h2 hsL hsR hrow;exfalso;omega
 | succ k ih =>
  intro P L R S a m e w hP hm he hk h1 h2 hsL hsR hrow
  by_cases hl:L.length=1
  ·obtain⟨x,rfl⟩:=List.length_eq_one_iff.1 hl;exact merge1 C b off n cap P R S x a m e w hP (by rw[hm,hl]) he hn hsR hrow
  ·by_cases hr:R.length=1
   ·obtain⟨y,rfl⟩:=List.length_eq_one_iff.1 hr;exact merge2 C b off n cap P L S y a m e w hP hm (by omega) (by rw[he,hr]) hn hsL hrow
   ·exact merge3 C b off n cap k ih P L R S a m e w hP hm he hk (by omega) (by omega) hn hsL hsR hrow
def Blks (C:List ByteArray) (bs:Nat) (Bs:List (List NV)):Prop:=∀ x∈Bs,x.length=bs∧SortedBy (fI C) x
theorem Blks.app {C:List ByteArray} {bs:Nat} {Bs:List (List NV)} {x:List NV} (h:Blks C bs Bs) (h1:x.length=bs) (h2:SortedBy (fI C) x):Blks C bs (Bs ++ [x]):=fun y hy=>by
 rcases List.mem_append.1 hy with hy | hy
 ·exact h y hy
 ·rw[List.mem_singleton.1 hy];exact⟨h1,h2⟩
theorem flat_app (Bs:List (List NV)) (x:List NV):(Bs ++ [x]).flatten=Bs.flatten++x:=by simp
theorem Blks.two {C:List ByteArray} {bs:Nat} {Bs:List (List NV)} {T:List NV} (h:Blks C bs Bs) (hT:T.length<bs) (hl:2*bs≤(Bs.flatten++T).length):∃ x y Cs,Bs=x::y::Cs∧x.length=bs∧y.length=bs∧SortedBy (fI C) x∧SortedBy (fI C) y∧Blks C bs Cs:=by
 match Bs,h with
 | [],_=>simp at hl;omega
 | [x],h=>have:=(h x (by simp)).1;simp at hl;omega
 | x::y::Cs,h=>exact⟨x,y,Cs,rfl,(h x (by simp)).1,(h y (by simp)).1,(h x (by simp)).2,(h y (by simp)).2,fun z hz=>h z (by simp[hz])⟩
theorem Blks.few {C:List ByteArray} {bs:Nat} {Bs:List (List NV)} {T:List NV} (h:Blks C bs Bs) (hb:0<bs) (hl:(Bs.flatten++T).length<2*bs):Bs = []∨∃ x,Bs = [x]∧x.length=bs∧SortedBy (fI C) x:=by
 match Bs,h with
 | [],_=>exact .inl rfl
 | [x],h=>exact .inr ⟨x,rfl,(h x (by simp)).1,(h x (by simp)).2⟩
 | x::y::Cs,h =>
  have h1:=(h x (by simp)).1;have h2:=(h y (by simp)).1;simp only[List.flatten_cons,List.length_append]at hl;omega
def St1 (C:List ByteArray) (D0:List NV) (b off n:Nat) (w0:World) (va vb:Value) (wr:World):Prop :=
 ∃ (Bs:List (List NV)) (T:List NV) (a e:Nat),Blks C 20 Bs∧Bs.flatten.length=a∧a+20=e∧va = .int .i64 (a:Int)∧vb = .int .i64 (e:Int)∧SameCls (fI C) (Bs.flatten++T) D0∧RowV C wr b off n (Bs.flatten++T)∧Srt b w0 wr
def St2 (C:List ByteArray) (D0:List NV) (b off n:Nat) (w0:World) (vs:Value) (wr:World):Prop :=
 ∃ (bs:Nat) (Bs:List (List NV)) (T:List NV),0<bs∧bs≤2*n+20∧vs = .int .i64 (bs:Int)∧Blks C bs Bs∧T.length<bs∧SortedBy (fI C) T∧SameCls (fI C) (Bs.flatten++T) D0∧RowV C wr b off n (Bs.flatten++T)∧Srt b w0 wr
def St3 (C:List ByteArray) (D0:List NV) (bs b off n:Nat) (w0:World) (va vb:Value) (wr:World):Prop :=
 ∃ (Ds Bs:List (List NV)) (T:List NV) (a e:Nat),Blks C (2*bs) Ds∧Blks C bs Bs∧T.length<bs∧SortedBy (fI C) T∧Ds.flatten.length=a∧a+2*bs=e∧va = .int .i64 (a:Int)∧vb = .int .i64 (e:Int)∧SameCls (fI C) (Ds.flatten++Bs.flatten++T) D0∧RowV C wr b off n (Ds.flatten++Bs.flatten++T)∧Srt b w0 wr
theorem stable_cmp (C:List ByteArray) (b off n cap:Nat) (D:List NV) (w:World) (hn:n≤1000000000) (hrow:RowV C w b off n D) :
  Calls Tryz.prog 111 #[.slice (some ⟨b,off,none⟩) n cap,.int .i64 n,gV] w fun e w'=>e = .returned (.tuple #[])∧∃ M,SortedBy (fI C) M∧SameCls (fI C) M D∧RowV C w' b off n M∧Srt b w w':=by
 have hstart:St1 C D b off n w (.int .i64 0) (.int .i64 20) w:=⟨[],D,0,20,(fun x hx=>(by cases hx)),rfl,rfl,by go_num,by go_num,SameCls.refl _,hrow,World.grownBy.refl _ _⟩;have him:∀ k,MgHyp C b off n cap k:=merge_any C b off n cap hn;unfold MgHyp at him;have hins:∀ (P M S:List NV) (a e:Nat) (w:World),P.length=a→e=a+M.length→RowV C w b off n (P++M++S) →
  Calls Tryz.prog 146 #[.slice (some ⟨b,off,none⟩) n cap,.int .i64 a,.int .i64 e,gV] w fun e w'=>e = .returned (.tuple #[])∧∃ M',SortedBy (fI C) M'∧SameCls (fI C) M' M∧RowV C w' b off n (P++M'++S)∧Srt b w w':=fun P M S a e w hP he hr=>insertion_any C b off n cap P M S a e w hP he hn hr
 unfold gV at him hins;unfold gV;obtain⟨hrowH,hstartH,himH,hinsH⟩:=hq2 hrow (hq2 hstart (hq2 him (Lib.hid hins)));clear hrow hstart him hins;go_enter Tryz.func111,Tryz.ntmps111;go_wp2_with fail
 go_loopw [7,8] (fun va vb wr=>St1 C D b off n w va vb wr) (fun _ vb _=>(n+21)-(intOf vb).toNat)
 case atStart=>exact hstartH.out
 case round =>
  clear hstartH;obtain⟨Bs,T,a,e,hB,hBl,hae,rfl,rfl,hcl,hrw,hs⟩:=hrel;have hl:=hrw.sl.1;rw[List.length_append]at hl
  by_cases hen:e≤n
  ·have heni:(e:Int)≤(n:Int):=by omega
   have lM:(T.take 20).length=20:=by rw[List.length_take];omega
   have hcall:=hinsH.out Bs.flatten (T.take 20) (T.drop 20) a e wr hBl (by omega) (by rw[List.append_assoc,List.take_append_drop];exact hrw);have hae1:a<e:=by omega
   obtain⟨hBH,hBlH,haeH,hclH,hrwH,hsH,hlH,lMH,hcallH⟩:=hqc hB hBl hae hcl hrw hs hl lM (Lib.hid hcall);clear hB hBl hae hcl hrw hs hl lM hcall;go_wp2_with fail;refine hcallH.out.mono ?_;rintro e' w2 ⟨rfl,M',q1,c1,hrw2,hs2⟩;have R1:St1 C D b off n w (.int .i64 (e:Int)) (.int .i64 ((e:Int)+20)) w2:=by
    have lM':M'.length=20:=c1.len.trans lMH.out;refine⟨Bs ++ [M'],T.drop 20,e,e+20,hBH.out.app lM' q1,?_,rfl,rfl,by go_num,?_,by rw[flat_app];exact hrw2,hsH.out.trans hs2⟩
    ·rw[flat_app,List.length_append];have:=hBlH.out;have:=haeH.out;omega
    ·rw[flat_app];refine SameCls.trans ?_ hclH.out;rw[List.append_assoc];refine(SameCls.refl _).app ?_;have:=c1.app (SameCls.refl (f:=fI C) (T.drop 20))
     rwa [List.take_append_drop]at this
   clear q1 c1 hrw2 hs2;have R1H:=Lib.hid R1;clear R1;go_wp2;refine⟨?rel,?measure⟩
   case measure=>(simp[intOf];omega)
   case rel=>first | exact R1H.out | exact⟨rfl,R1H.out⟩
  ·have heni:¬ (e:Int)≤(n:Int):=by omega
   have hcall:=hinsH.out Bs.flatten T [] a n wr hBl (by omega) (by rw[List.append_nil];exact hrw);have lT:T.length<20:=by omega
   have han:a≤n:=by omega
   obtain⟨hBH,hBlH,haeH,hclH,hrwH,hsH,hlH,lTH,hcallH⟩:=hqc hB hBl hae hcl hrw hs hl lT (Lib.hid hcall);clear hB hBl hae hcl hrw hs hl lT hcall;go_wp2_with fail;refine hcallH.out.mono ?_;rintro e' w2 ⟨rfl,T',q1,c1,hrw2,hs2⟩;have hst:St2 C D b off n w (.int .i64 20) w2:=by
    refine⟨20,Bs,T',by omega,by omega,by go_num,hBH.out,by rw[c1.len];exact lTH.out,q1,?_,by rw[List.append_nil]at hrw2;exact hrw2,hsH.out.trans hs2⟩;exact((SameCls.refl _).app c1).trans hclH.out
   clear q1 c1 hrw2 hs2;have hstH:=Lib.hid hst;clear hst;go_wp2_with fail;clear hcallH hrwH hsH hclH hlH lTH hBH hBlH haeH
   go_loopw [6] (fun vs wr=>St2 C D b off n w vs wr) (fun vs _=>n-(intOf vs).toNat)
   case atStart=>exact hstH.out
   case round =>
    clear hstH;obtain⟨bs,Bs,T,hb0,hbn,rfl,hB,hT,hsT,hcl,hrw,hs⟩:=hrel;have hl:=hrw.sl.1;rw[List.length_append]at hl
    by_cases hlt:bs<n
    ·have hlti:(bs:Int)<(n:Int):=by omega
     obtain⟨B2,hB2⟩:∃ B2,2*bs=B2:=⟨_,rfl⟩;have hB2i:2*(bs:Int)=(B2:Int):=by omega
     have hB2b:B2≤2000000000:=by omega
     have hst:St3 C D bs b off n w (.int .i64 0) (.int .i64 (B2:Int)) wr:=⟨[],Bs,T,0,2*bs,fun x hx=>(by cases hx),hB,hT,hsT,rfl,by omega,by go_num,by go_num,by simpa using hcl,by simpa using hrw,hs⟩;obtain⟨hBH,hTH,hsTH,hclH,hrwH,hsH,hlH,hstH,hB2H⟩:=hqc hB hT hsT hcl hrw hs hl hst (Lib.hid hB2);clear hB hT hsT hcl hrw hs hl hst hB2;go_wp2_with fail;clear hBH hTH hsTH hclH hrwH hsH hlH
     go_loopw [7,8] (fun va vb wr=>St3 C D bs b off n w va vb wr) (fun _ vb _=>(n+1)-(intOf vb).toNat)
     case atStart=>exact hstH.out
     case round =>
      clear hstH;obtain⟨Ds,Bs,T,a,e,hD,hB,hT,hsT,hDl,hae,rfl,rfl,hcl,hrw,hs⟩:=hrel;have hl:=hrw.sl.1;rw[List.append_assoc,List.length_append]at hl;obtain⟨m,hm⟩:∃ m,a+bs=m:=⟨_,rfl⟩;have hmi:(a:Int)+(bs:Int)=(m:Int):=by omega
      have hem:e=m+bs:=by omega
      by_cases hen:e≤n
      ·have heni:(e:Int)≤(n:Int):=by omega
       obtain⟨x,y,Cs,rfl,lx,ly,sx,sy,hC⟩:=hB.two hT (by omega);have hcall:=himH.out (e-a) Ds.flatten x y (Cs.flatten++T) a m e wr hDl (by omega) (by omega) (Nat.le_refl _) (by omega) (by omega) sx sy (by simpa using hrw);have heb:e≤1000000000:=by omega
       have hmb:m≤1000000000:=by omega
       have R0:∀ M',SortedBy (fI C) M'→SameCls (fI C) M' (x++y)→∀ w2,RowV C w2 b off n (Ds.flatten++M'++(Cs.flatten++T))→Srt b wr w2→St3 C D bs b off n w (.int .i64 (e:Int)) (.int .i64 ((e:Int)+(B2:Int))) w2:=fun M' q1 c1 w2 h1 h2=>by
        have hB2:=hB2H.out;have lM':M'.length=2*bs:=by rw[c1.len,List.length_append];omega
        refine⟨Ds ++ [M'],Cs,T,e,e+2*bs,hD.app lM' q1,hC,hT,hsT,?_,rfl,rfl,by go_num,?_,by rw[flat_app];simpa using h1,hs.trans h2⟩
        ·rw[flat_app,List.length_append];omega
        ·rw[flat_app];refine SameCls.trans ?_ hcl;have:=((SameCls.refl (f:=fI C) Ds.flatten).app c1).app (SameCls.refl (f:=fI C) (Cs.flatten++T))
         simpa using this
       obtain⟨hDH,hTH,hsTH,hDlH,haeH,hclH,hrwH,hsH,hlH,lxH,lyH,sxH,syH,hCH,hcallH,R0H,hmH,hemH⟩:=hq2 hD (hqc hT hsT hDl hae hcl hrw hs hl (hqc lx ly sx sy hC hcall R0 hm (Lib.hid hem)));clear hD hT hsT hDl hae hcl hrw hs hl lx ly sx sy hC hcall R0 hm hem;go_wp2_with fail;refine hcallH.out.mono ?_;rintro e' w2 ⟨rfl,M',q1,c1,hrw2,hs2⟩;have R1:=R0H.out M' q1 c1 w2 hrw2 hs2;clear q1 c1 hrw2 hs2;have R1H:=Lib.hid R1;clear R1;go_wp2;refine⟨?rel,?measure⟩
       case measure=>exact(by simp[intOf];omega)
       case rel=>first | exact R1H.out | exact⟨rfl,R1H.out⟩
      ·have heni:¬ (e:Int)≤(n:Int):=by omega
       have han:a≤n:=by omega
       have hmb:m≤4000000000:=by omega
       have hfew:=hB.few (T:=T) hb0 (by omega)
       by_cases hmn:m<n
       ·have hmni:(m:Int)<(n:Int):=by omega
        obtain⟨x,rfl,lx,sx⟩:∃ x,Bs = [x]∧x.length=bs∧SortedBy (fI C) x:=by
         rcases hfew with rfl | h
         ·simp only[List.flatten_nil,List.nil_append]at hl;omega
         ·exact h
        simp only[List.flatten_cons,List.flatten_nil,List.append_nil,List.length_append]at hl hrw hcl;have hcall:=himH.out (n-a) Ds.flatten x T [] a m n wr hDl (by omega) (by omega) (Nat.le_refl _) (by omega) (by omega) sx hsT (by rw[List.append_nil];exact hrw);have R0:∀ M',SortedBy (fI C) M'→SameCls (fI C) M' (x++T)→∀ w2,RowV C w2 b off n (Ds.flatten++M' ++ [])→Srt b wr w2→St2 C D b off n w (.int .i64 ((bs:Int)*2)) w2:=fun M' q1 c1 w2 h1 h2=>by
         refine⟨2*bs,Ds,M',by omega,by omega,by congr 1;omega,hD,by rw[c1.len,List.length_append];omega,q1,?_,by rw[List.append_nil]at h1;exact h1,hs.trans h2⟩;refine SameCls.trans ?_ hcl;rw[List.append_assoc];exact(SameCls.refl _).app c1
        clear hfew;obtain⟨hDH,hBH,hTH,hsTH,hDlH,haeH,hclH,hrwH,hsH,hlH,lxH,sxH,hcallH,R0H,hmH,hemH⟩:=hq2 hD (hq2 hB (hq2 hT (hqb hsT hDl hae hcl (hqc hrw hs hl lx sx hcall R0 hm (Lib.hid hem)))));clear hD hB hT hsT hDl hae hcl hrw hs hl lx sx hcall R0 hm hem;go_wp2_with fail;refine hcallH.out.mono ?_;rintro e' w2 ⟨rfl,M',q1,c1,hrw2,hs2⟩;have R1:=R0H.out M' q1 c1 w2 hrw2 hs2;clear q1 c1 hrw2 hs2;have R1H:=Lib.hid R1;clear R1;go_wp2;refine⟨?rel,?measure⟩
        case measure=>exact(by simp[intOf];omega)
        case rel=>first | exact R1H.out | exact⟨rfl,R1H.out⟩
       ·have hmni:¬ (m:Int)<(n:Int):=by omega
        have R1:St2 C D b off n w (.int .i64 ((bs:Int)*2)) wr:=by
         rcases hfew with rfl | ⟨x,rfl,lx,sx⟩
         ·exact⟨2*bs,Ds,T,by omega,by omega,by congr 1;omega,hD,by omega,hsT,by simpa using hcl,by simpa using hrw,hs⟩
         ·simp only[List.flatten_cons,List.flatten_nil,List.append_nil,List.length_append]at hl hrw hcl;obtain rfl:T = []:=List.eq_nil_of_length_eq_zero (by omega);exact⟨2*bs,Ds,x,by omega,by omega,by congr 1;omega,hD,by omega,sx,by simpa using hcl,by simpa using hrw,hs⟩
        clear hfew;obtain⟨hDH,hBH,hTH,hsTH,hDlH,haeH,hclH,hrwH,hsH,hlH,R1H,hmH,hemH⟩:=hqb hD hB hT hsT (hqc hDl hae hcl hrw hs hl R1 hm (Lib.hid hem));clear hD hB hT hsT hDl hae hcl hrw hs hl R1 hm hem;go_wp2;refine⟨?rel,?measure⟩
        case measure=>exact(by simp[intOf];omega)
        case rel=>first | exact R1H.out | exact⟨rfl,R1H.out⟩
    ·have hlti:¬ (bs:Int)<(n:Int):=by omega
     have hfin:∃ M,SortedBy (fI C) M∧SameCls (fI C) M D∧RowV C wr b off n M:=by
      rcases hB.few (T:=T) hb0 (by rw[List.length_append];omega) with rfl | ⟨x,rfl,lx,sx⟩
      ·exact⟨T,hsT,by simpa using hcl,by simpa using hrw⟩
      ·simp only[List.flatten_cons,List.flatten_nil,List.append_nil]at hl hrw hcl;obtain rfl:T = []:=List.eq_nil_of_length_eq_zero (by omega);exact⟨x,sx,by simpa using hcl,by simpa using hrw⟩
     obtain⟨hBH,hTH,hsTH,hclH,hrwH,hsH,hlH,hfinH⟩:=hq2 hB (hq2 hT (hq2 hsT (hqb hcl hrw hs hl (Lib.hid hfin))));clear hB hT hsT hcl hrw hs hl hfin;go_wp2
     go_end0
     obtain⟨M,q1,q2,q3⟩:=hfinH.out;exact⟨rfl,M,q1,q2,q3,hsH.out⟩
theorem stable_any (C:List ByteArray) (b off n cap:Nat) (D:List NV) (w:World) (hn:n≤1000000000) (hrow:RowV C w b off n D) :
  Calls Tryz.prog 70 #[.slice (some ⟨b,off,none⟩) n cap,gV] w fun e w'=>e = .returned (.tuple #[])∧∃ M,SortedBy (fI C) M∧SameCls (fI C) M D∧RowV C w' b off n M∧Srt b w w':=by
 have h:=stable_cmp C b off n cap D w hn hrow;unfold gV at h;unfold gV;have hH:=Lib.hid h;clear h;go_enter Tryz.func70,Tryz.ntmps70;go_wp2_with fail;refine hH.out.mono ?_;rintro e w1 ⟨rfl,h1⟩;have hf:=h1;clear h1;have hfH:=Lib.hid hf;clear hf;go_wp2
 go_end0
 exact⟨rfl,hfH.out⟩
theorem ins_nil (w:World):Calls Tryz.prog 146 #[.slice none 0 0,.int .i64 0,.int .i64 0,gV] w fun e w'=>e = .returned (.tuple #[])∧w'=w:=by
 unfold gV;go_enter Tryz.func146,Tryz.ntmps146;go_wp2
 go_loopw [8] (fun i wr=>i = .int .i64 1∧wr=w) (fun i _=>0)
 case atStart=>exact⟨rfl,rfl⟩
 case round =>
  obtain⟨rfl,rfl⟩:=hrel;go_wp2
  go_end0
  exact⟨rfl,rfl⟩
theorem stcmp_nil (w:World):Calls Tryz.prog 111 #[.slice none 0 0,.int .i64 0,gV] w fun e w'=>e = .returned (.tuple #[])∧w'=w:=by
 have hi:=fun w=>ins_nil w;unfold gV at hi;unfold gV;have hiH:=Lib.hid hi;clear hi;go_enter Tryz.func111,Tryz.ntmps111;go_wp2
 go_loopw [7,8] (fun va vb wr=>va = .int .i64 0∧vb = .int .i64 20∧wr=w) (fun _ vb _=>0)
 case atStart=>exact⟨rfl,rfl,rfl⟩
 case round =>
  obtain⟨rfl,rfl,rfl⟩:=hrel;go_wp2_with fail;refine(hiH.out _).mono ?_;rintro e w2 ⟨rfl,rfl⟩;go_wp2
  go_loopw [6] (fun vs wr=>vs = .int .i64 20∧wr=w2) (fun vs _=>0)
  case atStart=>exact⟨rfl,rfl⟩
  case round =>
   obtain⟨rfl,rfl⟩:=hrel;go_wp2
   go_end0
   exact⟨rfl,rfl⟩
theorem stable_nil (w:World):Calls Tryz.prog 70 #[.slice none 0 0,gV] w fun e w'=>e = .returned (.tuple #[])∧w'=w:=by
 have hi:=fun w=>stcmp_nil w;unfold gV at hi;unfold gV;have hiH:=Lib.hid hi;clear hi;go_enter Tryz.func70,Tryz.ntmps70;go_wp2_with fail;refine(hiH.out _).mono ?_;rintro e w1 ⟨rfl,rfl⟩;go_wp2
 go_end0
 exact⟨rfl,rfl⟩
end Go.Proofs.YtpdjjjiknijpkaaGreatDoor.C10