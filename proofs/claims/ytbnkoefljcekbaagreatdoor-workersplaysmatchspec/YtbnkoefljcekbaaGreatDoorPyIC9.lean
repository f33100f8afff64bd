/-
 Several texts of mine as one, without what is not wanted here: XSymI, XSym3I.
-/
import Derived.Test.YtbnkoefljcekbaaGreatDoorPyHC9
set_option linter.unusedVariables false
set_option linter.unusedSimpArgs false
set_option maxRecDepth 100000
set_option maxHeartbeats 8000000
namespace Go.Proofs.YtbnkoefljcekbaaGreatDoor.C9
open Go.ChangeShapes Go.WideShapes Go.Deep Go.RowKit
def MgAns (C:CC) (P M S:List Int) (b off n:Nat) (w0:World) (e:Ending) (w':World):Prop :=
 e = .returned (.tuple #[])∧∃ M',SortedBy (fI C) M'∧SameCls (fI C) M' M∧RowI C w' b off n (P++M'++S)∧Srt b w0 w'
def B1Rel (C:CC) (D R:List Int) (x:Int) (m b off n:Nat) (w0:World) (vi vj:Value) (wr:World):Prop :=
 ∃ p q I J:Nat,p≤q∧q≤R.length∧I=m+p∧J=m+q∧vi = .int .i64 (I:Int)∧vj = .int .i64 (J:Int)∧(∀ y,0<p→R[p-1]? = some y→(fI C) y<(fI C) x)∧(∀ y,R[q]? = some y→(fI C) x≤(fI C) y)∧RowI C wr b off n D∧Srt b w0 wr
def S1Rel (C:CC) (P R S:List Int) (x:Int) (a p b off n:Nat) (w0:World) (vk:Value) (wr:World):Prop :=
 ∃ t:Nat,t≤p∧vk = .int .i64 ((a:Int)+(t:Int))∧RowI C wr b off n (P++R.take t++x::R.drop t++S)∧Srt b w0 wr
theorem getLast_take {R:List Int} {p:Nat} (hp:p≤R.length):(R.take p).getLast? = if p=0 then none else R[p-1]?:=by
 rw[List.getLast?_eq_getElem?,List.length_take,Nat.min_eq_left hp]
 split
 ·subst_vars;simp
 ·rw[List.getElem?_take_of_lt (by omega)]
theorem head_drop {R:List Int} {p:Nat}:(R.drop p).head? = R[p]?:=by rw[List.head?_drop]
theorem put_left (C:CC) {R:List Int} {x:Int} {p:Nat} (hs:SortedBy (fI C) R) (hp:p≤R.length) (h1:∀ y,0<p→R[p-1]? = some y→(fI C) y<(fI C) x) (h2:∀ y,R[p]? = some y→(fI C) x≤(fI C) y) :
  SortedBy (fI C) (R.take p++x::R.drop p)∧SameCls (fI C) (R.take p++x::R.drop p) ([x]++R):=by
 have hR:SortedBy (fI C) (R.take p++R.drop p):=by rw[List.take_append_drop];exact hs
 have:=sym_step (f:=fI C) (A:=[]) (X:=[x]) (Y:=R.take p) (B:=R.drop p) (M1:=R.take p) (M2:=x::R.drop p) (List.pairwise_singleton _ _) hR (fun y hy=>by simp at hy)
  (fun u hu y hy=>by
   simp only[List.head?_cons,Option.some.injEq]at hu;subst hu;rw[getLast_take hp]at hy
   split at hy
   ·cases hy
   ·exact h1 y (by omega) hy)
  (sorted_left hR) (List.pairwise_cons.2 ⟨fun y hy=>by
   have hd:=sorted_right hR
   cases hdr:R.drop p with
   | nil=>rw[hdr]at hy;cases hy
   | cons z r =>
    have hz:R[p]? = some z:=by rw[← head_drop,hdr];rfl
    have hxz:=h2 z hz;rw[hdr]at hd hy
    rcases List.mem_cons.1 hy with rfl | hy
    ·exact hxz
    ·exact Int.le_trans hxz ((List.pairwise_cons.1 hd).1 y hy),sorted_right hR⟩) (SameCls.refl _) (SameCls.refl _)
 rw[List.nil_append,List.take_append_drop]at this;exact this
theorem put_right (C:CC) {L:List Int} {y:Int} {p:Nat} (hs:SortedBy (fI C) L) (hp:p≤L.length) (h1:∀ x,0<p→L[p-1]? = some x→(fI C) x≤(fI C) y) (h2:∀ x,L[p]? = some x→(fI C) y<(fI C) x) :
  SortedBy (fI C) (L.take p++y::L.drop p)∧SameCls (fI C) (L.take p++y::L.drop p) (L ++ [y]):=by
 have hL:SortedBy (fI C) (L.take p++L.drop p):=by rw[List.take_append_drop];exact hs
 have:=sym_step (f:=fI C) (A:=L.take p) (X:=L.drop p) (Y:=[y]) (B:=[]) (M1:=L.take p ++ [y]) (M2:=L.drop p) hL (List.pairwise_singleton _ _) (fun x hx u hu=>by simp at hu)
  (fun x hx u hu=>by
   simp only[List.getLast?_singleton,Option.some.injEq]at hu;subst hu;rw[head_drop]at hx;exact h2 x hx)
  (sorted_app (sorted_left hL) (List.pairwise_singleton _ _) (fun x hx u hu=>by
   rw[List.mem_singleton.1 hu];obtain⟨l,hl⟩:∃ l,(L.take p).getLast? = some l:=by
    cases h:(L.take p).getLast? with
    | none=>rw[List.getLast?_eq_none_iff]at h;rw[h]at hx;cases hx
    | some l=>exact⟨l,rfl⟩
   have hly:(fI C) l≤(fI C) y:=by
    have hl2:=hl;rw[getLast_take hp]at hl2
    split at hl2
    ·cases hl2
    ·exact h1 l (by omega) hl2
   obtain⟨i,hi⟩:=List.getLast?_eq_some_iff.1 hl;have hs2:=sorted_left hL;rw[hi]at hx hs2
   rcases List.mem_append.1 hx with hx | hx
   ·exact Int.le_trans (sorted_cross hs2 x hx l (by simp)) hly
   ·rw[List.mem_singleton.1 hx];exact hly)) (sorted_right hL) (SameCls.refl _) (by simpa using SameCls.refl (f:=fI C) (L.drop p))
 rw[List.take_append_drop,List.append_assoc (L.take p)]at this
 simpa using this
theorem get_at {P R S:List Int} {k i:Nat} {y:Int} (h:P.length=i) (hy:R[k]? = some y):(P++R++S)[i+k]? = some y:=by
 subst h;have hk:=(List.getElem?_eq_some_iff.1 hy).1;rw[List.append_assoc,List.getElem?_append_right (by omega),Nat.add_sub_cancel_left,List.getElem?_append_left hk];exact hy
theorem merge1 (C:CC) (b off n cap:Nat) (P R S:List Int) (x:Int) (a m e:Nat) (w:World) (hP:P.length=a) (hm:m=a+1) (he:e=m+R.length) (hn:n≤1000000000) (hsR:SortedBy (fI C) R) (hrow:RowI C w b off n (P ++ [x]++R++S)) :
  Calls Tryz.prog 223 #[.slice (some ⟨b,off,none⟩) n cap,.int .i64 a,.int .i64 m,.int .i64 e,(gI C)] w (MgAns C P ([x]++R) S b off n w):=by
 have hlen:=hrow.sl.1;simp only[List.length_append,List.length_singleton]at hlen;have hen:e≤n:=by omega
 have hme:m≤e:=by omega
 have ham:a<m:=by omega
 have hma:(m:Int)-(a:Int)=1:=by omega
 unfold gI;have hstart:B1Rel C (P ++ [x]++R++S) R x m b off n w (.int .i64 (m:Int)) (.int .i64 (e:Int)) w:=⟨0,R.length,m,e,by omega,Nat.le_refl _,by omega,he,rfl,rfl,fun y h=>by omega,fun y hy=>by simp at hy,hrow,World.grownBy.refl _ _⟩;obtain⟨hrowH,hlenH,hPH,hstartH,heH,hsRH,hmH⟩:=hq2 hrow (hq2 hlen (hqb hP hstart he hsR (Lib.hid hm)));clear hrow hlen hP hstart he hsR hm;go_enter Tryz.func223,Tryz.ntmps223;go_wp2_with fail
 go_loopw [10,11] (fun vi vj wr=>B1Rel C (P ++ [x]++R++S) R x m b off n w vi vj wr) (fun vi vj _=>(intOf vj).toNat-(intOf vi).toNat)
 case atStart=>exact hstartH.out
 case round =>
  clear hstartH;obtain⟨p,q,I,J,hpq,hqR,hI,hJ,rfl,rfl,hp1,hq1,hrw,hs⟩:=hrel;have hJe:J≤e:=by have:=heH.out;omega
  have hmI:m≤I:=by omega
  by_cases hlt:p<q
  ·have hIJ:I<J:=by omega
   obtain⟨H,hH⟩:∃ H,(I+J) / 2=H:=⟨_,rfl⟩;have hHi:((I:Int)+(J:Int)) / 2=(H:Int):=by omega
   have hH2:H=m+(p+q) / 2:=by omega
   have hHI:I≤H:=by omega
   have hHJ:H<J:=by omega
   obtain⟨y,hy⟩:∃ y,R[(p+q) / 2]? = some y:=⟨R[(p+q) / 2]'(by omega),List.getElem?_eq_getElem _⟩;have hgy:=get_at (P:=P ++ [x]) (S:=S) (i:=m) (by rw[List.length_append];have:=hPH.out;have:=hmH.out;simp;omega) hy;rw[← hH2]at hgy;have hgx:(P ++ [x]++R++S)[a]? = some x:=by rw[List.append_assoc,List.append_assoc];exact get_mid (S:=[]) hPH.out
   have v0:=hrw.at_ hgx;have u0:=hrw.at_ hgy;obtain⟨v,hv⟩:∃ v,Lib.compareInt (vC C x) (vC C y)=v:=⟨_,rfl⟩;have hvl:v<0↔(vC C x)<(vC C y):=by rw[← hv];exact cmpI_lt
   have k0:(0:Int)≤(H:Int):=by omega
   have k1:(H:Int)<(n:Int):=by omega
   have k2:(0:Int)≤(a:Int):=by omega
   have k3:(a:Int)<(n:Int):=by omega
   obtain⟨hp1H,hq1H,hrwH,hsH,hyH,hgyH,hgxH,hvH,hvlH,hHH,hH2H,hIH,hJH⟩:=hqb hp1 hq1 hrw hs (hqc hy hgy hgx hv hvl hH hH2 hI (Lib.hid hJ));clear hp1 hq1 hrw hs hy hgy hgx hv hvl hH hH2 hI hJ;go_wp2_with fail;refine wp_region_held_drew (S:=(fun w'=>w'.cell? ⟨b,off+H,none⟩=some (.int .i64 y)∧w'.cell? ⟨b,off+a,none⟩=some (.int .i64 x))) (by kernel_rfl) ⟨u0,v0⟩ (fun hHeld=>?_);clear u0 v0;refine tkS [(0,40),(1,41),(2,42),(3,43),(4,44),(5,45),(6,46),(7,47),(8,48)] ?_;(iterate 9 (refine tkL ?_ ?_ ?_;rotate_left;(· intro w hSw;(try dsimp only at hSw);go_simp;(try with_reducible rfl));(try simp only[Act.put,tkA,tkB,tkC])));refine tkE ?_;refine wpAnyH_ready (rs:=[9]) (by kernel_rfl) (by simp) ?_;refine AllReadyH.cons (i:=9) rfl (fun K hK=>?_) AllReadyH.nil;go_simp;go_at_call 159;refine(cmp_any C y x _ v (hrwH.out.cr.below (Below.refl _ _).drew) (hrwH.out.in_ hgyH.out) (hrwH.out.in_ hgxH.out) hvH.out).mono ?_;rintro e' w2 ⟨rfl,hb2⟩;have hb2a:Below wr.heap.size wr w2:=by first | exact hb2 | exact(Below.refl _ _).drew.trans hb2
   replace hHeld:=keep2i hb2 hHeld;have hrw3:=hrwH.out.below hb2a;have hs3:=hsH.out.trans (Srt.of_below hb2a);clear hb2 hb2a;obtain⟨hrw3H,hs3H⟩:=hq2 hrw3 (Lib.hid hs3);clear hrw3 hs3;refine hK.out _ _ hHeld (fun hHeld=>?_);clear hK K
   (try simp only[Act.put,tkA,tkB,tkC])
   clear hHeld;refine tkS [(10,50)] ?_;(iterate 1 (refine tkL ?_ ?_ ?_;rotate_left;(· intro w hSw;(try dsimp only at hSw);go_simp;(try with_reducible rfl));(try simp only[Act.put,tkA,tkB,tkC])));refine tkE ?_;refine wpAnyH_done (by kernel_rfl) ?_ _
   by_cases hc:v<0
   ·have R1:B1Rel C (P ++ [x]++R++S) R x m b off n w (.int .i64 ((H:Int)+1)) (.int .i64 (J:Int)) w2:=by
     refine⟨(p+q) / 2+1,q,H+1,J,by omega,hqR,by have:=hH2H.out;omega,hJH.out,by go_num,rfl,fun z _ hz=>?_,hq1H.out,hrw3H.out,hs3H.out⟩;rw[Nat.add_sub_cancel,hyH.out]at hz;injection hz with hz;subst hz;have:=hvlH.out.1 hc;unfold fI;omega
    have R1H:=Lib.hid R1;clear R1;go_wp2;refine⟨?rel,?measure⟩
    case measure=>(simp[intOf];omega)
    case rel=>first | exact R1H.out | exact⟨rfl,R1H.out⟩
   ·have R1:B1Rel C (P ++ [x]++R++S) R x m b off n w (.int .i64 (I:Int)) (.int .i64 (H:Int)) w2:=by
     refine⟨p,(p+q) / 2,I,H,by omega,by omega,hIH.out,hH2H.out,rfl,rfl,hp1H.out,fun z hz=>?_,hrw3H.out,hs3H.out⟩;rw[hyH.out]at hz;injection hz with hz;subst hz;have:¬ (vC C x)<(vC C y):=fun h=>hc (hvlH.out.2 h);unfold fI;omega
    have R1H:=Lib.hid R1;clear R1;go_wp2;refine⟨?rel,?measure⟩
    case measure=>(simp[intOf];omega)
    case rel=>first | exact R1H.out | exact⟨rfl,R1H.out⟩
  ·obtain rfl:p=q:=by omega
   obtain rfl:I=J:=by omega
   have hpl:=put_left C hsRH.out hqR hp1 hq1;have hst:S1Rel C P R S x a p b off n w (.int .i64 (a:Int)) wr:=⟨0,Nat.zero_le _,by go_num,by simpa using hrw,hs⟩;have hIa:(I:Int)-1=(a:Int)+(p:Int):=by have:=hmH.out;omega
   clear hrw hs hp1 hq1;obtain⟨hplH,hstH,hIH⟩:=hq2 hpl (hq2 hst (Lib.hid hI));clear hpl hst hI;go_wp2_with fail
   go_loopw [13] (fun vk wr=>S1Rel C P R S x a p b off n w vk wr) (fun vk _=>(I-1)-(intOf vk).toNat)
   case atStart=>exact hstH.out
   case round =>
    clear hstH;obtain⟨t,htp,rfl,hrw,hs⟩:=hrel
    by_cases hlt2:t<p
    ·obtain⟨y,hy⟩:∃ y,R[t]? = some y:=⟨R[t]'(by omega),List.getElem?_eq_getElem _⟩;obtain⟨K,hK⟩:∃ K,a+t=K:=⟨_,rfl⟩;have hKi:(a:Int)+(t:Int)=(K:Int):=by omega
     have hd:P++R.take t++x::R.drop t++S=(P++R.take t)++x :: []++y::(R.drop (t+1)++S):=by rw[drop_cons hy];simp
     rw[hd]at hrw;rw[hKi];have hgx:((P++R.take t)++x :: []++y::(R.drop (t+1)++S))[K]? = some x:=by rw[List.append_assoc];exact get_mid (S:=[]) (by rw[List.length_append,List.length_take];have:=hPH.out;omega)
     have hgy:((P++R.take t)++x :: []++y::(R.drop (t+1)++S))[K+1]? = some y:=get_mid (S:=[]) (by simp only[List.length_append,List.length_cons,List.length_nil,List.length_take];have:=hPH.out;omega);have hKn:K+1<n:=by have:=heH.out;have:=hmH.out;omega
     have R1:S1Rel C P R S x a p b off n w (.int .i64 ((K:Int)+1)) (exW wr b off K (K+1) x y).drew:=by
      have hsw:=(hrw.swap (i:=K) (j:=K+1) (by rw[List.length_append,List.length_take];have:=hPH.out;omega) (by simp)).drew;refine⟨t+1,by omega,by go_num,?_,(hs.trans (exW_srt _ _ _ _ _ _ _)).trans Srt.drew⟩;rw[List.take_add_one,hy]
      simpa using hsw
     have x0:=hrw.at_ hgx;have y0:=hrw.at_ hgy;have fz:=hrw.fz;have f0:=fz K;have f2:=fz (K+1);have k0:(0:Int)≤(K:Int):=by omega
     have k1:(K:Int)+1<(n:Int):=by omega
     have k2:(K:Int)<(a:Int)+(p:Int):=by omega
     have hKI:K<I-1:=by omega
     unfold exW at R1;clear fz;obtain⟨hrwH,hsH,hyH,hdH,hgxH,hgyH,hKH,hKiH,R1H⟩:=hqc hrw hs hy hd hgx hgy hK hKi (Lib.hid R1);clear hrw hs hy hd hgx hgy hK hKi R1;go_wp2_with fail
     go_region
     go_wp2;refine⟨?rel,?measure⟩
     case measure=>exact(by simp[intOf];omega)
     case rel=>first | exact R1H.out | exact⟨rfl,R1H.out⟩
    ·obtain rfl:t=p:=by omega
     obtain⟨q1,q2⟩:=hplH.out;obtain⟨hrwH,hsH,q1H,q2H⟩:=hq2 hrw (hq2 hs (hq2 q1 (Lib.hid q2)));clear hrw hs q1 q2;go_wp2
     go_end0
     exact⟨rfl,_,q1H.out,q2H.out,by simpa using hrwH.out,hsH.out⟩
def B2Rel (C:CC) (D L:List Int) (y:Int) (a b off n:Nat) (w0:World) (vi vj:Value) (wr:World):Prop :=
 ∃ p q I J:Nat,p≤q∧q≤L.length∧I=a+p∧J=a+q∧vi = .int .i64 (I:Int)∧vj = .int .i64 (J:Int)∧(∀ x,0<p→L[p-1]? = some x→(fI C) x≤(fI C) y)∧(∀ x,L[q]? = some x→(fI C) y<(fI C) x)∧RowI C wr b off n D∧Srt b w0 wr
def S2Rel (C:CC) (P L S:List Int) (y:Int) (a p b off n:Nat) (w0:World) (vk:Value) (wr:World):Prop :=
 ∃ t:Nat,p≤t∧t≤L.length∧vk = .int .i64 ((a:Int)+(t:Int))∧RowI C wr b off n (P++L.take t++y::L.drop t++S)∧Srt b w0 wr
theorem merge2 (C:CC) (b off n cap:Nat) (P L S:List Int) (y:Int) (a m e:Nat) (w:World) (hP:P.length=a) (hm:m=a+L.length) (hL2:2≤L.length) (he:e=m+1) (hn:n≤1000000000) (hsL:SortedBy (fI C) L) (hrow:RowI C w b off n (P++L ++ [y]++S)) :
  Calls Tryz.prog 223 #[.slice (some ⟨b,off,none⟩) n cap,.int .i64 a,.int .i64 m,.int .i64 e,(gI C)] w (MgAns C P (L ++ [y]) S b off n w):=by
 have hlen:=hrow.sl.1;simp only[List.length_append,List.length_singleton]at hlen;have hen:e≤n:=by omega
 have hme:m<e:=by omega
 have ham:a+1<m:=by omega
 have hma:¬ (m:Int)-(a:Int)=1:=by omega
 have hma2:((m:Int)-(a:Int)==1)=false:=by simpa using hma
 have hem:(e:Int)-(m:Int)=1:=by omega
 unfold gI;have hstart:B2Rel C (P++L ++ [y]++S) L y a b off n w (.int .i64 (a:Int)) (.int .i64 (m:Int)) w:=⟨0,L.length,a,m,by omega,Nat.le_refl _,by omega,hm,rfl,rfl,fun y h=>by omega,fun x hx=>by simp at hx,hrow,World.grownBy.refl _ _⟩;obtain⟨hrowH,hlenH,hPH,hstartH,heH,hsLH,hmH⟩:=hq2 hrow (hq2 hlen (hqb hP hstart he hsL (Lib.hid hm)));clear hrow hlen hP hstart he hsL hm;go_enter Tryz.func223,Tryz.ntmps223;go_wp2_with fail
 go_loopw [14,15] (fun vi vj wr=>B2Rel C (P++L ++ [y]++S) L y a b off n w vi vj wr) (fun vi vj _=>(intOf vj).toNat-(intOf vi).toNat)
 case atStart=>exact hstartH.out
 case round =>
  clear hstartH;obtain⟨p,q,I,J,hpq,hqL,hI,hJ,rfl,rfl,hp1,hq1,hrw,hs⟩:=hrel;have hJm:J≤m:=by have:=hmH.out;omega
  have haI:a≤I:=by omega
  by_cases hlt:p<q
  ·have hIJ:I<J:=by omega
   obtain⟨H,hH⟩:∃ H,(I+J) / 2=H:=⟨_,rfl⟩;have hHi:((I:Int)+(J:Int)) / 2=(H:Int):=by omega
   have hH2:H=a+(p+q) / 2:=by omega
   have hHI:I≤H:=by omega
   have hHJ:H<J:=by omega
   obtain⟨x,hx⟩:∃ x,L[(p+q) / 2]? = some x:=⟨L[(p+q) / 2]'(by omega),List.getElem?_eq_getElem _⟩;have hgx:=get_at (P:=P) (S:=[y]++S) (i:=a) hPH.out hx;rw[← hH2,← List.append_assoc]at hgx;have hgy:(P++L ++ [y]++S)[m]? = some y:=by rw[List.append_assoc];exact get_mid (S:=[]) (by rw[List.length_append];have:=hPH.out;have:=hmH.out;omega)
   have v0:=hrw.at_ hgx;have u0:=hrw.at_ hgy;obtain⟨v,hv⟩:∃ v,Lib.compareInt (vC C x) (vC C y)=v:=⟨_,rfl⟩;have hvl:v<0↔(vC C x)<(vC C y):=by rw[← hv];exact cmpI_lt
   have k0:(0:Int)≤(H:Int):=by omega
   have k1:(H:Int)<(n:Int):=by omega
   have k2:(0:Int)≤(m:Int):=by omega
   have k3:(m:Int)<(n:Int):=by omega
   obtain⟨hp1H,hq1H,hrwH,hsH,hxH,hgyH,hgxH,hvH,hvlH,hHH,hH2H,hIH,hJH⟩:=hqb hp1 hq1 hrw hs (hqc hx hgy hgx hv hvl hH hH2 hI (Lib.hid hJ));clear hp1 hq1 hrw hs hx hgy hgx hv hvl hH hH2 hI hJ;go_wp2_with fail;refine wp_region_held_drew (S:=(fun w'=>w'.cell? ⟨b,off+m,none⟩=some (.int .i64 y)∧w'.cell? ⟨b,off+H,none⟩=some (.int .i64 x))) (by kernel_rfl) ⟨u0,v0⟩ (fun hHeld=>?_);clear u0 v0;refine tkS [(0,92),(1,93),(2,94),(3,95),(4,96),(5,97),(6,98),(7,99),(8,100)] ?_;(iterate 9 (refine tkL ?_ ?_ ?_;rotate_left;(· intro w hSw;(try dsimp only at hSw);go_simp;(try with_reducible rfl));(try simp only[Act.put,tkA,tkB,tkC])));refine tkE ?_;refine wpAnyH_ready (rs:=[9]) (by kernel_rfl) (by simp) ?_;refine AllReadyH.cons (i:=9) rfl (fun K hK=>?_) AllReadyH.nil;go_simp;go_at_call 159;refine(cmp_any C y x _ v (hrwH.out.cr.below (Below.refl _ _).drew) (hrwH.out.in_ hgyH.out) (hrwH.out.in_ hgxH.out) hvH.out).mono ?_;rintro e' w2 ⟨rfl,hb2⟩;have hb2a:Below wr.heap.size wr w2:=by first | exact hb2 | exact(Below.refl _ _).drew.trans hb2
   replace hHeld:=keep2i hb2 hHeld;have hrw3:=hrwH.out.below hb2a;have hs3:=hsH.out.trans (Srt.of_below hb2a);clear hb2 hb2a;obtain⟨hrw3H,hs3H⟩:=hq2 hrw3 (Lib.hid hs3);clear hrw3 hs3;refine hK.out _ _ hHeld (fun hHeld=>?_);clear hK K
   (try simp only[Act.put,tkA,tkB,tkC])
   clear hHeld;refine tkS [(10,102),(11,103)] ?_;(iterate 2 (refine tkL ?_ ?_ ?_;rotate_left;(· intro w hSw;(try dsimp only at hSw);go_simp;(try with_reducible rfl));(try simp only[Act.put,tkA,tkB,tkC])));refine tkE ?_;refine wpAnyH_done (by kernel_rfl) ?_ _
   by_cases hc:v<0
   ·have R1:B2Rel C (P++L ++ [y]++S) L y a b off n w (.int .i64 (I:Int)) (.int .i64 (H:Int)) w2:=by
     refine⟨p,(p+q) / 2,I,H,by omega,by omega,hIH.out,hH2H.out,rfl,rfl,hp1H.out,fun z hz=>?_,hrw3H.out,hs3H.out⟩;rw[hxH.out]at hz;injection hz with hz;subst hz;have:=hvlH.out.1 hc;unfold fI;omega
    rw[show (!decide (v<0))=false by simp[hc]];have R1H:=Lib.hid R1;clear R1;go_wp2;refine⟨?rel,?measure⟩
    case measure=>(simp[intOf];omega)
    case rel=>first | exact R1H.out | exact⟨rfl,R1H.out⟩
   ·have R1:B2Rel C (P++L ++ [y]++S) L y a b off n w (.int .i64 ((H:Int)+1)) (.int .i64 (J:Int)) w2:=by
     refine⟨(p+q) / 2+1,q,H+1,J,by omega,hqL,by have:=hH2H.out;omega,hJH.out,by go_num,rfl,fun z _ hz=>?_,hq1H.out,hrw3H.out,hs3H.out⟩;rw[Nat.add_sub_cancel,hxH.out]at hz;injection hz with hz;subst hz;have:¬ (vC C x)<(vC C y):=fun h=>hc (hvlH.out.2 h);unfold fI;omega
    rw[show (!decide (v<0))=true by simp;omega];have R1H:=Lib.hid R1;clear R1;go_wp2;refine⟨?rel,?measure⟩
    case measure=>(simp[intOf];omega)
    case rel=>first | exact R1H.out | exact⟨rfl,R1H.out⟩
  ·obtain rfl:p=q:=by omega
   obtain rfl:I=J:=by omega
   have hpl:=put_right C hsLH.out hqL hp1 hq1;have hst:S2Rel C P L S y a p b off n w (.int .i64 (m:Int)) wr:=⟨L.length,hqL,Nat.le_refl _,by have:=hmH.out;congr 1;omega,by simpa using hrw,hs⟩;have hIa:(I:Int)=(a:Int)+(p:Int):=by omega
   clear hrw hs hp1 hq1;obtain⟨hplH,hstH,hIH,hIaH⟩:=hq2 hpl (hq2 hst (hq2 hI (Lib.hid hIa)));clear hpl hst hI hIa;go_wp2_with fail
   go_loopw [17] (fun vk wr=>S2Rel C P L S y a p b off n w vk wr) (fun vk _=>(intOf vk).toNat)
   case atStart=>exact hstH.out
   case round =>
    clear hstH;obtain⟨t,hpt,htL,rfl,hrw,hs⟩:=hrel;have hIa:=hIaH.out
    by_cases hlt2:p<t
    ·obtain⟨t,rfl⟩:∃ u,t=u+1:=⟨t-1,by omega⟩;obtain⟨x,hx⟩:∃ x,L[t]? = some x:=⟨L[t]'(by omega),List.getElem?_eq_getElem _⟩;obtain⟨K,hK⟩:∃ K,a+t=K:=⟨_,rfl⟩;have hKi:(a:Int)+((t+1:Nat):Int)=(K:Int)+1:=by omega
     have hd:P++L.take (t+1)++y::L.drop (t+1)++S=(P++L.take t)++x :: []++y::(L.drop (t+1)++S):=by rw[List.take_add_one,hx];simp
     rw[hd]at hrw;rw[hKi];have hgx:((P++L.take t)++x :: []++y::(L.drop (t+1)++S))[K]? = some x:=by rw[List.append_assoc];exact get_mid (S:=[]) (by rw[List.length_append,List.length_take];have:=hPH.out;omega)
     have hgy:((P++L.take t)++x :: []++y::(L.drop (t+1)++S))[K+1]? = some y:=get_mid (S:=[]) (by simp only[List.length_append,List.length_cons,List.length_nil,List.length_take];have:=hPH.out;omega);have hKn:K+1<n:=by have:=hmH.out;omega
     have R1:S2Rel C P L S y a p b off n w (.int .i64 (K:Int)) (exW wr b off (K+1) K y x).drew:=by
      have hsw:=(hrw.swap2 (i:=K) (j:=K+1) (by rw[List.length_append,List.length_take];have:=hPH.out;omega) (by simp)).drew;refine⟨t,by omega,by omega,by congr 1;omega,?_,(hs.trans (exW_srt _ _ _ _ _ _ _)).trans Srt.drew⟩;rw[drop_cons hx]
      simpa using hsw
     have x0:=hrw.at_ hgx;have y0:=hrw.at_ hgy;have fz:=hrw.fz;have f0:=fz K;have f2:=fz (K+1);have k0:(0:Int)≤(K:Int):=by omega
     have k1:(K:Int)+1<(n:Int):=by omega
     have k2:(I:Int)<(K:Int)+1:=by omega
     have hw2:IntKind.i64.wrap (K:Int)=(K:Int):=by rw[IntKind.wrap_i64];omega
     unfold exW at R1;clear fz hIa;obtain⟨hrwH,hsH,hxH,hdH,hgxH,hgyH,hKH,hKiH,R1H⟩:=hqc hrw hs hx hd hgx hgy hK hKi (Lib.hid R1);clear hrw hs hx hd hgx hgy hK hKi R1;go_wp2_with fail
     go_region
     go_wp2;refine⟨?rel,?measure⟩
     case measure=>exact(by simp[intOf] <;> omega)
     case rel=>first | exact R1H.out | exact⟨rfl,R1H.out⟩
    ·obtain rfl:t=p:=by omega
     obtain⟨q1,q2⟩:=hplH.out;have hng:¬ (I:Int)<(a:Int)+(t:Int):=by omega
     clear hIa;obtain⟨hrwH,hsH,q1H,q2H⟩:=hq2 hrw (hq2 hs (hq2 q1 (Lib.hid q2)));clear hrw hs q1 q2;go_wp2
     go_end0
     exact⟨rfl,_,q1H.out,q2H.out,by simpa using hrwH.out,hsH.out⟩
def MgHyp (C:CC) (b off n cap k:Nat):Prop:=∀ (P L R S:List Int) (a m e:Nat) (w:World),P.length=a→m=a+L.length→e=m+R.length→e-a≤k→1≤L.length→1≤R.length→SortedBy (fI C) L→SortedBy (fI C) R→RowI C w b off n (P++L++R++S) →
 Calls Tryz.prog 223 #[.slice (some ⟨b,off,none⟩) n cap,.int .i64 a,.int .i64 m,.int .i64 e,(gI C)] w (MgAns C P (L++R) S b off n w)
def B3Rel (C:CC) (D L R:List Int) (a mid s0 r0 b off n:Nat) (w0:World) (vs vr:Value) (wr:World):Prop :=
 ∃ st r:Nat,s0≤st∧st≤r∧r≤r0∧vs = .int .i64 (st:Int)∧vr = .int .i64 (r:Int)∧(s0<st→∀ x y,L[st-1-a]? = some x→R[mid-st]? = some y→(fI C) x≤(fI C) y)∧(r<r0→∀ x y,L[r-a]? = some x→R[mid-1-r]? = some y→(fI C) y<(fI C) x)∧RowI C wr b off n D∧Srt b w0 wr
theorem sorted_parts (C:CC) {L R:List Int} {i j:Nat} (hL:SortedBy (fI C) L) (hR:SortedBy (fI C) R) (hj:j≤R.length) (hi:i≤L.length)
  (h1:0<i→∀ x y,L[i-1]? = some x→R[j]? = some y→(fI C) x≤(fI C) y) (h2:0<j→∀ x y,L[i]? = some x→R[j-1]? = some y→(fI C) y<(fI C) x) {M1 M2:List Int}
  (m1:SortedBy (fI C) M1) (m2:SortedBy (fI C) M2) (s1:SameCls (fI C) M1 (L.take i++R.take j)) (s2:SameCls (fI C) M2 (L.drop i++R.drop j)):SortedBy (fI C) (M1++M2)∧SameCls (fI C) (M1++M2) (L++R):=by
 have:=sym_step (f:=fI C) (A:=L.take i) (X:=L.drop i) (Y:=R.take j) (B:=R.drop j) (M1:=M1) (M2:=M2) (by rw[List.take_append_drop];exact hL) (by rw[List.take_append_drop];exact hR)
  (fun x hx y hy=>by
   rw[getLast_take hi]at hx;rw[head_drop]at hy
   split at hx
   ·cases hx
   ·exact h1 (by omega) x y hx hy)
  (fun x hx y hy=>by
   rw[head_drop]at hx;rw[getLast_take hj]at hy
   split at hy
   ·cases hy
   ·exact h2 (by omega) x y hx hy) m1 m2 s1 s2
 rw[List.take_append_drop,List.take_append_drop]at this;exact this
theorem merge3 (C:CC) (b off n cap k:Nat) (ih:MgHyp C b off n cap k) (P L R S:List Int) (a m e:Nat) (w:World) (hP:P.length=a) (hm:m=a+L.length) (he:e=m+R.length) (hk:e-a≤k+1) (hl1:2≤L.length) (hl2:2≤R.length) (hn:n≤1000000000) (hsL:SortedBy (fI C) L) (hsR:SortedBy (fI C) R) (hrow:RowI C w b off n (P++L++R++S)) :
  Calls Tryz.prog 223 #[.slice (some ⟨b,off,none⟩) n cap,.int .i64 a,.int .i64 m,.int .i64 e,(gI C)] w (MgAns C P (L++R) S b off n w):=by
 have hlen:=hrow.sl.1;simp only[List.length_append]at hlen;have hen:e≤n:=by omega
 have hme:m+2≤e:=by omega
 have ham:a+2≤m:=by omega
 have hma:¬ (m:Int)-(a:Int)=1:=by omega
 have hma2:((m:Int)-(a:Int)==1)=false:=by simpa using hma
 have hem:¬ (e:Int)-(m:Int)=1:=by omega
 have hem2:((e:Int)-(m:Int)==1)=false:=by simpa using hem
 obtain⟨mid,hmid⟩:∃ mid,(a+e) / 2=mid:=⟨_,rfl⟩;have hmidi:((a:Int)+(e:Int)) / 2=(mid:Int):=by omega
 have hmid1:a<mid:=by omega
 have hmid2:mid<e:=by omega
 unfold MgHyp at ih;unfold gI at ih;unfold gI
 by_cases hmm:mid<m
 ·obtain⟨s0,hs0⟩:∃ s0,mid+m-e=s0:=⟨_,rfl⟩;have hs0i:(mid:Int)+(m:Int)-(e:Int)=(s0:Int):=by omega
  obtain⟨r0,hr0⟩:∃ r0,mid=r0:=⟨_,rfl⟩;have hsr:s0≤r0:=by omega
  have hgeo:a≤s0∧r0≤mid∧r0≤m∧mid-s0≤e-m∧(s0=a∨mid-s0=e-m)∧(r0=m∨r0=mid):=⟨by omega,by omega,by omega,by omega,.inr (by omega),.inr hr0.symm⟩;obtain⟨hrowH,hlenH,hPH,heH,hsLH,hsRH,hmH,hgeoH,hsrH,ihH,hl1H,hl2H,hs0H,hr0H,hmidH⟩:=hq2 hrow (hq2 hlen (hqb hP he hsL hsR (hqc hm hgeo hsr ih hl1 hl2 hs0 hr0 (Lib.hid hmid))));clear hrow hlen hP he hsL hsR hm hgeo hsr ih hl1 hl2 hs0 hr0 hmid;go_enter Tryz.func223,Tryz.ntmps223;go_wp2_with fail
  go_loopw [20,21] (fun vs vr wr=>B3Rel C (P++L++R++S) L R a mid s0 r0 b off n w vs vr wr) (fun vs vr _=>(intOf vr).toNat-(intOf vs).toNat)
  case atStart=>exact⟨s0,r0,Nat.le_refl _,hsrH.out,Nat.le_refl _,rfl,(by rw[hr0H.out]),fun h=>by omega,fun h=>by omega,hrowH.out,World.grownBy.refl _ _⟩
  case round =>
   obtain⟨st,r,hst0,hstr,hrr0,rfl,rfl,hgood,hbad,hrw,hs⟩:=hrel;obtain⟨g1,g2,g3,g4,g5,g6⟩:=hgeoH.out;have hrm:r≤m:=by omega
   have hrmid:r≤mid:=by omega
   have hast:a≤st:=by omega
   by_cases hlt:st<r
   ·obtain⟨H,hH⟩:∃ H,(st+r) / 2=H:=⟨_,rfl⟩;have hHi:((st:Int)+(r:Int)) / 2=(H:Int):=by omega
    have hHI:st≤H:=by omega
    have hHJ:H<r:=by omega
    obtain⟨Z,hZ⟩:∃ Z,mid+m-1-H=Z:=⟨_,rfl⟩;have hZi:(mid:Int)+(m:Int)-1-(H:Int)=(Z:Int):=by omega
    have hm:=hmH.out;have he:=heH.out;obtain⟨x,hx⟩:∃ x,L[H-a]? = some x:=⟨L[H-a]'(by omega),List.getElem?_eq_getElem _⟩;obtain⟨y,hy⟩:∃ y,R[mid-1-H]? = some y:=⟨R[mid-1-H]'(by omega),List.getElem?_eq_getElem _⟩;have hgx:=get_at (P:=P) (S:=R++S) (i:=a) hPH.out hx;rw[← List.append_assoc,show a+(H-a)=H by omega]at hgx;have hgy:=get_at (P:=P++L) (S:=S) (i:=m) (by rw[List.length_append];have:=hPH.out;omega) hy;rw[show m+(mid-1-H)=Z by omega]at hgy;have v0:=hrw.at_ hgx;have u0:=hrw.at_ hgy;obtain⟨v,hv⟩:∃ v,Lib.compareInt (vC C x) (vC C y)=v:=⟨_,rfl⟩;have hvl:v<0↔(vC C x)<(vC C y):=by rw[← hv];exact cmpI_lt
    have k0:(0:Int)≤(H:Int):=by omega
    have k1:(H:Int)<(n:Int):=by omega
    have k2:(0:Int)≤(Z:Int):=by omega
    have k3:(Z:Int)<(n:Int):=by omega
    have hwZ:IntKind.i64.wrap (Z:Int)=(Z:Int):=by rw[IntKind.wrap_i64];omega
    clear hm he;obtain⟨hgoodH,hbadH,hrwH,hsH,hxH,hyH,hgyH,hgxH,hvH,hvlH,hHH,hZH,g1H,g2H,g3H,g4H,g5H,g6H⟩:=hq2 hgood (hqc hbad hrw hs hx hy hgy hgx hv (hqc hvl hH hZ g1 g2 g3 g4 g5 (Lib.hid g6)));clear hgood hbad hrw hs hx hy hgy hgx hv hvl hH hZ g1 g2 g3 g4 g5 g6;go_wp2_with fail;refine wp_region_held_drew (S:=(fun w'=>w'.cell? ⟨b,off+Z,none⟩=some (.int .i64 y)∧w'.cell? ⟨b,off+H,none⟩=some (.int .i64 x))) (by kernel_rfl) ⟨u0,v0⟩ (fun hHeld=>?_);clear u0 v0;refine tkS [(0,158),(1,159),(2,160),(3,161),(4,162),(5,163),(6,164),(7,165),(8,166),(9,167),(10,168)] ?_;(iterate 11 (refine tkL ?_ ?_ ?_;rotate_left;(· intro w hSw;(try dsimp only at hSw);go_simp;(try with_reducible rfl));(try simp only[Act.put,tkA,tkB,tkC])));refine tkE ?_;refine wpAnyH_ready (rs:=[11]) (by kernel_rfl) (by simp) ?_;refine AllReadyH.cons (i:=11) rfl (fun K hK=>?_) AllReadyH.nil;go_simp;go_at_call 159;refine(cmp_any C y x _ v (hrwH.out.cr.below (Below.refl _ _).drew) (hrwH.out.in_ hgyH.out) (hrwH.out.in_ hgxH.out) hvH.out).mono ?_;rintro e' w2 ⟨rfl,hb2⟩;have hb2a:Below wr.heap.size wr w2:=by first | exact hb2 | exact(Below.refl _ _).drew.trans hb2
    replace hHeld:=keep2i hb2 hHeld;have hrw3:=hrwH.out.below hb2a;have hs3:=hsH.out.trans (Srt.of_below hb2a);clear hb2 hb2a;obtain⟨hrw3H,hs3H⟩:=hq2 hrw3 (Lib.hid hs3);clear hrw3 hs3;refine hK.out _ _ hHeld (fun hHeld=>?_);clear hK K
    (try simp only[Act.put,tkA,tkB,tkC])
    clear hHeld;refine tkS [(12,170),(13,171)] ?_;(iterate 2 (refine tkL ?_ ?_ ?_;rotate_left;(· intro w hSw;(try dsimp only at hSw);go_simp;(try with_reducible rfl));(try simp only[Act.put,tkA,tkB,tkC])));refine tkE ?_;refine wpAnyH_done (by kernel_rfl) ?_ _
    by_cases hc:v<0
    ·have R1:B3Rel C (P++L++R++S) L R a mid s0 r0 b off n w (.int .i64 (st:Int)) (.int .i64 (H:Int)) w2:=by
      refine⟨st,H,hst0,hHI,by omega,rfl,rfl,hgoodH.out,fun _ x' y' hx' hy'=>?_,hrw3H.out,hs3H.out⟩;rw[hxH.out]at hx';rw[hyH.out]at hy';injection hx' with hx';injection hy' with hy';subst hx';subst hy';have:=hvlH.out.1 hc;unfold fI;omega
     rw[show (!decide (v<0))=false by simp[hc]];have R1H:=Lib.hid R1;clear R1;go_wp2;refine⟨?rel,?measure⟩
     case measure=>(simp[intOf];omega)
     case rel=>first | exact R1H.out | exact⟨rfl,R1H.out⟩
    ·have R1:B3Rel C (P++L++R++S) L R a mid s0 r0 b off n w (.int .i64 ((H:Int)+1)) (.int .i64 (r:Int)) w2:=by
      refine⟨H+1,r,by omega,by omega,hrr0,by go_num,rfl,fun _ x' y' hx' hy'=>?_,hbadH.out,hrw3H.out,hs3H.out⟩;rw[show H+1-1-a=H-a by omega,hxH.out]at hx';rw[show mid-(H+1)=mid-1-H by omega,hyH.out]at hy';injection hx' with hx';injection hy' with hy';subst hx';subst hy';have:¬ (vC C x)<(vC C y):=fun h=>hc (hvlH.out.2 h);unfold fI;omega
     rw[show (!decide (v<0))=true by simp;omega];have R1H:=Lib.hid R1;clear R1;go_wp2;refine⟨?rel,?measure⟩
     case measure=>(simp[intOf];omega)
     case rel=>first | exact R1H.out | exact⟨rfl,R1H.out⟩
   ·obtain rfl:st=r:=by omega
    have hm:=hmH.out;have he:=heH.out;have hP:=hPH.out;obtain⟨En,hEn⟩:∃ En,mid+m-st=En:=⟨_,rfl⟩;have hEni:(mid:Int)+(m:Int)-(st:Int)=(En:Int):=by omega
    have hsym:=fun M1 M2=>sorted_parts C (L:=L) (R:=R) (i:=st-a) (j:=mid-st) (M1:=M1) (M2:=M2) hsLH.out hsRH.out (by omega) (by omega)
     (fun h0 x y hx hy=>by
      rcases g5 with e0 | e0
      ·exact hgood (by omega) x y (by rw[show st-1-a=st-a-1 by omega];exact hx) hy
      ·by_cases hss:s0<st
       ·exact hgood hss x y (by rw[show st-1-a=st-a-1 by omega];exact hx) hy
       ·exfalso;have:=(List.getElem?_eq_some_iff.1 hy).1;omega)
     (fun h0 x y hx hy=>by
      by_cases hss:st<r0
      ·exact hbad hss x y hx (by rw[show mid-1-st=mid-st-1 by omega];exact hy)
      ·exfalso;have:=(List.getElem?_eq_some_iff.1 hx).1
       rcases g6 with e0 | e0 <;> omega)
    obtain⟨A,hA⟩:∃ A,L.take (st-a)=A:=⟨_,rfl⟩;obtain⟨X,hX⟩:∃ X,L.drop (st-a)=X:=⟨_,rfl⟩;obtain⟨Y,hY⟩:∃ Y,R.take (mid-st)=Y:=⟨_,rfl⟩;obtain⟨B,hB⟩:∃ B,R.drop (mid-st)=B:=⟨_,rfl⟩;have hAX:L=A++X:=by rw[← hA,← hX,List.take_append_drop]
    have hYB:R=Y++B:=by rw[← hY,← hB,List.take_append_drop]
    have lA:A.length=st-a:=by rw[← hA,List.length_take];omega
    have lX:X.length=m-st:=by rw[← hX,List.length_drop];omega
    have lY:Y.length=mid-st:=by rw[← hY,List.length_take];omega
    have lB:B.length=e-En:=by rw[← hB,List.length_drop];omega
    have hsA:SortedBy (fI C) A:=by have:=hsLH.out;rw[hAX]at this;exact sorted_left this
    have hsX:SortedBy (fI C) X:=by have:=hsLH.out;rw[hAX]at this;exact sorted_right this
    have hsY:SortedBy (fI C) Y:=by have:=hsRH.out;rw[hYB]at this;exact sorted_left this
    have hsB:SortedBy (fI C) B:=by have:=hsRH.out;rw[hYB]at this;exact sorted_right this
    rw[hA,hX,hY,hB]at hsym;have hrwA:RowI C wr b off n (P++A++X++Y++(B++S)):=by rw[hAX,hYB]at hrw;simpa using hrw
    have hEe:En≤e:=by omega
    have hEm:m≤En:=by omega
    have hEl:En+st=mid+m:=by omega
    have l1:=hl1H.out;have l2:=hl2H.out;clear hgood hbad hrw
    by_cases hX0:X = []
    ·have hsm:m≤st:=by have:=lX;rw[hX0,List.length_nil]at this;omega
     have t0:¬ (st:Int)<(m:Int):=by omega
     have t2:(a:Int)<(st:Int):=by omega
     have t5:¬ (mid:Int)<(En:Int):=by omega
     by_cases hY0:Y = []
     ·have hm3:mid≤st:=by have:=lY;rw[hY0,List.length_nil]at this;omega
      have t3:¬ (st:Int)<(mid:Int):=by omega
      have hfin:=hsym (A++Y) (X++B) (by rw[hY0,List.append_nil];exact hsA) (by rw[hX0];exact hsB) (SameCls.refl _) (SameCls.refl _);have hrw9:RowI C wr b off n (P++((A++Y)++(X++B))++S):=by rw[hX0,hY0]at hrwA ⊢;simpa using hrwA
      obtain⟨hPH,lAH,lXH,lYH,lBH,hsAH,hsXH,hsYH,hsBH,hrwAH,hAXH,hYBH,hAH,hXH,hYH,hBH,hmH,heH,g1H,g2H,g3H,g4H,g5H,g6H,hEnH,hElH,hX0H,hY0H,hsymH,hfinH,hrw9H,hsH⟩:=hq2 hP (hq2 lA (hq2 lX (hqb lY lB hsA hsX (hqc hsY hsB hrwA hAX hYB hA hX hY (hqc hB hm he g1 g2 g3 g4 g5 (hqc g6 hEn hEl hX0 hY0 hsym hfin hrw9 (Lib.hid hs)))))));clear hP lA lX lY lB hsA hsX hsY hsB hrwA hAX hYB hA hX hY hB hm he g1 g2 g3 g4 g5 g6 hEn hEl hX0 hY0 hsym hfin hrw9 hs;go_wp2
      all_goals (go_end0;exact⟨rfl,_,hfinH.out.1,hfinH.out.2,hrw9H.out,hsH.out⟩)
     ·have y1:1≤Y.length:=by cases Y with | nil=>exact absurd rfl hY0 | cons z t=>simp
      have t3:(st:Int)<(mid:Int):=by omega
      have hcall:=ihH.out P A Y (X++(B++S)) a st mid wr hP (by omega) (by omega) (by omega) (by omega) y1 hsA hsY (by rw[hX0]at hrwA ⊢;simpa using hrwA);obtain⟨hPH,lAH,lXH,lYH,lBH,hsAH,hsXH,hsYH,hsBH,hrwAH,hAXH,hYBH,hAH,hXH,hYH,hBH,hmH,heH,g1H,g2H,g3H,g4H,g5H,g6H,hEnH,hElH,hX0H,hY0H,hsymH,hsH,hcallH⟩:=hq2 hP (hq2 lA (hqb lX lY lB hsA (hqc hsX hsY hsB hrwA hAX hYB hA hX (hqc hY hB hm he g1 g2 g3 g4 (hqc g5 g6 hEn hEl hX0 hY0 hsym hs (Lib.hid hcall))))));clear hP lA lX lY lB hsA hsX hsY hsB hrwA hAX hYB hA hX hY hB hm he g1 g2 g3 g4 g5 g6 hEn hEl hX0 hY0 hsym hs hcall;go_wp2_with fail;refine hcallH.out.mono ?_;rintro e' w3 ⟨rfl,M1,q1,c1,hrw8,hs8⟩;have hfin:=hsymH.out M1 (X++B) q1 (by rw[hX0H.out];exact hsBH.out) c1 (SameCls.refl _);have hs9:=hsH.out.trans hs8;clear q1 c1 hs8;obtain⟨hfinH,hrw8H,hs9H⟩:=hq2 hfin (hq2 hrw8 (Lib.hid hs9));clear hfin hrw8 hs9;go_wp2
      all_goals (go_end0;exact⟨rfl,_,hfinH.out.1,hfinH.out.2,by simpa using hrw8H.out,hs9H.out⟩)
    ·have x1:1≤X.length:=by cases X with | nil=>exact absurd rfl hX0 | cons z t=>simp
     have t0:(st:Int)<(m:Int):=by omega
     have t5:(mid:Int)<(En:Int):=by omega
     by_cases hY0:Y = []
     ·have hm3:mid≤st:=by have:=lY;rw[hY0,List.length_nil]at this;omega
      have t1:¬ (m:Int)<(En:Int):=by omega
      have t2:(a:Int)<(st:Int):=by omega
      have t3:¬ (st:Int)<(mid:Int):=by omega
      have t6:(En:Int)<(e:Int):=by omega
      have hcall:=ihH.out (P++A) X B S mid En e wr (by rw[List.length_append];omega) (by omega) (by omega) (by omega) x1 (by omega) hsX hsB (by rw[hY0]at hrwA;simpa using hrwA);obtain⟨hPH,lAH,lXH,lYH,lBH,hsAH,hsXH,hsYH,hsBH,hrwAH,hAXH,hYBH,hAH,hXH,hYH,hBH,hmH,heH,g1H,g2H,g3H,g4H,g5H,g6H,hEnH,hElH,hX0H,hY0H,hsymH,hsH,hcallH⟩:=hq2 hP (hq2 lA (hqb lX lY lB hsA (hqc hsX hsY hsB hrwA hAX hYB hA hX (hqc hY hB hm he g1 g2 g3 g4 (hqc g5 g6 hEn hEl hX0 hY0 hsym hs (Lib.hid hcall))))));clear hP lA lX lY lB hsA hsX hsY hsB hrwA hAX hYB hA hX hY hB hm he g1 g2 g3 g4 g5 g6 hEn hEl hX0 hY0 hsym hs hcall;go_wp2_with fail;refine hcallH.out.mono ?_;rintro e' w3 ⟨rfl,M2,q2,c2,hrw8,hs8⟩;have hfin:=hsymH.out (A++Y) M2 (by rw[hY0H.out,List.append_nil];exact hsAH.out) q2 (SameCls.refl _) c2;have hrw9:RowI C w3 b off n (P++((A++Y)++M2)++S):=by rw[hY0H.out];simpa using hrw8
      have hs9:=hsH.out.trans hs8;clear q2 c2 hs8 hrw8;obtain⟨hfinH,hrw9H,hs9H⟩:=hq2 hfin (hq2 hrw9 (Lib.hid hs9));clear hfin hrw9 hs9;go_wp2
      all_goals (go_end0;exact⟨rfl,_,hfinH.out.1,hfinH.out.2,hrw9H.out,hs9H.out⟩)
     ·have y1:1≤Y.length:=by cases Y with | nil=>exact absurd rfl hY0 | cons z t=>simp
      have t1:(m:Int)<(En:Int):=by omega
      have t3:(st:Int)<(mid:Int):=by omega
      have hrot:=rotate_any C b off n cap (P++A) X Y (B++S) st m En (gI C) wr (by rw[List.length_append];omega) (by omega) (by omega) x1 y1 hn hrwA;unfold gI at hrot;obtain⟨hPH,lAH,lXH,lYH,lBH,hsAH,hsXH,hsYH,hsBH,hrwAH,hAXH,hYBH,hAH,hXH,hYH,hBH,hmH,heH,g1H,g2H,g3H,g4H,g5H,g6H,hEnH,hElH,hX0H,hY0H,hsymH,hsH,hrotH⟩:=hq2 hP (hq2 lA (hqb lX lY lB hsA (hqc hsX hsY hsB hrwA hAX hYB hA hX (hqc hY hB hm he g1 g2 g3 g4 (hqc g5 g6 hEn hEl hX0 hY0 hsym hs (Lib.hid hrot))))));clear hP lA lX lY lB hsA hsX hsY hsB hrwA hAX hYB hA hX hY hB hm he g1 g2 g3 g4 g5 g6 hEn hEl hX0 hY0 hsym hs hrot;go_wp2_with fail;refine hrotH.out.mono ?_;rintro e' w3 ⟨rfl,hrw8,hs8⟩;have hs9:=hsH.out.trans hs8;clear hs8;obtain⟨hrw8H,hs9H⟩:=hq2 hrw8 (Lib.hid hs9);clear hrw8 hs9
      by_cases hA0:a<st
      ·have t2:(a:Int)<(st:Int):=by omega
       have hcall:=ihH.out P A Y (X++(B++S)) a st mid w3 hPH.out (by have:=lAH.out;omega) (by have:=lYH.out;omega) (by omega) (by have:=lAH.out;omega) y1 hsAH.out hsYH.out (by simpa using hrw8H.out);have hcallH:=Lib.hid hcall;clear hcall;go_wp2_with fail;refine hcallH.out.mono ?_;rintro e' w4 ⟨rfl,M1,q1,c1,hrw7,hs7⟩;have hs10:=hs9H.out.trans hs7;have lM1:M1.length=mid-a:=by have:=c1.len;rw[List.length_append]at this;have:=lAH.out;have:=lYH.out;omega
       clear hs7;obtain⟨q1H,c1H,hrw7H,hs10H,lM1H⟩:=hqb q1 c1 hrw7 hs10 (Lib.hid lM1);clear q1 c1 hrw7 hs10 lM1
       by_cases hB0:En<e
       ·have t6:(En:Int)<(e:Int):=by omega
        have hcall2:=ihH.out (P++M1) X B S mid En e w4 (by rw[List.length_append];have:=lM1H.out;have:=hPH.out;omega) (by have:=lXH.out;have:=hEnH.out;omega) (by have:=lBH.out;omega) (by omega) x1 (by have:=lBH.out;omega) hsXH.out hsBH.out (by simpa using hrw7H.out);have hcall2H:=Lib.hid hcall2;clear hcall2;go_wp2_with fail;refine hcall2H.out.mono ?_;rintro e' w5 ⟨rfl,M2,q2,c2,hrw6,hs6⟩;have hfin:=hsymH.out M1 M2 q1H.out q2 c1H.out c2;have hs11:=(hs10H.out).trans hs6;clear q2 c2 hs6;obtain⟨hfinH,hrw6H,hs11H⟩:=hq2 hfin (hq2 hrw6 (Lib.hid hs11));clear hfin hrw6 hs11;go_wp2
        all_goals (go_end0;exact⟨rfl,_,hfinH.out.1,hfinH.out.2,by simpa using hrw6H.out,hs11H.out⟩)
       ·have t6:¬ (En:Int)<(e:Int):=by omega
        have hBn:B = []:=List.eq_nil_of_length_eq_zero (by have:=lBH.out;omega);have hfin:=hsymH.out M1 (X++B) q1H.out (by rw[hBn,List.append_nil];exact hsXH.out) c1H.out (SameCls.refl _);obtain⟨hfinH,hBnH⟩:=hq2 hfin (Lib.hid hBn);clear hfin hBn;go_wp2
        all_goals (go_end0;exact⟨rfl,_,hfinH.out.1,hfinH.out.2,by simpa using hrw7H.out,hs10H.out⟩)
      ·have t2:¬ (a:Int)<(st:Int):=by omega
       have hAn:A = []:=List.eq_nil_of_length_eq_zero (by have:=lAH.out;omega);have q1:SortedBy (fI C) (A++Y):=by rw[hAn];exact hsYH.out
       have lM1:(A++Y).length=mid-a:=by rw[List.length_append];have:=lAH.out;have:=lYH.out;omega
       have hrw7:RowI C w3 b off n (P++(A++Y)++(X++(B++S))):=by simpa using hrw8H.out
       obtain⟨q1H,hrw7H,lM1H,hAnH⟩:=hq2 q1 (hq2 hrw7 (hq2 lM1 (Lib.hid hAn)));clear q1 hrw7 lM1 hAn
       by_cases hB0:En<e
       ·have t6:(En:Int)<(e:Int):=by omega
        have hcall2:=ihH.out (P++(A++Y)) X B S mid En e w3 (by rw[List.length_append];have:=lM1H.out;have:=hPH.out;omega) (by have:=lXH.out;have:=hEnH.out;omega) (by have:=lBH.out;omega) (by omega) x1 (by have:=lBH.out;omega) hsXH.out hsBH.out (by simpa using hrw7H.out);have hcall2H:=Lib.hid hcall2;clear hcall2;go_wp2_with fail;refine hcall2H.out.mono ?_;rintro e' w5 ⟨rfl,M2,q2,c2,hrw6,hs6⟩;have hfin:=hsymH.out (A++Y) M2 q1H.out q2 (SameCls.refl _) c2;have hs11:=(hs9H.out).trans hs6;clear q2 c2 hs6;obtain⟨hfinH,hrw6H,hs11H⟩:=hq2 hfin (hq2 hrw6 (Lib.hid hs11));clear hfin hrw6 hs11;go_wp2
        all_goals (go_end0;exact⟨rfl,_,hfinH.out.1,hfinH.out.2,by simpa using hrw6H.out,hs11H.out⟩)
       ·have t6:¬ (En:Int)<(e:Int):=by omega
        have hBn:B = []:=List.eq_nil_of_length_eq_zero (by have:=lBH.out;omega);have hfin:=hsymH.out (A++Y) (X++B) q1H.out (by rw[hBn,List.append_nil];exact hsXH.out) (SameCls.refl _) (SameCls.refl _);obtain⟨hfinH,hBnH⟩:=hq2 hfin (Lib.hid hBn);clear hfin hBn;go_wp2
        all_goals (go_end0;exact⟨rfl,_,hfinH.out.1,hfinH.out.2,by simpa using hrw7H.out,hs9H.out⟩)
 ·have hmm2:¬ (mid:Int)<(m:Int):=by omega
  obtain⟨s0,hs0⟩:∃ s0,a=s0:=⟨_,rfl⟩;obtain⟨r0,hr0⟩:∃ r0,m=r0:=⟨_,rfl⟩;have hsr:s0≤r0:=by omega
  have hgeo:a≤s0∧r0≤mid∧r0≤m∧mid-s0≤e-m∧(s0=a∨mid-s0=e-m)∧(r0=m∨r0=mid):=⟨by omega,by omega,by omega,by omega,.inl hs0.symm,.inl hr0.symm⟩;obtain⟨hrowH,hlenH,hPH,heH,hsLH,hsRH,hmH,hgeoH,hsrH,ihH,hl1H,hl2H,hs0H,hr0H,hmidH⟩:=hq2 hrow (hq2 hlen (hqb hP he hsL hsR (hqc hm hgeo hsr ih hl1 hl2 hs0 hr0 (Lib.hid hmid))));clear hrow hlen hP he hsL hsR hm hgeo hsr ih hl1 hl2 hs0 hr0 hmid;go_enter Tryz.func223,Tryz.ntmps223;go_wp2_with fail
  go_loopw [20,21] (fun vs vr wr=>B3Rel C (P++L++R++S) L R a mid s0 r0 b off n w vs vr wr) (fun vs vr _=>(intOf vr).toNat-(intOf vs).toNat)
  case atStart=>exact⟨s0,r0,Nat.le_refl _,hsrH.out,Nat.le_refl _,(by rw[hs0H.out]),(by rw[hr0H.out]),fun h=>by omega,fun h=>by omega,hrowH.out,World.grownBy.refl _ _⟩
  case round =>
   obtain⟨st,r,hst0,hstr,hrr0,rfl,rfl,hgood,hbad,hrw,hs⟩:=hrel;obtain⟨g1,g2,g3,g4,g5,g6⟩:=hgeoH.out;have hrm:r≤m:=by omega
   have hrmid:r≤mid:=by omega
   have hast:a≤st:=by omega
   by_cases hlt:st<r
   ·obtain⟨H,hH⟩:∃ H,(st+r) / 2=H:=⟨_,rfl⟩;have hHi:((st:Int)+(r:Int)) / 2=(H:Int):=by omega
    have hHI:st≤H:=by omega
    have hHJ:H<r:=by omega
    obtain⟨Z,hZ⟩:∃ Z,mid+m-1-H=Z:=⟨_,rfl⟩;have hZi:(mid:Int)+(m:Int)-1-(H:Int)=(Z:Int):=by omega
    have hm:=hmH.out;have he:=heH.out;obtain⟨x,hx⟩:∃ x,L[H-a]? = some x:=⟨L[H-a]'(by omega),List.getElem?_eq_getElem _⟩;obtain⟨y,hy⟩:∃ y,R[mid-1-H]? = some y:=⟨R[mid-1-H]'(by omega),List.getElem?_eq_getElem _⟩;have hgx:=get_at (P:=P) (S:=R++S) (i:=a) hPH.out hx;rw[← List.append_assoc,show a+(H-a)=H by omega]at hgx;have hgy:=get_at (P:=P++L) (S:=S) (i:=m) (by rw[List.length_append];have:=hPH.out;omega) hy;rw[show m+(mid-1-H)=Z by omega]at hgy;have v0:=hrw.at_ hgx;have u0:=hrw.at_ hgy;obtain⟨v,hv⟩:∃ v,Lib.compareInt (vC C x) (vC C y)=v:=⟨_,rfl⟩;have hvl:v<0↔(vC C x)<(vC C y):=by rw[← hv];exact cmpI_lt
    have k0:(0:Int)≤(H:Int):=by omega
    have k1:(H:Int)<(n:Int):=by omega
    have k2:(0:Int)≤(Z:Int):=by omega
    have k3:(Z:Int)<(n:Int):=by omega
    have hwZ:IntKind.i64.wrap (Z:Int)=(Z:Int):=by rw[IntKind.wrap_i64];omega
    clear hm he;obtain⟨hgoodH,hbadH,hrwH,hsH,hxH,hyH,hgyH,hgxH,hvH,hvlH,hHH,hZH,g1H,g2H,g3H,g4H,g5H,g6H⟩:=hq2 hgood (hqc hbad hrw hs hx hy hgy hgx hv (hqc hvl hH hZ g1 g2 g3 g4 g5 (Lib.hid g6)));clear hgood hbad hrw hs hx hy hgy hgx hv hvl hH hZ g1 g2 g3 g4 g5 g6;go_wp2_with fail;refine wp_region_held_drew (S:=(fun w'=>w'.cell? ⟨b,off+Z,none⟩=some (.int .i64 y)∧w'.cell? ⟨b,off+H,none⟩=some (.int .i64 x))) (by kernel_rfl) ⟨u0,v0⟩ (fun hHeld=>?_);clear u0 v0;refine tkS [(0,158),(1,159),(2,160),(3,161),(4,162),(5,163),(6,164),(7,165),(8,166),(9,167),(10,168)] ?_;(iterate 11 (refine tkL ?_ ?_ ?_;rotate_left;(· intro w hSw;(try dsimp only at hSw);go_simp;(try with_reducible rfl));(try simp only[Act.put,tkA,tkB,tkC])));refine tkE ?_;refine wpAnyH_ready (rs:=[11]) (by kernel_rfl) (by simp) ?_;refine AllReadyH.cons (i:=11) rfl (fun K hK=>?_) AllReadyH.nil;go_simp;go_at_call 159;refine(cmp_any C y x _ v (hrwH.out.cr.below (Below.refl _ _).drew) (hrwH.out.in_ hgyH.out) (hrwH.out.in_ hgxH.out) hvH.out).mono ?_;rintro e' w2 ⟨rfl,hb2⟩;have hb2a:Below wr.heap.size wr w2:=by first | exact hb2 | exact(Below.refl _ _).drew.trans hb2
    replace hHeld:=keep2i hb2 hHeld;have hrw3:=hrwH.out.below hb2a;have hs3:=hsH.out.trans (Srt.of_below hb2a);clear hb2 hb2a;obtain⟨hrw3H,hs3H⟩:=hq2 hrw3 (Lib.hid hs3);clear hrw3 hs3;refine hK.out _ _ hHeld (fun hHeld=>?_);clear hK K
    (try simp only[Act.put,tkA,tkB,tkC])
    clear hHeld;refine tkS [(12,170),(13,171)] ?_;(iterate 2 (refine tkL ?_ ?_ ?_;rotate_left;(· intro w hSw;(try dsimp only at hSw);go_simp;(try with_reducible rfl));(try simp only[Act.put,tkA,tkB,tkC])));refine tkE ?_;refine wpAnyH_done (by kernel_rfl) ?_ _
    by_cases hc:v<0
    ·have R1:B3Rel C (P++L++R++S) L R a mid s0 r0 b off n w (.int .i64 (st:Int)) (.int .i64 (H:Int)) w2:=by
      refine⟨st,H,hst0,hHI,by omega,rfl,rfl,hgoodH.out,fun _ x' y' hx' hy'=>?_,hrw3H.out,hs3H.out⟩;rw[hxH.out]at hx';rw[hyH.out]at hy';injection hx' with hx';injection hy' with hy';subst hx';subst hy';have:=hvlH.out.1 hc;unfold fI;omega
     rw[show (!decide (v<0))=false by simp[hc]];have R1H:=Lib.hid R1;clear R1;go_wp2;refine⟨?rel,?measure⟩
     case measure=>(simp[intOf];omega)
     case rel=>first | exact R1H.out | exact⟨rfl,R1H.out⟩
    ·have R1:B3Rel C (P++L++R++S) L R a mid s0 r0 b off n w (.int .i64 ((H:Int)+1)) (.int .i64 (r:Int)) w2:=by
      refine⟨H+1,r,by omega,by omega,hrr0,by go_num,rfl,fun _ x' y' hx' hy'=>?_,hbadH.out,hrw3H.out,hs3H.out⟩;rw[show H+1-1-a=H-a by omega,hxH.out]at hx';rw[show mid-(H+1)=mid-1-H by omega,hyH.out]at hy';injection hx' with hx';injection hy' with hy';subst hx';subst hy';have:¬ (vC C x)<(vC C y):=fun h=>hc (hvlH.out.2 h);unfold fI;omega
     rw[show (!decide (v<0))=true by simp;omega];have R1H:=Lib.hid R1;clear R1;go_wp2;refine⟨?rel,?measure⟩
     case measure=>(simp[intOf];omega)
     case rel=>first | exact R1H.out | exact⟨rfl,R1H.out⟩
   ·obtain rfl:st=r:=by omega
    have hm:=hmH.out;have he:=heH.out;have hP:=hPH.out;obtain⟨En,hEn⟩:∃ En,mid+m-st=En:=⟨_,rfl⟩;have hEni:(mid:Int)+(m:Int)-(st:Int)=(En:Int):=by omega
    have hsym:=fun M1 M2=>sorted_parts C (L:=L) (R:=R) (i:=st-a) (j:=mid-st) (M1:=M1) (M2:=M2) hsLH.out hsRH.out (by omega) (by omega)
     (fun h0 x y hx hy=>by
      rcases g5 with e0 | e0
      ·exact hgood (by omega) x y (by rw[show st-1-a=st-a-1 by omega];exact hx) hy
      ·by_cases hss:s0<st
       ·exact hgood hss x y (by rw[show st-1-a=st-a-1 by omega];exact hx) hy
       ·exfalso;have:=(List.getElem?_eq_some_iff.1 hy).1;omega)
     (fun h0 x y hx hy=>by
      by_cases hss:st<r0
      ·exact hbad hss x y hx (by rw[show mid-1-st=mid-st-1 by omega];exact hy)
      ·exfalso;have:=(List.getElem?_eq_some_iff.1 hx).1
       rcases g6 with e0 | e0 <;> omega)
    obtain⟨A,hA⟩:∃ A,L.take (st-a)=A:=⟨_,rfl⟩;obtain⟨X,hX⟩:∃ X,L.drop (st-a)=X:=⟨_,rfl⟩;obtain⟨Y,hY⟩:∃ Y,R.take (mid-st)=Y:=⟨_,rfl⟩;obtain⟨B,hB⟩:∃ B,R.drop (mid-st)=B:=⟨_,rfl⟩;have hAX:L=A++X:=by rw[← hA,← hX,List.take_append_drop]
    have hYB:R=Y++B:=by rw[← hY,← hB,List.take_append_drop]
    have lA:A.length=st-a:=by rw[← hA,List.length_take];omega
    have lX:X.length=m-st:=by rw[← hX,List.length_drop];omega
    have lY:Y.length=mid-st:=by rw[← hY,List.length_take];omega
    have lB:B.length=e-En:=by rw[← hB,List.length_drop];omega
    have hsA:SortedBy (fI C) A:=by have:=hsLH.out;rw[hAX]at this;exact sorted_left this
    have hsX:SortedBy (fI C) X:=by have:=hsLH.out;rw[hAX]at this;exact sorted_right this
    have hsY:SortedBy (fI C) Y:=by have:=hsRH.out;rw[hYB]at this;exact sorted_left this
    have hsB:SortedBy (fI C) B:=by have:=hsRH.out;rw[hYB]at this;exact sorted_right this
    rw[hA,hX,hY,hB]at hsym;have hrwA:RowI C wr b off n (P++A++X++Y++(B++S)):=by rw[hAX,hYB]at hrw;simpa using hrw
    have hEe:En≤e:=by omega
    have hEm:m≤En:=by omega
    have hEl:En+st=mid+m:=by omega
    have l1:=hl1H.out;have l2:=hl2H.out;clear hgood hbad hrw
    by_cases hX0:X = []
    ·have hsm:m≤st:=by have:=lX;rw[hX0,List.length_nil]at this;omega
     have t0:¬ (st:Int)<(m:Int):=by omega
     have t2:(a:Int)<(st:Int):=by omega
     have t5:¬ (mid:Int)<(En:Int):=by omega
     by_cases hY0:Y = []
     ·have hm3:mid≤st:=by have:=lY;rw[hY0,List.length_nil]at this;omega
      have t3:¬ (st:Int)<(mid:Int):=by omega
      have hfin:=hsym (A++Y) (X++B) (by rw[hY0,List.append_nil];exact hsA) (by rw[hX0];exact hsB) (SameCls.refl _) (SameCls.refl _);have hrw9:RowI C wr b off n (P++((A++Y)++(X++B))++S):=by rw[hX0,hY0]at hrwA ⊢;simpa using hrwA
      obtain⟨hPH,lAH,lXH,lYH,lBH,hsAH,hsXH,hsYH,hsBH,hrwAH,hAXH,hYBH,hAH,hXH,hYH,hBH,hmH,heH,g1H,g2H,g3H,g4H,g5H,g6H,hEnH,hElH,hX0H,hY0H,hsymH,hfinH,hrw9H,hsH⟩:=hq2 hP (hq2 lA (hq2 lX (hqb lY lB hsA hsX (hqc hsY hsB hrwA hAX hYB hA hX hY (hqc hB hm he g1 g2 g3 g4 g5 (hqc g6 hEn hEl hX0 hY0 hsym hfin hrw9 (Lib.hid hs)))))));clear hP lA lX lY lB hsA hsX hsY hsB hrwA hAX hYB hA hX hY hB hm he g1 g2 g3 g4 g5 g6 hEn hEl hX0 hY0 hsym hfin hrw9 hs;go_wp2
      all_goals (go_end0;exact⟨rfl,_,hfinH.out.1,hfinH.out.2,hrw9H.out,hsH.out⟩)
     ·have y1:1≤Y.length:=by cases Y with | nil=>exact absurd rfl hY0 | cons z t=>simp
      have t3:(st:Int)<(mid:Int):=by omega
      have hcall:=ihH.out P A Y (X++(B++S)) a st mid wr hP (by omega) (by omega) (by omega) (by omega) y1 hsA hsY (by rw[hX0]at hrwA ⊢;simpa using hrwA);obtain⟨hPH,lAH,lXH,lYH,lBH,hsAH,hsXH,hsYH,hsBH,hrwAH,hAXH,hYBH,hAH,hXH,hYH,hBH,hmH,heH,g1H,g2H,g3H,g4H,g5H,g6H,hEnH,hElH,hX0H,hY0H,hsymH,hsH,hcallH⟩:=hq2 hP (hq2 lA (hqb lX lY lB hsA (hqc hsX hsY hsB hrwA hAX hYB hA hX (hqc hY hB hm he g1 g2 g3 g4 (hqc g5 g6 hEn hEl hX0 hY0 hsym hs (Lib.hid hcall))))));clear hP lA lX lY lB hsA hsX hsY hsB hrwA hAX hYB hA hX hY hB hm he g1 g2 g3 g4 g5 g6 hEn hEl hX0 hY0 hsym hs hcall;go_wp2_with fail;refine hcallH.out.mono ?_;rintro e' w3 ⟨rfl,M1,q1,c1,hrw8,hs8⟩;have hfin:=hsymH.out M1 (X++B) q1 (by rw[hX0H.out];exact hsBH.out) c1 (SameCls.refl _);have hs9:=hsH.out.trans hs8;clear q1 c1 hs8;obtain⟨hfinH,hrw8H,hs9H⟩:=hq2 hfin (hq2 hrw8 (Lib.hid hs9));clear hfin hrw8 hs9;go_wp2
      all_goals (go_end0;exact⟨rfl,_,hfinH.out.1,hfinH.out.2,by simpa using hrw8H.out,hs9H.out⟩)
    ·have x1:1≤X.length:=by cases X with | nil=>exact absurd rfl hX0 | cons z t=>simp
     have t0:(st:Int)<(m:Int):=by omega
     have t5:(mid:Int)<(En:Int):=by omega
     by_cases hY0:Y = []
     ·have hm3:mid≤st:=by have:=lY;rw[hY0,List.length_nil]at this;omega
      have t1:¬ (m:Int)<(En:Int):=by omega
      have t2:(a:Int)<(st:Int):=by omega
      have t3:¬ (st:Int)<(mid:Int):=by omega
      have t6:(En:Int)<(e:Int):=by omega
      have hcall:=ihH.out (P++A) X B S mid En e wr (by rw[List.length_append];omega) (by omega) (by omega) (by omega) x1 (by omega) hsX hsB (by rw[hY0]at hrwA;simpa using hrwA);obtain⟨hPH,lAH,lXH,lYH,lBH,hsAH,hsXH,hsYH,hsBH,hrwAH,hAXH,hYBH,hAH,hXH,hYH,hBH,hmH,heH,g1H,g2H,g3H,g4H,g5H,g6H,hEnH,hElH,hX0H,hY0H,hsymH,hsH,hcallH⟩:=hq2 hP (hq2 lA (hqb lX lY lB hsA (hqc hsX hsY hsB hrwA hAX hYB hA hX (hqc hY hB hm he g1 g2 g3 g4 (hqc g5 g6 hEn hEl hX0 hY0 hsym hs (Lib.hid hcall))))));clear hP lA lX lY lB hsA hsX hsY hsB hrwA hAX hYB hA hX hY hB hm he g1 g2 g3 g4 g5 g6 hEn hEl hX0 hY0 hsym hs hcall;go_wp2_with fail;refine hcallH.out.mono ?_;rintro e' w3 ⟨rfl,M2,q2,c2,hrw8,hs8⟩;have hfin:=hsymH.out (A++Y) M2 (by rw[hY0H.out,List.append_nil];exact hsAH.out) q2 (SameCls.refl _) c2;have hrw9:RowI C w3 b off n (P++((A++Y)++M2)++S):=by rw[hY0H.out];simpa using hrw8
      have hs9:=hsH.out.trans hs8;clear q2 c2 hs8 hrw8;obtain⟨hfinH,hrw9H,hs9H⟩:=hq2 hfin (hq2 hrw9 (Lib.hid hs9));clear hfin hrw9 hs9;go_wp2
      all_goals (go_end0;exact⟨rfl,_,hfinH.out.1,hfinH.out.2,hrw9H.out,hs9H.out⟩)
     ·have y1:1≤Y.length:=by cases Y with | nil=>exact absurd rfl hY0 | cons z t=>simp
      have t1:(m:Int)<(En:Int):=by omega
      have t3:(st:Int)<(mid:Int):=by omega
      have hrot:=rotate_any C b off n cap (P++A) X Y (B++S) st m En (gI C) wr (by rw[List.length_append];omega) (by omega) (by omega) x1 y1 hn hrwA;unfold gI at hrot;obtain⟨hPH,lAH,lXH,lYH,lBH,hsAH,hsXH,hsYH,hsBH,hrwAH,hAXH,hYBH,hAH,hXH,hYH,hBH,hmH,heH,g1H,g2H,g3H,g4H,g5H,g6H,hEnH,hElH,hX0H,hY0H,hsymH,hsH,hrotH⟩:=hq2 hP (hq2 lA (hqb lX lY lB hsA (hqc hsX hsY hsB hrwA hAX hYB hA hX (hqc hY hB hm he g1 g2 g3 g4 (hqc g5 g6 hEn hEl hX0 hY0 hsym hs (Lib.hid hrot))))));clear hP lA lX lY lB hsA hsX hsY hsB hrwA hAX hYB hA hX hY hB hm he g1 g2 g3 g4 g5 g6 hEn hEl hX0 hY0 hsym hs hrot;go_wp2_with fail;refine hrotH.out.mono ?_;rintro e' w3 ⟨rfl,hrw8,hs8⟩;have hs9:=hsH.out.trans hs8;clear hs8;obtain⟨hrw8H,hs9H⟩:=hq2 hrw8 (Lib.hid hs9);clear hrw8 hs9
      by_cases hA0:a<st
      ·have t2:(a:Int)<(st:Int):=by omega
       have hcall:=ihH.out P A Y (X++(B++S)) a st mid w3 hPH.out (by have:=lAH.out;omega) (by have:=lYH.out;omega) (by omega) (by have:=lAH.out;omega) y1 hsAH.out hsYH.out (by simpa using hrw8H.out);have hcallH:=Lib.hid hcall;clear hcall;go_wp2_with fail;refine hcallH.out.mono ?_;rintro e' w4 ⟨rfl,M1,q1,c1,hrw7,hs7⟩;have hs10:=hs9H.out.trans hs7;have lM1:M1.length=mid-a:=by have:=c1.len;rw[List.length_append]at this;have:=lAH.out;have:=lYH.out;omega
       clear hs7;obtain⟨q1H,c1H,hrw7H,hs10H,lM1H⟩:=hqb q1 c1 hrw7 hs10 (Lib.hid lM1);clear q1 c1 hrw7 hs10 lM1
       by_cases hB0:En<e
       ·have t6:(En:Int)<(e:Int):=by omega
        have hcall2:=ihH.out (P++M1) X B S mid En e w4 (by rw[List.length_append];have:=lM1H.out;have:=hPH.out;omega) (by have:=lXH.out;have:=hEnH.out;omega) (by have:=lBH.out;omega) (by omega) x1 (by have:=lBH.out;omega) hsXH.out hsBH.out (by simpa using hrw7H.out);have hcall2H:=Lib.hid hcall2;clear hcall2;go_wp2_with fail;refine hcall2H.out.mono ?_;rintro e' w5 ⟨rfl,M2,q2,c2,hrw6,hs6⟩;have hfin:=hsymH.out M1 M2 q1H.out q2 c1H.out c2;have hs11:=(hs10H.out).trans hs6;clear q2 c2 hs6;obtain⟨hfinH,hrw6H,hs11H⟩:=hq2 hfin (hq2 hrw6 (Lib.hid hs11));clear hfin hrw6 hs11;go_wp2
        all_goals (go_end0;exact⟨rfl,_,hfinH.out.1,hfinH.out.2,by simpa using hrw6H.out,hs11H.out⟩)
       ·have t6:¬ (En:Int)<(e:Int):=by omega
        have hBn:B = []:=List.eq_nil_of_length_eq_zero (by have:=lBH.out;omega);have hfin:=hsymH.out M1 (X++B) q1H.out (by rw[hBn,List.append_nil];exact hsXH.out) c1H.out (SameCls.refl _);obtain⟨hfinH,hBnH⟩:=hq2 hfin (Lib.hid hBn);clear hfin hBn;go_wp2
        all_goals (go_end0;exact⟨rfl,_,hfinH.out.1,hfinH.out.2,by simpa using hrw7H.out,hs10H.out⟩)
      ·have t2:¬ (a:Int)<(st:Int):=by omega
       have hAn:A = []:=List.eq_nil_of_length_eq_zero (by have:=lAH.out;omega);have q1:SortedBy (fI C) (A++Y):=by rw[hAn];exact hsYH.out
       have lM1:(A++Y).length=mid-a:=by rw[List.length_append];have:=lAH.out;have:=lYH.out;omega
       have hrw7:RowI C w3 b off n (P++(A++Y)++(X++(B++S))):=by simpa using hrw8H.out
       obtain⟨q1H,hrw7H,lM1H,hAnH⟩:=hq2 q1 (hq2 hrw7 (hq2 lM1 (Lib.hid hAn)));clear q1 hrw7 lM1 hAn
       by_cases hB0:En<e
       ·have t6:(En:Int)<(e:Int):=by omega
        have hcall2:=ihH.out (P++(A++Y)) X B S mid En e w3 (by rw[List.length_append];have:=lM1H.out;have:=hPH.out;omega) (by have:=lXH.out;have:=hEnH.out;omega) (by have:=lBH.out;omega) (by omega) x1 (by have:=lBH.out;omega) hsXH.out hsBH.out (by simpa using hrw7H.out);have hcall2H:=Lib.hid hcall2;clear hcall2;go_wp2_with fail;refine hcall2H.out.mono ?_;rintro e' w5 ⟨rfl,M2,q2,c2,hrw6,hs6⟩;have hfin:=hsymH.out (A++Y) M2 q1H.out q2 (SameCls.refl _) c2;have hs11:=(hs9H.out).trans hs6;clear q2 c2 hs6;obtain⟨hfinH,hrw6H,hs11H⟩:=hq2 hfin (hq2 hrw6 (Lib.hid hs11));clear hfin hrw6 hs11;go_wp2
        all_goals (go_end0;exact⟨rfl,_,hfinH.out.1,hfinH.out.2,by simpa using hrw6H.out,hs11H.out⟩)
       ·have t6:¬ (En:Int)<(e:Int):=by omega
        have hBn:B = []:=List.eq_nil_of_length_eq_zero (by have:=lBH.out;omega);have hfin:=hsymH.out (A++Y) (X++B) q1H.out (by rw[hBn,List.append_nil];exact hsXH.out) (SameCls.refl _) (SameCls.refl _);obtain⟨hfinH,hBnH⟩:=hq2 hfin (Lib.hid hBn);clear hfin hBn;go_wp2
        all_goals (go_end0;exact⟨rfl,_,hfinH.out.1,hfinH.out.2,by simpa using hrw7H.out,hs9H.out⟩)
end Go.Proofs.YtbnkoefljcekbaaGreatDoor.C9