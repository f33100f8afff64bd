/-
 Several texts of mine as one, without what is not wanted here: XSymV.
-/
import Derived.Test.YtpdjjjiknijpkaaGreatDoorTvCC10
set_option linter.unusedVariables false
set_option linter.unusedSimpArgs false
set_option maxRecDepth 100000
set_option maxHeartbeats 8000000
namespace Go.Proofs.YtpdjjjiknijpkaaGreatDoor.C10
open Go.ChangeShapes Go.WideShapes Go.Deep Go.RowKit
def MgAns (C:List ByteArray) (P M S:List NV) (b off n:Nat) (w0:World) (e:Ending) (w':World):Prop :=
 e = .returned (.tuple #[])∧∃ M',SortedBy (fI C) M'∧SameCls (fI C) M' M∧RowV C w' b off n (P++M'++S)∧Srt b w0 w'
def B1Rel (C:List ByteArray) (D R:List NV) (x:NV) (m b off n:Nat) (w0:World) (vi vj:Value) (wr:World):Prop :=
 ∃ p q I J:Nat,p≤q∧q≤R.length∧I=m+p∧J=m+q∧vi = .int .i64 (I:Int)∧vj = .int .i64 (J:Int)∧(∀ y,0<p→R[p-1]? = some y→(fI C) y<(fI C) x)∧(∀ y,R[q]? = some y→(fI C) x≤(fI C) y)∧RowV C wr b off n D∧Srt b w0 wr
def S1Rel (C:List ByteArray) (P R S:List NV) (x:NV) (a p b off n:Nat) (w0:World) (vk:Value) (wr:World):Prop :=
 ∃ t:Nat,t≤p∧vk = .int .i64 ((a:Int)+(t:Int))∧RowV C wr b off n (P++R.take t++x::R.drop t++S)∧Srt b w0 wr
theorem getLast_take {R:List NV} {p:Nat} (hp:p≤R.length):(R.take p).getLast? = if p=0 then none else R[p-1]?:=by
 rw[List.getLast?_eq_getElem?,List.length_take,Nat.min_eq_left hp]
 split
 ·subst_vars;simp
 ·rw[List.getElem?_take_of_lt (by omega)]
theorem head_drop {R:List NV} {p:Nat}:(R.drop p).head? = R[p]?:=by rw[List.head?_drop]
theorem put_left (C:List ByteArray) {R:List NV} {x:NV} {p:Nat} (hs:SortedBy (fI C) R) (hp:p≤R.length) (h1:∀ y,0<p→R[p-1]? = some y→(fI C) y<(fI C) x) (h2:∀ y,R[p]? = some y→(fI C) x≤(fI C) y) :
  SortedBy (fI C) (R.take p++x::R.drop p)∧SameCls (fI C) (R.take p++x::R.drop p) ([x]++R):=by
 have hR:SortedBy (fI C) (R.take p++R.drop p):=by rw[List.take_append_drop];exact hs
 have:=sym_step (f:=fI C) (A:=[]) (X:=[x]) (Y:=R.take p) (B:=R.drop p) (M1:=R.take p) (M2:=x::R.drop p) (List.pairwise_singleton _ _) hR (fun y hy=>by simp at hy)
  (fun u hu y hy=>by
   simp only[List.head?_cons,Option.some.injEq]at hu;subst hu;rw[getLast_take hp]at hy
   split at hy
   ·cases hy
   ·exact h1 y (by omega) hy)
  (sorted_left hR) (List.pairwise_cons.2 ⟨fun y hy=>by
   have hd:=sorted_right hR
   cases hdr:R.drop p with
   | nil=>rw[hdr]at hy;cases hy
   | cons z r =>
    have hz:R[p]? = some z:=by rw[← head_drop,hdr];rfl
    have hxz:=h2 z hz;rw[hdr]at hd hy
    rcases List.mem_cons.1 hy with rfl | hy
    ·exact hxz
    ·exact Int.le_trans hxz ((List.pairwise_cons.1 hd).1 y hy),sorted_right hR⟩) (SameCls.refl _) (SameCls.refl _)
 rw[List.nil_append,List.take_append_drop]at this;exact this
theorem put_right (C:List ByteArray) {L:List NV} {y:NV} {p:Nat} (hs:SortedBy (fI C) L) (hp:p≤L.length) (h1:∀ x,0<p→L[p-1]? = some x→(fI C) x≤(fI C) y) (h2:∀ x,L[p]? = some x→(fI C) y<(fI C) x) :
  SortedBy (fI C) (L.take p++y::L.drop p)∧SameCls (fI C) (L.take p++y::L.drop p) (L ++ [y]):=by
 have hL:SortedBy (fI C) (L.take p++L.drop p):=by rw[List.take_append_drop];exact hs
 have:=sym_step (f:=fI C) (A:=L.take p) (X:=L.drop p) (Y:=[y]) (B:=[]) (M1:=L.take p ++ [y]) (M2:=L.drop p) hL (List.pairwise_singleton _ _) (fun x hx u hu=>by simp at hu)
  (fun x hx u hu=>by
   simp only[List.getLast?_singleton,Option.some.injEq]at hu;subst hu;rw[head_drop]at hx;exact h2 x hx)
  (sorted_app (sorted_left hL) (List.pairwise_singleton _ _) (fun x hx u hu=>by
   rw[List.mem_singleton.1 hu];obtain⟨l,hl⟩:∃ l,(L.take p).getLast? = some l:=by
    cases h:(L.take p).getLast? with
    | none=>rw[List.getLast?_eq_none_iff]at h;rw[h]at hx;cases hx
    | some l=>exact⟨l,rfl⟩
   have hly:(fI C) l≤(fI C) y:=by
    have hl2:=hl;rw[getLast_take hp]at hl2
    split at hl2
    ·cases hl2
    ·exact h1 l (by omega) hl2
   obtain⟨i,hi⟩:=List.getLast?_eq_some_iff.1 hl;have hs2:=sorted_left hL;rw[hi]at hx hs2
   rcases List.mem_append.1 hx with hx | hx
   ·exact Int.le_trans (sorted_cross hs2 x hx l (by simp)) hly
   ·rw[List.mem_singleton.1 hx];exact hly)) (sorted_right hL) (SameCls.refl _) (by simpa using SameCls.refl (f:=fI C) (L.drop p))
 rw[List.take_append_drop,List.append_assoc (L.take p)]at this
 simpa using this
theorem get_at {P R S:List NV} {k i:Nat} {y:NV} (h:P.length=i) (hy:R[k]? = some y):(P++R++S)[i+k]? = some y:=by
 subst h;have hk:=(List.getElem?_eq_some_iff.1 hy).1;rw[List.append_assoc,List.getElem?_append_right (by omega),Nat.add_sub_cancel_left,List.getElem?_append_left hk];exact hy
theorem merge1 (C:List ByteArray) (b off n cap:Nat) (P R S:List NV) (x:NV) (a m e:Nat) (w:World) (hP:P.length=a) (hm:m=a+1) (he:e=m+R.length) (hn:n≤1000000000) (hsR:SortedBy (fI C) R) (hrow:RowV C w b off n (P ++ [x]++R++S)) :
  Calls Tryz.prog 147 #[.slice (some ⟨b,off,none⟩) n cap,.int .i64 a,.int .i64 m,.int .i64 e,gV] w (MgAns C P ([x]++R) S b off n w):=by
 have hlen:=hrow.sl.1;simp only[List.length_append,List.length_singleton]at hlen;have hen:e≤n:=by omega
 have hme:m≤e:=by omega
 have ham:a<m:=by omega
 have hma:(m:Int)-(a:Int)=1:=by omega
 unfold gV;have hstart:B1Rel C (P ++ [x]++R++S) R x m b off n w (.int .i64 (m:Int)) (.int .i64 (e:Int)) w:=⟨0,R.length,m,e,by omega,Nat.le_refl _,by omega,he,rfl,rfl,fun y h=>by omega,fun y hy=>by simp at hy,hrow,World.grownBy.refl _ _⟩;obtain⟨hrowH,hlenH,hPH,hstartH,heH,hsRH,hmH⟩:=hq2 hrow (hq2 hlen (hqb hP hstart he hsR (Lib.hid hm)));clear hrow hlen hP hstart he hsR hm;go_enter Tryz.func147,Tryz.ntmps147;go_wp2_with fail
 go_loopw [10,11] (fun vi vj wr=>B1Rel C (P ++ [x]++R++S) R x m b off n w vi vj wr) (fun vi vj _=>(intOf vj).toNat-(intOf vi).toNat)
 case atStart=>exact hstartH.out
 case round =>
  clear hstartH;obtain⟨p,q,I,J,hpq,hqR,hI,hJ,rfl,rfl,hp1,hq1,hrw,hs⟩:=hrel;have hJe:J≤e:=by have:=heH.out;omega
  have hmI:m≤I:=by omega
  by_cases hlt:p<q
  ·have hIJ:I<J:=by omega
   obtain⟨H,hH⟩:∃ H,(I+J) / 2=H:=⟨_,rfl⟩;have hHi:((I:Int)+(J:Int)) / 2=(H:Int):=by omega
   have hH2:H=m+(p+q) / 2:=by omega
   have hHI:I≤H:=by omega
   have hHJ:H<J:=by omega
   obtain⟨y,hy⟩:∃ y,R[(p+q) / 2]? = some y:=⟨R[(p+q) / 2]'(by omega),List.getElem?_eq_getElem _⟩;have hgy:=get_at (P:=P ++ [x]) (S:=S) (i:=m) (by rw[List.length_append];have:=hPH.out;have:=hmH.out;simp;omega) hy;rw[← hH2]at hgy;have hgx:(P ++ [x]++R++S)[a]? = some x:=by rw[List.append_assoc,List.append_assoc];exact get_mid (S:=[]) hPH.out
   obtain⟨v0,v1,v2⟩:=hrw.at_ hgx;obtain⟨u0,u1,u2⟩:=hrw.at_ hgy;obtain⟨v,hv⟩:∃ v,Lib.compareInt (vC C x) (vC C y)=v:=⟨_,rfl⟩;have hvl:v<0↔(vC C x)<(vC C y):=by rw[← hv];exact cmpI_lt
   have k0:(0:Int)≤(H:Int):=by omega
   have k1:(H:Int)<(n:Int):=by omega
   have k2:(0:Int)≤(a:Int):=by omega
   have k3:(a:Int)<(n:Int):=by omega
   obtain⟨hp1H,hq1H,hrwH,hsH,hyH,hgyH,hgxH,hvH,hvlH,hHH,hH2H,hIH,hJH⟩:=hqb hp1 hq1 hrw hs (hqc hy hgy hgx hv hvl hH hH2 hI (Lib.hid hJ));clear hp1 hq1 hrw hs hy hgy hgx hv hvl hH hH2 hI hJ;go_wp2_with fail;refine wp_region_held_drew (S:=(fun w'=>w'.cell? ⟨b,off+H*3,none⟩=some (.string y.name)∧w'.cell? ⟨b,off+H*3+1,none⟩=some (.pointer y.ptr)∧w'.cell? ⟨b,off+H*3+2,none⟩=some (.slice y.A y.n y.cap)∧w'.cell? ⟨b,off+a*3,none⟩=some (.string x.name)∧w'.cell? ⟨b,off+a*3+1,none⟩=some (.pointer x.ptr)∧w'.cell? ⟨b,off+a*3+2,none⟩=some (.slice x.A x.n x.cap))) (by kernel_rfl) ⟨u0,u1,u2,v0,v1,v2⟩ (fun hHeld=>?_);clear u0 u1 u2 v0 v1 v2;refine tkS [(0,40),(1,41),(2,42),(3,43),(4,44),(5,45),(6,46),(7,47),(8,48)] ?_;(iterate 9 (refine tkL ?_ ?_ ?_;rotate_left;(· intro w hSw;(try dsimp only at hSw);go_simp;(try with_reducible rfl));(try simp only[Act.put,tkA,tkB,tkC])));refine tkE ?_;refine wpAnyH_ready (rs:=[9]) (by kernel_rfl) (by simp) ?_;refine AllReadyH.cons (i:=9) rfl (fun K hK=>?_) AllReadyH.nil;go_simp;go_at_call 71;refine(cmp_any C y x _ v (hrwH.out.in_ hgyH.out) (hrwH.out.in_ hgxH.out) hvH.out).mono ?_;rintro e' w2 ⟨rfl,hb2⟩;have hb2a:Below wr.heap.size wr w2:=by first | exact hb2 | exact(Below.refl _ _).drew.trans hb2
   replace hHeld:=keep6 hb2 hHeld;have hrw3:=hrwH.out.below hb2a;have hs3:=hsH.out.trans (Srt.of_below hb2a);clear hb2 hb2a;obtain⟨hrw3H,hs3H⟩:=hq2 hrw3 (Lib.hid hs3);clear hrw3 hs3;refine hK.out _ _ hHeld (fun hHeld=>?_);clear hK K
   (try simp only[Act.put,tkA,tkB,tkC])
   clear hHeld;refine tkS [(10,50)] ?_;(iterate 1 (refine tkL ?_ ?_ ?_;rotate_left;(· intro w hSw;(try dsimp only at hSw);go_simp;(try with_reducible rfl));(try simp only[Act.put,tkA,tkB,tkC])));refine tkE ?_;refine wpAnyH_done (by kernel_rfl) ?_ _
   by_cases hc:v<0
   ·have R1:B1Rel C (P ++ [x]++R++S) R x m b off n w (.int .i64 ((H:Int)+1)) (.int .i64 (J:Int)) w2:=by
     refine⟨(p+q) / 2+1,q,H+1,J,by omega,hqR,by have:=hH2H.out;omega,hJH.out,by go_num,rfl,fun z _ hz=>?_,hq1H.out,hrw3H.out,hs3H.out⟩;rw[Nat.add_sub_cancel,hyH.out]at hz;injection hz with hz;subst hz;have:=hvlH.out.1 hc;unfold fI;omega
    have R1H:=Lib.hid R1;clear R1;go_wp2;refine⟨?rel,?measure⟩
    case measure=>(simp[intOf];omega)
    case rel=>first | exact R1H.out | exact⟨rfl,R1H.out⟩
   ·have R1:B1Rel C (P ++ [x]++R++S) R x m b off n w (.int .i64 (I:Int)) (.int .i64 (H:Int)) w2:=by
     refine⟨p,(p+q) / 2,I,H,by omega,by omega,hIH.out,hH2H.out,rfl,rfl,hp1H.out,fun z hz=>?_,hrw3H.out,hs3H.out⟩;rw[hyH.out]at hz;injection hz with hz;subst hz;have:¬ (vC C x)<(vC C y):=fun h=>hc (hvlH.out.2 h);unfold fI;omega
    have R1H:=Lib.hid R1;clear R1;go_wp2;refine⟨?rel,?measure⟩
    case measure=>(simp[intOf];omega)
    case rel=>first | exact R1H.out | exact⟨rfl,R1H.out⟩
  ·obtain rfl:p=q:=by omega
   obtain rfl:I=J:=by omega
   have hpl:=put_left C hsRH.out hqR hp1 hq1;have hst:S1Rel C P R S x a p b off n w (.int .i64 (a:Int)) wr:=⟨0,Nat.zero_le _,by go_num,by simpa using hrw,hs⟩;have hIa:(I:Int)-1=(a:Int)+(p:Int):=by have:=hmH.out;omega
   clear hrw hs hp1 hq1;obtain⟨hplH,hstH,hIH⟩:=hq2 hpl (hq2 hst (Lib.hid hI));clear hpl hst hI;go_wp2_with fail
   go_loopw [13] (fun vk wr=>S1Rel C P R S x a p b off n w vk wr) (fun vk _=>(I-1)-(intOf vk).toNat)
   case atStart=>exact hstH.out
   case round =>
    clear hstH;obtain⟨t,htp,rfl,hrw,hs⟩:=hrel
    by_cases hlt2:t<p
    ·obtain⟨y,hy⟩:∃ y,R[t]? = some y:=⟨R[t]'(by omega),List.getElem?_eq_getElem _⟩;obtain⟨K,hK⟩:∃ K,a+t=K:=⟨_,rfl⟩;have hKi:(a:Int)+(t:Int)=(K:Int):=by omega
     have hd:P++R.take t++x::R.drop t++S=(P++R.take t)++x :: []++y::(R.drop (t+1)++S):=by rw[drop_cons hy];simp
     rw[hd]at hrw;rw[hKi];have hgx:((P++R.take t)++x :: []++y::(R.drop (t+1)++S))[K]? = some x:=by rw[List.append_assoc];exact get_mid (S:=[]) (by rw[List.length_append,List.length_take];have:=hPH.out;omega)
     have hgy:((P++R.take t)++x :: []++y::(R.drop (t+1)++S))[K+1]? = some y:=get_mid (S:=[]) (by simp only[List.length_append,List.length_cons,List.length_nil,List.length_take];have:=hPH.out;omega);have hKn:K+1<n:=by have:=heH.out;have:=hmH.out;omega
     have R1:S1Rel C P R S x a p b off n w (.int .i64 ((K:Int)+1)) (exW wr b off K (K+1) x y).drew:=by
      have hsw:=(hrw.swap (i:=K) (j:=K+1) (by rw[List.length_append,List.length_take];have:=hPH.out;omega) (by simp)).drew;refine⟨t+1,by omega,by go_num,?_,(hs.trans (exW_srt _ _ _ _ _ _ _)).trans Srt.drew⟩;rw[List.take_add_one,hy]
      simpa using hsw
     obtain⟨x0,x1,x2⟩:=hrw.at_ hgx;obtain⟨y0,y1,y2⟩:=hrw.at_ hgy;have fz:=hrw.fz;have f0:=fz (K*3);have f1:=fz (K*3+1);have f2:=fz (K*3+2);have f3:=fz ((K+1)*3);have f4:=fz ((K+1)*3+1);have f5:=fz ((K+1)*3+2);rw[← Nat.add_assoc]at f1 f2 f4 f5;have k0:(0:Int)≤(K:Int):=by omega
     have k1:(K:Int)+1<(n:Int):=by omega
     have k2:(K:Int)<(a:Int)+(p:Int):=by omega
     have hKI:K<I-1:=by omega
     unfold exW at R1;clear fz;obtain⟨hrwH,hsH,hyH,hdH,hgxH,hgyH,hKH,hKiH,R1H⟩:=hqc hrw hs hy hd hgx hgy hK hKi (Lib.hid R1);clear hrw hs hy hd hgx hgy hK hKi R1;go_wp2_with fail
     go_region
     go_wp2;refine⟨?rel,?measure⟩
     case measure=>exact(by simp[intOf];omega)
     case rel=>first | exact R1H.out | exact⟨rfl,R1H.out⟩
    ·obtain rfl:t=p:=by omega
     obtain⟨q1,q2⟩:=hplH.out;obtain⟨hrwH,hsH,q1H,q2H⟩:=hq2 hrw (hq2 hs (hq2 q1 (Lib.hid q2)));clear hrw hs q1 q2;go_wp2
     go_end0
     exact⟨rfl,_,q1H.out,q2H.out,by simpa using hrwH.out,hsH.out⟩
def B2Rel (C:List ByteArray) (D L:List NV) (y:NV) (a b off n:Nat) (w0:World) (vi vj:Value) (wr:World):Prop :=
 ∃ p q I J:Nat,p≤q∧q≤L.length∧I=a+p∧J=a+q∧vi = .int .i64 (I:Int)∧vj = .int .i64 (J:Int)∧(∀ x,0<p→L[p-1]? = some x→(fI C) x≤(fI C) y)∧(∀ x,L[q]? = some x→(fI C) y<(fI C) x)∧RowV C wr b off n D∧Srt b w0 wr
def S2Rel (C:List ByteArray) (P L S:List NV) (y:NV) (a p b off n:Nat) (w0:World) (vk:Value) (wr:World):Prop :=
 ∃ t:Nat,p≤t∧t≤L.length∧vk = .int .i64 ((a:Int)+(t:Int))∧RowV C wr b off n (P++L.take t++y::L.drop t++S)∧Srt b w0 wr
theorem merge2 (C:List ByteArray) (b off n cap:Nat) (P L S:List NV) (y:NV) (a m e:Nat) (w:World) (hP:P.length=a) (hm:m=a+L.length) (hL2:2≤L.length) (he:e=m+1) (hn:n≤1000000000) (hsL:SortedBy (fI C) L) (hrow:RowV C w b off n (P++L ++ [y]++S)) :
  Calls Tryz.prog 147 #[.slice (some ⟨b,off,none⟩) n cap,.int .i64 a,.int .i64 m,.int .i64 e,gV] w (MgAns C P (L ++ [y]) S b off n w):=by
 have hlen:=hrow.sl.1;simp only[List.length_append,List.length_singleton]at hlen;have hen:e≤n:=by omega
 have hme:m<e:=by omega
 have ham:a+1<m:=by omega
 have hma:¬ (m:Int)-(a:Int)=1:=by omega
 have hma2:((m:Int)-(a:Int)==1)=false:=by simpa using hma
 have hem:(e:Int)-(m:Int)=1:=by omega
 unfold gV;have hstart:B2Rel C (P++L ++ [y]++S) L y a b off n w (.int .i64 (a:Int)) (.int .i64 (m:Int)) w:=⟨0,L.length,a,m,by omega,Nat.le_refl _,by omega,hm,rfl,rfl,fun y h=>by omega,fun x hx=>by simp at hx,hrow,World.grownBy.refl _ _⟩;obtain⟨hrowH,hlenH,hPH,hstartH,heH,hsLH,hmH⟩:=hq2 hrow (hq2 hlen (hqb hP hstart he hsL (Lib.hid hm)));clear hrow hlen hP hstart he hsL hm;go_enter Tryz.func147,Tryz.ntmps147;go_wp2_with fail
 go_loopw [14,15] (fun vi vj wr=>B2Rel C (P++L ++ [y]++S) L y a b off n w vi vj wr) (fun vi vj _=>(intOf vj).toNat-(intOf vi).toNat)
 case atStart=>exact hstartH.out
 case round =>
  clear hstartH;obtain⟨p,q,I,J,hpq,hqL,hI,hJ,rfl,rfl,hp1,hq1,hrw,hs⟩:=hrel;have hJm:J≤m:=by have:=hmH.out;omega
  have haI:a≤I:=by omega
  by_cases hlt:p<q
  ·have hIJ:I<J:=by omega
   obtain⟨H,hH⟩:∃ H,(I+J) / 2=H:=⟨_,rfl⟩;have hHi:((I:Int)+(J:Int)) / 2=(H:Int):=by omega
   have hH2:H=a+(p+q) / 2:=by omega
   have hHI:I≤H:=by omega
   have hHJ:H<J:=by omega
   obtain⟨x,hx⟩:∃ x,L[(p+q) / 2]? = some x:=⟨L[(p+q) / 2]'(by omega),List.getElem?_eq_getElem _⟩;have hgx:=get_at (P:=P) (S:=[y]++S) (i:=a) hPH.out hx;rw[← hH2,← List.append_assoc]at hgx;have hgy:(P++L ++ [y]++S)[m]? = some y:=by rw[List.append_assoc];exact get_mid (S:=[]) (by rw[List.length_append];have:=hPH.out;have:=hmH.out;omega)
   obtain⟨v0,v1,v2⟩:=hrw.at_ hgx;obtain⟨u0,u1,u2⟩:=hrw.at_ hgy;obtain⟨v,hv⟩:∃ v,Lib.compareInt (vC C x) (vC C y)=v:=⟨_,rfl⟩;have hvl:v<0↔(vC C x)<(vC C y):=by rw[← hv];exact cmpI_lt
   have k0:(0:Int)≤(H:Int):=by omega
   have k1:(H:Int)<(n:Int):=by omega
   have k2:(0:Int)≤(m:Int):=by omega
   have k3:(m:Int)<(n:Int):=by omega
   obtain⟨hp1H,hq1H,hrwH,hsH,hxH,hgyH,hgxH,hvH,hvlH,hHH,hH2H,hIH,hJH⟩:=hqb hp1 hq1 hrw hs (hqc hx hgy hgx hv hvl hH hH2 hI (Lib.hid hJ));clear hp1 hq1 hrw hs hx hgy hgx hv hvl hH hH2 hI hJ;go_wp2_with fail;refine wp_region_held_drew (S:=(fun w'=>w'.cell? ⟨b,off+m*3,none⟩=some (.string y.name)∧w'.cell? ⟨b,off+m*3+1,none⟩=some (.pointer y.ptr)∧w'.cell? ⟨b,off+m*3+2,none⟩=some (.slice y.A y.n y.cap)∧w'.cell? ⟨b,off+H*3,none⟩=some (.string x.name)∧w'.cell? ⟨b,off+H*3+1,none⟩=some (.pointer x.ptr)∧w'.cell? ⟨b,off+H*3+2,none⟩=some (.slice x.A x.n x.cap))) (by kernel_rfl) ⟨u0,u1,u2,v0,v1,v2⟩ (fun hHeld=>?_);clear u0 u1 u2 v0 v1 v2;refine tkS [(0,92),(1,93),(2,94),(3,95),(4,96),(5,97),(6,98),(7,99),(8,100)] ?_;(iterate 9 (refine tkL ?_ ?_ ?_;rotate_left;(· intro w hSw;(try dsimp only at hSw);go_simp;(try with_reducible rfl));(try simp only[Act.put,tkA,tkB,tkC])));refine tkE ?_;refine wpAnyH_ready (rs:=[9]) (by kernel_rfl) (by simp) ?_;refine AllReadyH.cons (i:=9) rfl (fun K hK=>?_) AllReadyH.nil;go_simp;go_at_call 71;refine(cmp_any C y x _ v (hrwH.out.in_ hgyH.out) (hrwH.out.in_ hgxH.out) hvH.out).mono ?_;rintro e' w2 ⟨rfl,hb2⟩;have hb2a:Below wr.heap.size wr w2:=by first | exact hb2 | exact(Below.refl _ _).drew.trans hb2
   replace hHeld:=keep6 hb2 hHeld;have hrw3:=hrwH.out.below hb2a;have hs3:=hsH.out.trans (Srt.of_below hb2a);clear hb2 hb2a;obtain⟨hrw3H,hs3H⟩:=hq2 hrw3 (Lib.hid hs3);clear hrw3 hs3;refine hK.out _ _ hHeld (fun hHeld=>?_);clear hK K
   (try simp only[Act.put,tkA,tkB,tkC])
   clear hHeld;refine tkS [(10,102),(11,103)] ?_;(iterate 2 (refine tkL ?_ ?_ ?_;rotate_left;(· intro w hSw;(try dsimp only at hSw);go_simp;(try with_reducible rfl));(try simp only[Act.put,tkA,tkB,tkC])));refine tkE ?_;refine wpAnyH_done (by kernel_rfl) ?_ _
   by_cases hc:v<0
   ·have R1:B2Rel C (P++L ++ [y]++S) L y a b off n w (.int .i64 (I:Int)) (.int .i64 (H:Int)) w2:=by
     refine⟨p,(p+q) / 2,I,H,by omega,by omega,hIH.out,hH2H.out,rfl,rfl,hp1H.out,fun z hz=>?_,hrw3H.out,hs3H.out⟩;rw[hxH.out]at hz;injection hz with hz;subst hz;have:=hvlH.out.1 hc;unfold fI;omega
    rw[show (!decide (v<0))=false by simp[hc]];have R1H:=Lib.hid R1;clear R1;go_wp2;refine⟨?rel,?measure⟩
    case measure=>(simp[intOf];omega)
    case rel=>first | exact R1H.out | exact⟨rfl,R1H.out⟩
   ·have R1:B2Rel C (P++L ++ [y]++S) L y a b off n w (.int .i64 ((H:Int)+1)) (.int .i64 (J:Int)) w2:=by
     refine⟨(p+q) / 2+1,q,H+1,J,by omega,hqL,by have:=hH2H.out;omega,hJH.out,by go_num,rfl,fun z _ hz=>?_,hq1H.out,hrw3H.out,hs3H.out⟩;rw[Nat.add_sub_cancel,hxH.out]at hz;injection hz with hz;subst hz;have:¬ (vC C x)<(vC C y):=fun h=>hc (hvlH.out.2 h);unfold fI;omega
    rw[show (!decide (v<0))=true by simp;omega];have R1H:=Lib.hid R1;clear R1;go_wp2;refine⟨?rel,?measure⟩
    case measure=>(simp[intOf];omega)
    case rel=>first | exact R1H.out | exact⟨rfl,R1H.out⟩
  ·obtain rfl:p=q:=by omega
   obtain rfl:I=J:=by omega
   have hpl:=put_right C hsLH.out hqL hp1 hq1;have hst:S2Rel C P L S y a p b off n w (.int .i64 (m:Int)) wr:=⟨L.length,hqL,Nat.le_refl _,by have:=hmH.out;congr 1;omega,by simpa using hrw,hs⟩;have hIa:(I:Int)=(a:Int)+(p:Int):=by omega
   clear hrw hs hp1 hq1;obtain⟨hplH,hstH,hIH,hIaH⟩:=hq2 hpl (hq2 hst (hq2 hI (Lib.hid hIa)));clear hpl hst hI hIa;go_wp2_with fail
   go_loopw [17] (fun vk wr=>S2Rel C P L S y a p b off n w vk wr) (fun vk _=>(intOf vk).toNat)
   case atStart=>exact hstH.out
   case round =>
    clear hstH;obtain⟨t,hpt,htL,rfl,hrw,hs⟩:=hrel;have hIa:=hIaH.out
    by_cases hlt2:p<t
    ·obtain⟨t,rfl⟩:∃ u,t=u+1:=⟨t-1,by omega⟩;obtain⟨x,hx⟩:∃ x,L[t]? = some x:=⟨L[t]'(by omega),List.getElem?_eq_getElem _⟩;obtain⟨K,hK⟩:∃ K,a+t=K:=⟨_,rfl⟩;have hKi:(a:Int)+((t+1:Nat):Int)=(K:Int)+1:=by omega
     have hd:P++L.take (t+1)++y::L.drop (t+1)++S=(P++L.take t)++x :: []++y::(L.drop (t+1)++S):=by rw[List.take_add_one,hx];simp
     rw[hd]at hrw;rw[hKi];have hgx:((P++L.take t)++x :: []++y::(L.drop (t+1)++S))[K]? = some x:=by rw[List.append_assoc];exact get_mid (S:=[]) (by rw[List.length_append,List.length_take];have:=hPH.out;omega)
     have hgy:((P++L.take t)++x :: []++y::(L.drop (t+1)++S))[K+1]? = some y:=get_mid (S:=[]) (by simp only[List.length_append,List.length_cons,List.length_nil,List.length_take];have:=hPH.out;omega);have hKn:K+1<n:=by have:=hmH.out;omega
     have R1:S2Rel C P L S y a p b off n w (.int .i64 (K:Int)) (exW wr b off (K+1) K y x).drew:=by
      have hsw:=(hrw.swap2 (i:=K) (j:=K+1) (by rw[List.length_append,List.length_take];have:=hPH.out;omega) (by simp)).drew;refine⟨t,by omega,by omega,by congr 1;omega,?_,(hs.trans (exW_srt _ _ _ _ _ _ _)).trans Srt.drew⟩;rw[drop_cons hx]
      simpa using hsw
     obtain⟨x0,x1,x2⟩:=hrw.at_ hgx;obtain⟨y0,y1,y2⟩:=hrw.at_ hgy;have fz:=hrw.fz;have f0:=fz (K*3);have f1:=fz (K*3+1);have f2:=fz (K*3+2);have f3:=fz ((K+1)*3);have f4:=fz ((K+1)*3+1);have f5:=fz ((K+1)*3+2);rw[← Nat.add_assoc]at f1 f2 f4 f5;have k0:(0:Int)≤(K:Int):=by omega
     have k1:(K:Int)+1<(n:Int):=by omega
     have k2:(I:Int)<(K:Int)+1:=by omega
     have hw2:IntKind.i64.wrap (K:Int)=(K:Int):=by rw[IntKind.wrap_i64];omega
     unfold exW at R1;clear fz hIa;obtain⟨hrwH,hsH,hxH,hdH,hgxH,hgyH,hKH,hKiH,R1H⟩:=hqc hrw hs hx hd hgx hgy hK hKi (Lib.hid R1);clear hrw hs hx hd hgx hgy hK hKi R1;go_wp2_with fail
     go_region
     go_wp2;refine⟨?rel,?measure⟩
     case measure=>exact(by simp[intOf] <;> omega)
     case rel=>first | exact R1H.out | exact⟨rfl,R1H.out⟩
    ·obtain rfl:t=p:=by omega
     obtain⟨q1,q2⟩:=hplH.out;have hng:¬ (I:Int)<(a:Int)+(t:Int):=by omega
     clear hIa;obtain⟨hrwH,hsH,q1H,q2H⟩:=hq2 hrw (hq2 hs (hq2 q1 (Lib.hid q2)));clear hrw hs q1 q2;go_wp2
     go_end0
     exact⟨rfl,_,q1H.out,q2H.out,by simpa using hrwH.out,hsH.out⟩
end Go.Proofs.YtpdjjjiknijpkaaGreatDoor.C10