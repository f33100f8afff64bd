/-
 Several texts of mine as one, without what is not wanted here: XSwpI, XRotI, XPlE, XQm.
-/
import Derived.Test.YtbnkoefljcekbaaGreatDoorLbGb
import Derived.Test.YtbnkoefljcekbaaGreatDoorLbGa
import Derived.Test.YtbnkoefljcekbaaGreatDoorLbGg
import Derived.Test.YtbnkoefljcekbaaGreatDoorLbGf
set_option linter.unusedVariables false
set_option linter.unusedSimpArgs false
set_option maxRecDepth 100000
set_option maxHeartbeats 8000000
namespace Go.Proofs.YtbnkoefljcekbaaGreatDoor
open Go.ChangeShapes Go.WideShapes Go.Deep Go.RowKit
structure CC where
 l:List Int
 pc:Nat
 cb:Nat
 cap:Nat
def vC (C:CC) (x:Int):Int:=C.l.getD x.toNat 0
def fI (C:CC) (x:Int):Int:=- vC C x
structure CrAt (C:CC) (w:World):Prop where
 hd:w.cell? ⟨C.pc,0,none⟩=some (.slice (some ⟨C.cb,0,none⟩) C.l.length C.cap)
 at_:∀ (j:Nat) (x:Int),C.l[j]? = some x→w.cell? ⟨C.cb,j,none⟩=some (.int .i64 x)
theorem CrAt.below {C:CC} {w w':World} (h:CrAt C w) (hb:Below w.heap.size w w'):CrAt C w' :=
 ⟨(hb.cell (cell?_lt h.hd)).trans h.hd,fun j x hj=>(hb.cell (cell?_lt (h.at_ j x hj))).trans (h.at_ j x hj)⟩
def InC (C:CC) (x:Int):Prop:=0≤x∧x<(C.l.length:Int)
structure RowI (C:CC) (w:World) (b off n:Nat) (d:List Int):Prop where
 sl:SlAt RInt w (some ⟨b,off,none⟩) n d
 fz:∀ j,w.frozen? ⟨b,off+j,none⟩=false
 lt:b<w.heap.size
 cr:CrAt C w
 bd:∀ x∈d,InC C x
 n1:b≠C.pc
 n2:b≠C.cb
section
variable {C:CC}
theorem RowI.below {w w':World} {b off n:Nat} {d:List Int} (h:RowI C w b off n d) (hb:Below w.heap.size w w'):RowI C w' b off n d :=
 ⟨h.sl.below hb,fun j=>(hb.frozen (p:=⟨b,off+j,none⟩) h.lt).trans (h.fz j),Nat.lt_of_lt_of_le h.lt hb.size,h.cr.below hb,h.bd,h.n1,h.n2⟩
theorem RowI.at_ {w:World} {b off n k:Nat} {d:List Int} {x:Int} (h:RowI C w b off n d) (hx:d[k]? = some x):w.cell? ⟨b,off+k,none⟩=some (.int .i64 x):=by
 have hk:=(List.getElem?_eq_some_iff.1 hx).1;obtain⟨b',off',hA,hc⟩:=h.sl.2.1 (by have:=h.sl.1;omega);obtain⟨rfl,rfl⟩:b=b'∧off=off':=by simpa using hA
 have:=hc k x hx 0 _ rfl
 simpa[RInt]using this
theorem RowI.in_ {w:World} {b off n k:Nat} {d:List Int} {x:Int} (h:RowI C w b off n d) (hx:d[k]? = some x):InC C x:=h.bd x (List.mem_of_getElem? hx)
theorem RowI.put {w:World} {b off n k:Nat} {d:List Int} {x:Int} (h:RowI C w b off n d) (hk:k<n) (hx:I64 x) (hi:InC C x):RowI C (w.setCell ⟨b,off+k,none⟩ (.int .i64 x)) b off n (d.set k x):=by
 have hl:=h.sl.1;obtain⟨y,hy⟩:∃ y,d[k]? = some y:=⟨d[k]'(by omega),List.getElem?_eq_getElem _⟩;have e0:=h.at_ hy;have hn1:=h.n1;have hn2:=h.n2;refine⟨⟨by rw[List.length_set];exact hl,fun hn=>⟨b,off,rfl,fun i z hz j v hv=>?_⟩,fun z hz=>?_⟩,fun j=>by rw[World.frozen?_setCell];exact h.fz j,by simpa using h.lt,
  ⟨(World.cell?_setCell_other _ _ _ _ (by simp <;> omega)).trans h.cr.hd,fun j x hj=>(World.cell?_setCell_other _ _ _ _ (by simp <;> omega)).trans (h.cr.at_ j x hj)⟩,fun z hz=>?_,h.n1,h.n2⟩
 ·match j,hv with
  | 0,hv =>
   simp only[RInt,List.getElem?_cons_zero,Option.some.injEq]at hv;subst hv;simp only[RInt,Nat.mul_one,Nat.add_zero];rw[List.getElem?_set]at hz
   by_cases hki:k=i
   ·subst hki;rw[if_pos rfl,if_pos (by omega)]at hz;injection hz with hz;subst hz;exact World.cell?_setCell_same' _ _ _ (by rw[e0];rfl)
   ·rw[if_neg hki]at hz;rw[World.cell?_setCell_other _ _ _ _ (by simp <;> omega)];exact h.at_ hz
  | j+1,hv=>simp[RInt]at hv
 ·rcases List.mem_or_eq_of_mem_set hz with hz | hz
  ·exact h.sl.2.2 z hz
  ·rw[hz];exact hx
 ·rcases List.mem_or_eq_of_mem_set hz with hz | hz
  ·exact h.bd z hz
  ·rw[hz];exact hi
def Srt (b:Nat) (w w':World):Prop:=w.grownBy w' (some b)
theorem Srt.of_below {b:Nat} {w w':World} (h:Below w.heap.size w w'):Srt b w w':=⟨h.os,h.tape,h.output,h.size,fun k hk _=>h.block k hk⟩
theorem Srt.trans {b:Nat} {w w' w'':World} (h:Srt b w w') (h2:Srt b w' w''):Srt b w w'' :=
 ⟨h2.os.trans h.os,h2.tape.trans h.tape,h2.output.trans h.output,Nat.le_trans h.size h2.size,fun k hk hne=>(h2.block k (Nat.lt_of_lt_of_le hk h.size) hne).trans (h.block k hk hne)⟩
theorem Srt.put {b o:Nat} {w:World} (u:Value):Srt b w (w.setCell ⟨b,o,none⟩ u):=grown_setc w ⟨b,o,none⟩ u
theorem Srt.drew {b:Nat} {w:World}:Srt b w w.drew:=⟨rfl,rfl,rfl,Nat.le_refl _,fun _ _ _=>rfl⟩
theorem set2_app (A M S:List Int) (x y:Int):((A++x::M++y::S).set A.length y).set (A.length+1+M.length) x=A++y::M++x::S:=by
 rw[List.append_assoc,List.set_append_right _ _ (Nat.le_refl _),Nat.sub_self,List.cons_append,List.set_cons_zero,List.set_append_right _ _ (by omega)];rw[show A.length+1+M.length-A.length=M.length+1 by omega,List.set_cons_succ,List.set_append_right _ _ (Nat.le_refl _),Nat.sub_self,List.set_cons_zero];simp
def exW (w:World) (b off i j:Nat) (x y:Int):World:=(w.setCell ⟨b,off+i,none⟩ (.int .i64 y)).setCell ⟨b,off+j,none⟩ (.int .i64 x)
theorem RowI.swap {w:World} {b off n i j:Nat} {A M S:List Int} {x y:Int} (h:RowI C w b off n (A++x::M++y::S)) (hi:A.length=i) (hj:j=i+1+M.length):RowI C (exW w b off i j x y) b off n (A++y::M++x::S):=by
 have hl:=h.sl.1;simp only[List.length_append,List.length_cons]at hl;have h1:=h.put (k:=i) (x:=y) (by omega) (h.sl.2.2 y (by simp)) (h.bd y (by simp));have h2:=h1.put (k:=j) (x:=x) (by omega) (h.sl.2.2 x (by simp)) (h.bd x (by simp));subst hi;subst hj;rw[set2_app]at h2;exact h2
theorem RowI.swap2 {w:World} {b off n i j:Nat} {A M S:List Int} {x y:Int} (h:RowI C w b off n (A++x::M++y::S)) (hi:A.length=i) (hj:j=i+1+M.length):RowI C (exW w b off j i y x) b off n (A++y::M++x::S):=by
 have hl:=h.sl.1;simp only[List.length_append,List.length_cons]at hl;have h1:=h.put (k:=j) (x:=x) (by omega) (h.sl.2.2 x (by simp)) (h.bd x (by simp));have h2:=h1.put (k:=i) (x:=y) (by omega) (h.sl.2.2 y (by simp)) (h.bd y (by simp));subst hi;subst hj;rw[List.set_comm _ _ (by omega),set2_app]at h2;exact h2
theorem exW_srt (w:World) (b off i j:Nat) (x y:Int):Srt b w (exW w b off i j x y):=(Srt.put _).trans (Srt.put _)
theorem RowI.drew {w:World} {b off n:Nat} {d:List Int} (h:RowI C w b off n d):RowI C w.drew b off n d:=h.below ((Below.refl _ _).drew)
theorem keep2i {W w':World} {a0 a2:Addr} {v0 v2:Value} (hb:Below W.heap.size W w') (h:W.cell? a0=some v0∧W.cell? a2=some v2):w'.cell? a0=some v0∧w'.cell? a2=some v2 :=
 ⟨(hb.cell (cell?_lt h.1)).trans h.1,(hb.cell (cell?_lt h.2)).trans h.2⟩
end
def SwRel (C:CC) (P L M R S:List Int) (b off n N:Nat) (w0:World) (i:Value) (wr:World):Prop :=
 ∃ k:Nat,k≤N∧i = .int .i64 k∧RowI C wr b off n (P++(R.take k++L.drop k)++M++(L.take k++R.drop k)++S)∧Srt b w0 wr
theorem swapRange_any (C:CC) (b off n cap:Nat) (P L M R S:List Int) (N a c:Nat) (g:Value) (w:World) (hP:P.length=a) (hL:L.length=N) (hR:R.length=N) (hc:c=a+N+M.length) (hn:n≤1000000000) (hrow:RowI C w b off n (P++L++M++R++S)) :
  Calls Tryz.prog 234 #[.slice (some ⟨b,off,none⟩) n cap,.int .i64 a,.int .i64 c,.int .i64 N,g] w fun e w'=>e = .returned (.tuple #[])∧RowI C w' b off n (P++R++M++L++S)∧Srt b w w':=by
 have hlen:=hrow.sl.1;simp only[List.length_append]at hlen;have hcn:c+N≤n:=by omega
 obtain⟨hrowH,hlenH,hPH,hLH,hRH,hcH⟩:=hq2 hrow (hqb hlen hP hL hR (Lib.hid hc));clear hrow hlen hP hL hR hc;go_enter Tryz.func234,Tryz.ntmps234;go_wp2_with fail
 go_loopw [10] (fun i wr=>SwRel C P L M R S b off n N w i wr) (fun i _=>N-(intOf i).toNat)
 case atStart=>exact⟨0,Nat.zero_le _,rfl,by simpa using hrowH.out,World.grownBy.refl _ _⟩
 case round =>
  obtain⟨k,hk,rfl,hrw,hs⟩:=hrel
  by_cases hlt:k<N
  ·obtain⟨x,hx⟩:∃ x,L[k]? = some x:=⟨L[k]'(by have:=hLH.out;omega),List.getElem?_eq_getElem _⟩;obtain⟨y,hy⟩:∃ y,R[k]? = some y:=⟨R[k]'(by have:=hRH.out;omega),List.getElem?_eq_getElem _⟩;have hac:a+N≤c:=by have:=hcH.out;omega
   have hd:P++(R.take k++L.drop k)++M++(L.take k++R.drop k)++S=(P++R.take k)++x::(L.drop (k+1)++M++L.take k)++y::(R.drop (k+1)++S):=by
    rw[drop_cons hx,drop_cons hy];simp
   have hd2:P++(R.take (k+1)++L.drop (k+1))++M++(L.take (k+1)++R.drop (k+1))++S=(P++R.take k)++y::(L.drop (k+1)++M++L.take k)++x::(R.drop (k+1)++S):=by
    rw[List.take_add_one,List.take_add_one,hx,hy];simp
   rw[hd]at hrw;have hgx:((P++R.take k)++x::(L.drop (k+1)++M++L.take k)++y::(R.drop (k+1)++S))[a+k]? = some x:=by
    rw[List.append_assoc,List.getElem?_append_right (by rw[List.length_append,List.length_take];have:=hPH.out;have:=hRH.out;omega)];rw[show a+k-(P++R.take k).length=0 by rw[List.length_append,List.length_take];have:=hPH.out;have:=hRH.out;omega];rfl
   have hgy:((P++R.take k)++x::(L.drop (k+1)++M++L.take k)++y::(R.drop (k+1)++S))[c+k]? = some y:=by
    have hlq:((P++R.take k)++x::(L.drop (k+1)++M++L.take k)).length=c+k:=by
     simp only[List.length_append,List.length_cons,List.length_take,List.length_drop];have:=hPH.out;have:=hLH.out;have:=hRH.out;have:=hcH.out;omega
    rw[List.getElem?_append_right (by omega),hlq,Nat.sub_self];rfl
   have x0:=hrw.at_ hgx;have y0:=hrw.at_ hgy;have fz:=hrw.fz;have f0:=fz (a+k);have f2:=fz (c+k);clear fz;obtain⟨hrwH,hsH,hxH,hyH,hdH,hd2H,hgxH,hgyH⟩:=hq2 hrw (hq2 hs (hq2 hx (hqb hy hd hd2 hgx (Lib.hid hgy))));clear hrw hs hx hy hd hd2 hgx hgy;have R1:SwRel C P L M R S b off n N w (.int .i64 ((k:Int)+1)) (exW wr b off (a+k) (c+k) x y).drew:=by
    refine⟨k+1,by omega,by go_num,?_,(hsH.out.trans (exW_srt _ _ _ _ _ _ _)).trans Srt.drew⟩;rw[hd2H.out];exact(hrwH.out.swap (by rw[List.length_append,List.length_take];have:=hPH.out;have:=hRH.out;omega) (by simp only[List.length_append,List.length_take,List.length_drop];have:=hLH.out;have:=hcH.out;omega)).drew
   unfold exW at R1;have R1H:=Lib.hid R1;clear R1;go_wp2_with fail
   go_region
   go_wp2;refine⟨?rel,?measure⟩
   case measure=>(simp[intOf];omega)
   case rel=>first | exact R1H.out | exact⟨rfl,R1H.out⟩
  ·have hkN:k=N:=by omega
   have e:P++(R.take k++L.drop k)++M++(L.take k++R.drop k)++S=P++R++M++L++S:=by
    have t1:R.take k=R:=List.take_of_length_le (by have:=hRH.out;omega);have t2:L.take k=L:=List.take_of_length_le (by have:=hLH.out;omega);have t3:R.drop k = []:=List.drop_eq_nil_of_le (by have:=hRH.out;omega);have t4:L.drop k = []:=List.drop_eq_nil_of_le (by have:=hLH.out;omega);rw[t1,t2,t3,t4];simp
   rw[e]at hrw;obtain⟨hrwH,hsH,eH⟩:=hq2 hrw (hq2 hs (Lib.hid e));clear hrw hs e;go_wp2
   go_end0
   exact⟨rfl,hrwH.out,hsH.out⟩
def RtRel (C:CC) (T:List Int) (b off n m:Nat) (w0:World) (vi vj:Value) (wr:World):Prop :=
 ∃ (i j:Nat) (A L R B:List Int),vi = .int .i64 i∧vj = .int .i64 j∧1≤i∧1≤j∧i≤m∧L.length=i∧R.length=j∧A.length=m-i∧RowI C wr b off n (A++L++R++B)∧A++R++L++B=T∧Srt b w0 wr
theorem rotate_any (C:CC) (b off n cap:Nat) (P X Y S:List Int) (a m e:Nat) (g:Value) (w:World) (hP:P.length=a) (hm:m=a+X.length) (he:e=m+Y.length) (hX:1≤X.length) (hY:1≤Y.length) (hn:n≤1000000000) (hrow:RowI C w b off n (P++X++Y++S)) :
  Calls Tryz.prog 232 #[.slice (some ⟨b,off,none⟩) n cap,.int .i64 a,.int .i64 m,.int .i64 e,g] w fun e w'=>e = .returned (.tuple #[])∧RowI C w' b off n (P++Y++X++S)∧Srt b w w':=by
 have hlen:=hrow.sl.1;simp only[List.length_append]at hlen;have hen:e≤n:=by omega
 have i0:(m:Int)-(a:Int)=((m-a:Nat):Int):=by omega
 have j0:(e:Int)-(m:Int)=((e-m:Nat):Int):=by omega
 obtain⟨T,hT⟩:∃ T,P++Y++X++S=T:=⟨_,rfl⟩;have hstart:RtRel C T b off n m w (.int .i64 ((m-a:Nat):Int)) (.int .i64 ((e-m:Nat):Int)) w:=⟨m-a,e-m,P,X,Y,S,rfl,rfl,by omega,by omega,by omega,by omega,by omega,by omega,hrow,hT,World.grownBy.refl _ _⟩;have ham:a≤m:=by omega
 have hme:m≤e:=by omega
 rw[hT];obtain⟨hrowH,hlenH,hPH,hXH,hYH,hTH,hstartH,hmH,heH,i0H,j0H⟩:=hq2 hrow (hq2 hlen (hqc hP hX hY hT hstart hm he i0 (Lib.hid j0)));clear hrow hlen hP hX hY hT hstart hm he i0 j0;go_enter Tryz.func232,Tryz.ntmps232;go_wp2_with fail
 go_loopw [10,11] (fun vi vj wr=>RtRel C T b off n m w vi vj wr) (fun vi vj _=>(intOf vi).toNat+(intOf vj).toNat)
 case atStart =>
  have:=hstartH.out;rw[← i0H.out,← j0H.out]at this;exact this
 case round =>
  clear hstartH i0H j0H;obtain⟨i,j,A,L,R,B,rfl,rfl,hi1,hj1,him,hL,hR,hA,hrw,hTT,hs⟩:=hrel;have hl2:=hrw.sl.1;simp only[List.length_append]at hl2;have hmj:m+j≤n:=by omega
  rcases Nat.lt_trichotomy i j with hlt | heq | hgt
  ·have hne:((i:Int) != (j:Int))=true:=by simp;omega
   have hne2:¬ (i:Int)=(j:Int):=by omega
   have hg:¬ (j:Int)<(i:Int):=by omega
   have hb:=swapRange_any C b off n cap A L (R.take (j-i)) (R.drop (j-i)) B i (m-i) (m+j-i) g wr hA hL (by rw[List.length_drop];omega) (by rw[List.length_take];omega) hn (by simpa using hrw);have c1:(m:Int)-(i:Int)=((m-i:Nat):Int):=by omega
   have c2:(m:Int)+(j:Int)-(i:Int)=((m+j-i:Nat):Int):=by omega
   have R1:∀ w',RowI C w' b off n (A++R.drop (j-i)++R.take (j-i)++L++B)→Srt b wr w'→RtRel C T b off n m w (.int .i64 (i:Int)) (.int .i64 ((j:Int)-(i:Int))) w':=fun w' h1 h2=>by
    refine⟨i,j-i,A,R.drop (j-i),R.take (j-i),L++B,rfl,by go_num,hi1,by omega,him,by rw[List.length_drop];omega,by rw[List.length_take];omega,hA,by simpa using h1,?_,hs.trans h2⟩;rw[← hTT,List.append_assoc A,List.take_append_drop];simp
   obtain⟨hLH,hRH,hAH,hrwH,hTTH,hsH,hl2H,hbH,R1H,c1H,c2H⟩:=hq2 hL (hq2 hR (hqc hA hrw hTT hs hl2 hb R1 c1 (Lib.hid c2)));clear hL hR hA hrw hTT hs hl2 hb R1 c1 c2;go_wp2_with fail;rw[c1H.out,c2H.out];refine hbH.out.mono ?_;rintro e w1 ⟨rfl,hr1,hs1⟩;have R2:=R1H.out w1 hr1 hs1;clear hr1 hs1;have R2H:=Lib.hid R2;clear R2;go_wp2;refine⟨?rel,?measure⟩
   case measure=>(simp[intOf];omega)
   case rel=>first | exact R2H.out | exact⟨rfl,R2H.out⟩
  ·subst heq;have hne:((i:Int) != (i:Int))=false:=by simp
   have hb:=swapRange_any C b off n cap A L [] R B i (m-i) m g wr hA hL hR (by simp;omega) hn (by simpa using hrw);have c1:(m:Int)-(i:Int)=((m-i:Nat):Int):=by omega
   rw[show A++R ++ []++L++B=T by rw[← hTT];simp]at hb;obtain⟨hLH,hRH,hAH,hrwH,hTTH,hsH,hl2H,hbH,c1H⟩:=hqc hL hR hA hrw hTT hs hl2 hb (Lib.hid c1);clear hL hR hA hrw hTT hs hl2 hb c1;go_wp2_with fail;rw[c1H.out];refine hbH.out.mono ?_;rintro e w1 ⟨rfl,hr1,hs1⟩;have hs2:=hsH.out.trans hs1;clear hs1;obtain⟨hr1H,hs2H⟩:=hq2 hr1 (Lib.hid hs2);clear hr1 hs2;go_wp2
   go_end0
   exact⟨rfl,hr1H.out,hs2H.out⟩
  ·have hne:((i:Int) != (j:Int))=true:=by simp;omega
   have hne2:¬ (i:Int)=(j:Int):=by omega
   have hg:(j:Int)<(i:Int):=by omega
   have hb:=swapRange_any C b off n cap A (L.take j) (L.drop j) R B j (m-i) m g wr hA (by rw[List.length_take];omega) hR (by rw[List.length_drop];omega) hn (by rw[List.append_assoc A,List.take_append_drop];simpa using hrw);have c1:(m:Int)-(i:Int)=((m-i:Nat):Int):=by omega
   have R1:∀ w',RowI C w' b off n (A++R++L.drop j++L.take j++B)→Srt b wr w'→RtRel C T b off n m w (.int .i64 ((i:Int)-(j:Int))) (.int .i64 (j:Int)) w':=fun w' h1 h2=>by
    refine⟨i-j,j,A++R,L.drop j,L.take j,B,by go_num,rfl,by omega,hj1,by omega,by rw[List.length_drop];omega,by rw[List.length_take];omega,by rw[List.length_append];omega,h1,?_,hs.trans h2⟩;rw[← hTT,List.append_assoc (A++R),List.take_append_drop]
   obtain⟨hLH,hRH,hAH,hrwH,hTTH,hsH,hl2H,hbH,R1H,c1H⟩:=hq2 hL (hqc hR hA hrw hTT hs hl2 hb R1 (Lib.hid c1));clear hL hR hA hrw hTT hs hl2 hb R1 c1;go_wp2_with fail;rw[c1H.out];refine hbH.out.mono ?_;rintro e w1 ⟨rfl,hr1,hs1⟩;have R2:=R1H.out w1 hr1 hs1;clear hr1 hs1;have R2H:=Lib.hid R2;clear R2;go_wp2;refine⟨?rel,?measure⟩
   case measure=>(simp[intOf];omega)
   case rel=>first | exact R2H.out | exact⟨rfl,R2H.out⟩
end Go.Proofs.YtbnkoefljcekbaaGreatDoor
namespace Go.Proofs.YtbnkoefljcekbaaGreatDoor
structure Bnd (F:FP) (B S:Int):Prop where
 w:∀ k,k<F.nW→F.wfrom k≤B∧F.wto k≤B
 l:∀ t∈F.lossAt,t≤B
 s:∀ k i,k<F.nW→i<F.nX→F.secs k i≤S
 e:∀ k i t u,k<F.nW→i<F.nX→F.endAt k i t=some u→u≤B
 s0:0≤S
theorem next_bnd {F:FP} (hF:FFine F) {B S:Int} (hB:Bnd F B S) {q:QS} (h1:Inv F q.at_ (q.at_+1) q) {m:Int} (hx:nextQ F q=some m):q.at_<m∧m≤B+2*S:=by
 obtain⟨n1,n2,n3⟩:=above_some hx;refine⟨n2,?_⟩;have s0:=hB.s0
 rcases mem_candsQ.1 n1 with ⟨k,hk,e⟩ | e | ⟨r,hr,hg,e⟩
 ·have:=hB.w k hk
  rcases e with e | e <;> omega
 ·have:=hB.l m e;omega
 ·have hnm:=h1.named r hr;have hf:=h1.fr r hr;have h3:=hB.w _ hnm.1
  rcases e with e | e
  ·have:=hB.e _ _ _ _ hnm.1 hnm.2 e;omega
  ·have:=hB.s _ _ hnm.1 hnm.2;unfold late at e;omega
theorem q_ends_go {F:FP} (hF:FFine F) {B S:Int} (hB:Bnd F B S):∀ (n:Nat) (q:QS),Inv F (q.at_-1) q.at_ q→(B+2*S+1-q.at_).toNat≤n→∃ q',QTrace F q q'
 | n,q,hI,hn=>by
  have h1:=hI.step hF
  cases hx:nextQ F (stepQ F q) with
  | none=>exact⟨_,.last q hx⟩
  | some m =>
   have e:=stepQ_at F q;have h1':Inv F (stepQ F q).at_ ((stepQ F q).at_+1) (stepQ F q):=by rw[e];exact h1
   obtain⟨n2,hm⟩:=next_bnd hF hB h1' hx;rw[e]at n2;have h2:=h1'.at hx
   match n,hn with
   | 0,hn=>omega
   | n+1,hn =>
    obtain⟨q',h⟩:=q_ends_go hF hB n { stepQ F q with at_:=m } h2 (by show (B+2*S+1-m).toNat≤n;omega);exact⟨q',.more q m q' hx h⟩
theorem q_ends {F:FP} (hF:FFine F) {B S:Int} (hB:Bnd F B S):∃ q',QTrace F q0 q':=q_ends_go hF hB _ q0 (inv0 hF) (Nat.le_refl _)
structure EndP (F:FP) (p:PS) (q:QS):Prop where
 sim:Sim p q
 fin:FinQ F q
 out:p.out.Perm q.runs
 last:∀ k,IsLast q.runs k (p.last k)
theorem end_of {F:FP} (hF:FFine F) (hcov:∀ i,i<F.nX→i∈F.order) {p:PS} {q:QS} (hp:PTrace F p0 p) (hq:QTrace F q0 q):EndP F p q:=by
 obtain⟨h1,h2⟩:=both_end hF hcov hp hq;exact⟨h1,fin_of hF hcov hq,h2,fun k=>isLast_perm h2 ((hp.inv (pinv0 F)).last k)⟩
def sm {α:Type} (l:List α) (f:α→Int):Int:=(l.map f).sum
section
variable {α β:Type}
theorem sm_nil (f:α→Int):sm [] f=0:=rfl
theorem sm_cons (x:α) (l:List α) (f:α→Int):sm (x::l) f=f x+sm l f:=by unfold sm;rw[List.map_cons,List.sum_cons]
theorem sm_app (l m:List α) (f:α→Int):sm (l++m) f=sm l f+sm m f:=by
 induction l with
 | nil=>rw[List.nil_append,sm_nil];omega
 | cons x l ih=>rw[List.cons_append,sm_cons,sm_cons,ih];omega
theorem sm_le {l:List α} {f g:α→Int} (h:∀ x∈l,f x≤g x):sm l f≤sm l g:=by
 induction l with
 | nil=>exact Int.le_refl _
 | cons x l ih =>
  rw[sm_cons,sm_cons];have:=h x List.mem_cons_self;have:=ih fun y hy=>h y (List.mem_cons_of_mem _ hy);omega
theorem sm_congr {l:List α} {f g:α→Int} (h:∀ x∈l,f x=g x):sm l f=sm l g :=
 Int.le_antisymm (sm_le fun x hx=>Int.le_of_eq (h x hx)) (sm_le fun x hx=>Int.le_of_eq (h x hx).symm)
theorem sm_zero (l:List α):sm l (fun _=>0)=0:=by
 induction l with
 | nil=>rfl
 | cons x l ih=>rw[sm_cons,ih];rfl
theorem sm_add (l:List α) (f g:α→Int):sm l (fun x=>f x+g x)=sm l f+sm l g:=by
 induction l with
 | nil=>rfl
 | cons x l ih=>rw[sm_cons,sm_cons,sm_cons,ih];omega
theorem sm_swap (l:List α) (m:List β) (f:α→β→Int):sm l (fun x=>sm m (f x))=sm m (fun y=>sm l (fun x=>f x y)):=by
 induction l with
 | nil =>
  rw[sm_nil];exact(sm_zero m).symm
 | cons x l ih =>
  rw[sm_cons,ih,← sm_add];exact sm_congr fun y _=>(sm_cons x l (fun x=>f x y)).symm
theorem sm_ge {l:List α} {f:α→Int} (h:∀ x∈l,0≤f x) {x:α} (hx:x∈l):f x≤sm l f:=by
 induction l with
 | nil=>cases hx
 | cons y l ih =>
  rw[sm_cons];have h0:0≤sm l f:=by
   rw[← sm_zero l];exact sm_le fun z hz=>h z (List.mem_cons_of_mem _ hz)
  rcases List.mem_cons.1 hx with rfl | hx
  ·omega
  ·have:=ih (fun z hz=>h z (List.mem_cons_of_mem _ hz)) hx;have:=h y List.mem_cons_self;omega
theorem sm_count {l:List α} {f:α→Int} {p:α→Bool} {c:Int} (h:∀ x∈l,f x≤if p x=true then c else 0):sm l f≤(l.countP p:Nat)*c:=by
 induction l with
 | nil=>simp[sm_nil]
 | cons x l ih =>
  rw[sm_cons,List.countP_cons];have h1:=h x List.mem_cons_self;have h2:=ih fun y hy=>h y (List.mem_cons_of_mem _ hy)
  by_cases hp:p x=true
  ·rw[if_pos hp]at h1;rw[if_pos hp,Int.natCast_add,Int.add_mul];simp only[Int.natCast_one,Int.one_mul];omega
  ·rw[if_neg hp]at h1;rw[if_neg hp,Nat.add_zero];omega
theorem sm_const (n:Nat) (c:Int):sm (List.range n) (fun _=>c)=n*c:=by
 induction n with
 | zero=>simp[sm_nil]
 | succ n ih =>
  rw[List.range_succ,sm_app,ih,sm_cons,sm_nil,Int.natCast_add,Int.add_mul];simp
theorem sm_one (n k:Nat) (c:Int):sm (List.range n) (fun j=>if k=j then c else 0)=if k<n then c else 0:=by
 induction n with
 | zero=>rfl
 | succ n ih =>
  rw[List.range_succ,sm_app,ih,sm_cons,sm_nil]
  by_cases h1:k<n
  ·rw[if_pos h1,if_neg (by omega),if_pos (by omega)];omega
  ·by_cases h2:k=n
   ·rw[if_neg h1,if_pos h2,if_pos (by omega)];omega
   ·rw[if_neg h1,if_neg h2,if_neg (by omega)];rfl
theorem sm_group {l:List α} {f:α→Int} {key:α→Nat} {n:Nat} (h:∀ x∈l,key x<n):sm l f=sm (List.range n) (fun k=>sm l (fun x=>if key x=k then f x else 0)):=by
 rw[← sm_swap l (List.range n) (fun x k=>if key x=k then f x else 0)];refine sm_congr fun x hx=>?_;rw[sm_one,if_pos (h x hx)]
theorem sm_span (a b c:Int) (ha:0≤a) (hab:a≤b):∀ n:Nat,sm (List.range n) (fun t=>if a≤(t:Int)∧(t:Int)<b then c else 0)=(min b n-min a n)*c
 | 0=>by rw[show min b ((0:Nat):Int)-min a ((0:Nat):Int)=0 by omega];simp[sm_nil]
 | n+1=>by
  rw[List.range_succ,sm_app,sm_span a b c ha hab n,sm_cons,sm_nil]
  by_cases h:a≤(n:Int)∧(n:Int)<b
  ·rw[if_pos h,show min b ((n+1:Nat):Int)-min a ((n+1:Nat):Int)=(min b n-min a n)+1 by omega,Int.add_mul];omega
  ·rw[if_neg h,show min b ((n+1:Nat):Int)-min a ((n+1:Nat):Int)=(min b n-min a n) by omega];omega
end
structure Sized (F:FP) (sz:Nat→Int):Prop where
 sz0:∀ i,i<F.nX→0≤sz i
 sp0:∀ k,k<F.nW→0≤F.speed k
 ends:∀ k i t u,k<F.nW→i<F.nX→0≤t→F.endAt k i t=some u→t+F.secs k i≤u
 up:∀ k i,k<F.nW→i<F.nX→sz i≤F.secs k i*F.speed k
section
variable {F:FP} {sz:Nat→Int} {q:QS}
theorem Sized.run (hS:Sized F sz) (hI:Inv F q.at_ (q.at_+1) q) {r:RR} (hr:r∈q.runs) (he:r.end_=1):0≤r.from_∧r.from_≤r.to_∧r.to_≤q.at_∧0≤F.speed r.worker∧sz r.work≤(r.to_-r.from_)*F.speed r.worker:=by
 obtain⟨hk,hi⟩:=hI.named r hr;have h1:=hI.e1 r hr he;have h2:=hI.fr r hr;have h3:=hI.en r hr (end1_not_going he);have h4:=hS.ends _ _ _ _ hk hi h2.2.1 h1;have h5:=hS.up _ _ hk hi;have h6:=hS.sp0 _ hk;refine⟨h2.2.1,by omega,h3.2.1,h6,?_⟩;have:=Int.mul_le_mul_of_nonneg_right (a:=F.secs r.worker r.work) (b:=r.to_-r.from_) (c:=F.speed r.worker) (by omega) h6;omega
theorem done_at (hI:Inv F q.at_ (q.at_+1) q) {a b:RR} (ha:a∈q.runs) (hb:b∈q.runs) (hw:a.work=b.work) (h1:a.end_=1) (h2:b.end_=1):a.to_=b.to_:=by
 have hd:=(hI.don b.work).2 ⟨b,hb,rfl,h2⟩;have x:=hI.doni b.work hd a ha hw b hb rfl h2;have y:=hI.doni b.work hd b hb rfl a ha hw h1;omega
theorem way_least (hS:Sized F sz) (hI:Inv F q.at_ (q.at_+1) q) {out:List Nat} (ht:Topo F.after F.nX out) (hl:out.length=F.nX) {C:Nat→Int} (hC:Crit F.after sz F.nX C)
  (hdone:∀ i,i<F.nX→q.done i=true) {V T:Int} (hV:∀ k,k<F.nW→F.speed k≤V) (hV0:0≤V) (hT:∀ r∈q.runs,r.end_=1→r.to_≤T):∀ j,j<F.nX→C j≤T*V:=by
 have key:∀ (b a:List Nat),out=a++b→∀ j∈b,∀ r∈q.runs,r.work=j→r.end_=1→r.from_*V+C j≤T*V:=by
  intro b
  induction b with
  | nil=>intro a _ j hj;cases hj
  | cons i b ih =>
   intro a e j hj;have ihb:=ih (a ++ [i]) (by rw[e];simp)
   rcases List.mem_cons.1 hj with rfl | hj
   ·intro r hr hw he;have hjN:j<F.nX:=ht.lt j (by rw[e];simp);obtain⟨m,h1,h2⟩:=hC j hjN;obtain⟨a1,a2,a3,a4,a5⟩:=hS.run hI hr he;have hk:=(hI.named r hr).1;have h3:sz j≤(r.to_-r.from_)*V:=by
     have:=Int.mul_le_mul_of_nonneg_left (c:=r.to_-r.from_) (hV _ hk) (by omega);rw[← hw];omega
    rw[Int.sub_mul]at h3;have h4:r.to_*V≤T*V:=Int.mul_le_mul_of_nonneg_right (hT r hr he) hV0
    rcases h1.at_ with e0 | ⟨k,hkN,hkj,e0⟩
    ·rw[h2,e0];omega
    ·have hkb:=topo_behind ht hl e hkN hkj;obtain⟨r',hr',hw',he'⟩:=(hI.don k).1 (hdone k hkN);have h5:=ihb k hkb r' hr' hw' he';obtain⟨d,hd,hdw,hde,hdt⟩:=hI.ord r' hr' j (by rw[hw'];exact hkj);have h6:=done_at hI hr hd (by rw[hw,hdw]) he hde;have h7:r.to_*V≤r'.from_*V:=Int.mul_le_mul_of_nonneg_right (by omega) hV0;rw[h2,e0];omega
   ·exact ihb j hj
 intro j hj;obtain⟨r,hr,hw,he⟩:=(hI.don j).1 (hdone j hj);have h1:=key out [] rfl j (ht.all hl hj) r hr hw he;have h2:=(hS.run hI hr he).1;have:=Int.mul_nonneg h2 hV0;omega
theorem all_least (hS:Sized F sz) (hI:Inv F q.at_ (q.at_+1) q) (hdone:∀ i,i<F.nX→q.done i=true) {T:Int} (hT0:0≤T) (hT:∀ r∈q.runs,r.end_=1→r.to_≤T) (hTa:T≤q.at_) :
  sm (List.range F.nX) sz≤T*sm (List.range F.nW) (fun k=>F.slots k*F.speed k):=by
 obtain⟨n,rfl⟩:∃ n:Nat,T=n:=⟨T.toNat,by omega⟩;have h1:sm (List.range F.nX) sz≤sm q.runs (fun r=>if r.end_=1 then sz r.work else 0):=by
  rw[sm_group (l:=q.runs) (key:=fun r=>r.work) (n:=F.nX) (fun r hr=>(hI.named r hr).2)];refine sm_le fun i hi=>?_;obtain⟨r,hr,hw,he⟩:=(hI.don i).1 (hdone i (List.mem_range.1 hi));have:=sm_ge (l:=q.runs) (f:=fun x=>if x.work=i then (if x.end_=1 then sz x.work else 0) else 0) (fun x hx=>by
   split
   ·split
    ·exact hS.sz0 _ (hI.named x hx).2
    ·exact Int.le_refl _
   ·exact Int.le_refl _) hr
  rw[if_pos hw,if_pos he,hw]at this;exact this
 have h2:sm q.runs (fun r=>if r.end_=1 then sz r.work else 0)≤sm q.runs (fun r=>sm (List.range n) (fun t=>if r.end_=1∧r.from_≤(t:Int)∧(t:Int)<r.to_ then F.speed r.worker else 0)):=by
  refine sm_le fun r hr=>?_
  by_cases he:r.end_=1
  ·rw[if_pos he];obtain⟨a1,a2,a3,a4,a5⟩:=hS.run hI hr he;have e:=sm_span r.from_ r.to_ (F.speed r.worker) a1 a2 n;have a6:=hT r hr he;rw[show min r.to_ (n:Int)-min r.from_ (n:Int)=r.to_-r.from_ by omega]at e;have e2:sm (List.range n) (fun t=>if r.end_=1∧r.from_≤(t:Int)∧(t:Int)<r.to_ then F.speed r.worker else 0)=sm (List.range n) (fun t=>if r.from_≤(t:Int)∧(t:Int)<r.to_ then F.speed r.worker else 0):=by
    refine sm_congr fun t _=>?_;simp only[he,true_and]
   rw[e2,e];exact a5
  ·rw[if_neg he];have e2:sm (List.range n) (fun t=>if r.end_=1∧r.from_≤(t:Int)∧(t:Int)<r.to_ then F.speed r.worker else 0)=sm (List.range n) (fun _=>0):=sm_congr fun t _=>by simp only[he,false_and,if_false]
   rw[e2,sm_zero];exact Int.le_refl _
 rw[sm_swap]at h2;have h3:sm (List.range n) (fun t=>sm q.runs (fun r=>if r.end_=1∧r.from_≤(t:Int)∧(t:Int)<r.to_ then F.speed r.worker else 0))≤sm (List.range n) (fun _=>sm (List.range F.nW) (fun k=>F.slots k*F.speed k)):=by
  refine sm_le fun t htm=>?_;have htn:=List.mem_range.1 htm;rw[sm_group (l:=q.runs) (key:=fun r=>r.worker) (n:=F.nW) (fun r hr=>(hI.named r hr).1)];refine sm_le fun k hkm=>?_;have hk:=List.mem_range.1 hkm;have h4:=hI.hist t (by omega) k hk;have h5:=sm_count (l:=q.runs) (f:=fun r=>if r.worker=k then (if r.end_=1∧r.from_≤(t:Int)∧(t:Int)<r.to_ then F.speed r.worker else 0) else 0)
   (p:=fun r=>r.worker==k&&(decide (r.from_≤(t:Int))&&(going r||decide ((t:Int)<r.to_)))) (c:=F.speed k) (fun r hr=>by
    have hs:=hS.sp0 k hk
    by_cases hw:r.worker=k
    ·rw[if_pos hw,hw]
     by_cases hc:r.end_=1∧r.from_≤(t:Int)∧(t:Int)<r.to_
     ·rw[if_pos hc,if_pos (by simp[hc.2.1,hc.2.2])];exact Int.le_refl _
     ·rw[if_neg hc]
      split
      ·exact hs
      ·exact Int.le_refl _
    ·rw[if_neg hw]
     split
     ·exact hs
     ·exact Int.le_refl _)
  refine Int.le_trans h5 ?_;exact Int.mul_le_mul_of_nonneg_right h4 (hS.sp0 k hk)
 rw[sm_const]at h3;omega
end
theorem up_le {a b T:Int} (hb:0<b) (h:a≤T*b):(a+b-1) / b≤T:=by
 have h1:(a+b-1) / b<T+1:=Int.ediv_lt_of_lt_mul hb (by rw[Int.add_mul];omega);omega
end Go.Proofs.YtbnkoefljcekbaaGreatDoor