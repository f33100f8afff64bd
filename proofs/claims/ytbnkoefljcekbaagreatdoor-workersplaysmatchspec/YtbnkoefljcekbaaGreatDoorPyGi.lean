/-
 Several texts of mine as one, without what is not wanted here: XSwpI, XRotI, XWkH, XInsN, XRkD.
-/
import Derived.Test.YtbnkoefljcekbaaGreatDoorPyGh
import Derived.Shelf.Spec.SlicesInsertGrow
set_option linter.unusedVariables false
set_option linter.unusedSimpArgs false
set_option maxRecDepth 100000
set_option maxHeartbeats 8000000
namespace Go.Proofs.YtbnkoefljcekbaaGreatDoor
open Go.ChangeShapes Go.WideShapes Go.Deep Go.RowKit
structure CC where
 l:List Int
 pc:Nat
 cb:Nat
 cap:Nat
def vC (C:CC) (x:Int):Int:=C.l.getD x.toNat 0
def fI (C:CC) (x:Int):Int:=- vC C x
structure CrAt (C:CC) (w:World):Prop where
 hd:w.cell? ⟨C.pc,0,none⟩=some (.slice (some ⟨C.cb,0,none⟩) C.l.length C.cap)
 at_:∀ (j:Nat) (x:Int),C.l[j]? = some x→w.cell? ⟨C.cb,j,none⟩=some (.int .i64 x)
theorem CrAt.below {C:CC} {w w':World} (h:CrAt C w) (hb:Below w.heap.size w w'):CrAt C w' :=
 ⟨(hb.cell (cell?_lt h.hd)).trans h.hd,fun j x hj=>(hb.cell (cell?_lt (h.at_ j x hj))).trans (h.at_ j x hj)⟩
def InC (C:CC) (x:Int):Prop:=0≤x∧x<(C.l.length:Int)
structure RowI (C:CC) (w:World) (b off n:Nat) (d:List Int):Prop where
 sl:SlAt RInt w (some ⟨b,off,none⟩) n d
 fz:∀ j,w.frozen? ⟨b,off+j,none⟩=false
 lt:b<w.heap.size
 cr:CrAt C w
 bd:∀ x∈d,InC C x
 n1:b≠C.pc
 n2:b≠C.cb
section
variable {C:CC}
theorem RowI.below {w w':World} {b off n:Nat} {d:List Int} (h:RowI C w b off n d) (hb:Below w.heap.size w w'):RowI C w' b off n d :=
 ⟨h.sl.below hb,fun j=>(hb.frozen (p:=⟨b,off+j,none⟩) h.lt).trans (h.fz j),Nat.lt_of_lt_of_le h.lt hb.size,h.cr.below hb,h.bd,h.n1,h.n2⟩
theorem RowI.at_ {w:World} {b off n k:Nat} {d:List Int} {x:Int} (h:RowI C w b off n d) (hx:d[k]? = some x):w.cell? ⟨b,off+k,none⟩=some (.int .i64 x):=by
 have hk:=(List.getElem?_eq_some_iff.1 hx).1;obtain⟨b',off',hA,hc⟩:=h.sl.2.1 (by have:=h.sl.1;omega);obtain⟨rfl,rfl⟩:b=b'∧off=off':=by simpa using hA
 have:=hc k x hx 0 _ rfl
 simpa[RInt]using this
theorem RowI.in_ {w:World} {b off n k:Nat} {d:List Int} {x:Int} (h:RowI C w b off n d) (hx:d[k]? = some x):InC C x:=h.bd x (List.mem_of_getElem? hx)
theorem RowI.put {w:World} {b off n k:Nat} {d:List Int} {x:Int} (h:RowI C w b off n d) (hk:k<n) (hx:I64 x) (hi:InC C x):RowI C (w.setCell ⟨b,off+k,none⟩ (.int .i64 x)) b off n (d.set k x):=by
 have hl:=h.sl.1;obtain⟨y,hy⟩:∃ y,d[k]? = some y:=⟨d[k]'(by omega),List.getElem?_eq_getElem _⟩;have e0:=h.at_ hy;have hn1:=h.n1;have hn2:=h.n2;refine⟨⟨by rw[List.length_set];exact hl,fun hn=>⟨b,off,rfl,fun i z hz j v hv=>?_⟩,fun z hz=>?_⟩,fun j=>by rw[World.frozen?_setCell];exact h.fz j,by simpa using h.lt,
  ⟨(World.cell?_setCell_other _ _ _ _ (by simp <;> omega)).trans h.cr.hd,fun j x hj=>(World.cell?_setCell_other _ _ _ _ (by simp <;> omega)).trans (h.cr.at_ j x hj)⟩,fun z hz=>?_,h.n1,h.n2⟩
 ·match j,hv with
  | 0,hv =>
   simp only[RInt,List.getElem?_cons_zero,Option.some.injEq]at hv;subst hv;simp only[RInt,Nat.mul_one,Nat.add_zero];rw[List.getElem?_set]at hz
   by_cases hki:k=i
   ·subst hki;rw[if_pos rfl,if_pos (by omega)]at hz;injection hz with hz;subst hz;exact World.cell?_setCell_same' _ _ _ (by rw[e0];rfl)
   ·rw[if_neg hki]at hz;rw[World.cell?_setCell_other _ _ _ _ (by simp <;> omega)];exact h.at_ hz
  | j+1,hv=>simp[RInt]at hv
 ·rcases List.mem_or_eq_of_mem_set hz with hz | hz
  ·exact h.sl.2.2 z hz
  ·rw[hz];exact hx
 ·rcases List.mem_or_eq_of_mem_set hz with hz | hz
  ·exact h.bd z hz
  ·rw[hz];exact hi
def Srt (b:Nat) (w w':World):Prop:=w.grownBy w' (some b)
theorem Srt.of_below {b:Nat} {w w':World} (h:Below w.heap.size w w'):Srt b w w':=⟨h.os,h.tape,h.output,h.size,fun k hk _=>h.block k hk⟩
theorem Srt.trans {b:Nat} {w w' w'':World} (h:Srt b w w') (h2:Srt b w' w''):Srt b w w'' :=
 ⟨h2.os.trans h.os,h2.tape.trans h.tape,h2.output.trans h.output,Nat.le_trans h.size h2.size,fun k hk hne=>(h2.block k (Nat.lt_of_lt_of_le hk h.size) hne).trans (h.block k hk hne)⟩
theorem Srt.put {b o:Nat} {w:World} (u:Value):Srt b w (w.setCell ⟨b,o,none⟩ u):=grown_setc w ⟨b,o,none⟩ u
theorem Srt.drew {b:Nat} {w:World}:Srt b w w.drew:=⟨rfl,rfl,rfl,Nat.le_refl _,fun _ _ _=>rfl⟩
theorem set2_app (A M S:List Int) (x y:Int):((A++x::M++y::S).set A.length y).set (A.length+1+M.length) x=A++y::M++x::S:=by
 rw[List.append_assoc,List.set_append_right _ _ (Nat.le_refl _),Nat.sub_self,List.cons_append,List.set_cons_zero,List.set_append_right _ _ (by omega)];rw[show A.length+1+M.length-A.length=M.length+1 by omega,List.set_cons_succ,List.set_append_right _ _ (Nat.le_refl _),Nat.sub_self,List.set_cons_zero];simp
def exW (w:World) (b off i j:Nat) (x y:Int):World:=(w.setCell ⟨b,off+i,none⟩ (.int .i64 y)).setCell ⟨b,off+j,none⟩ (.int .i64 x)
theorem RowI.swap {w:World} {b off n i j:Nat} {A M S:List Int} {x y:Int} (h:RowI C w b off n (A++x::M++y::S)) (hi:A.length=i) (hj:j=i+1+M.length):RowI C (exW w b off i j x y) b off n (A++y::M++x::S):=by
 have hl:=h.sl.1;simp only[List.length_append,List.length_cons]at hl;have h1:=h.put (k:=i) (x:=y) (by omega) (h.sl.2.2 y (by simp)) (h.bd y (by simp));have h2:=h1.put (k:=j) (x:=x) (by omega) (h.sl.2.2 x (by simp)) (h.bd x (by simp));subst hi;subst hj;rw[set2_app]at h2;exact h2
theorem RowI.swap2 {w:World} {b off n i j:Nat} {A M S:List Int} {x y:Int} (h:RowI C w b off n (A++x::M++y::S)) (hi:A.length=i) (hj:j=i+1+M.length):RowI C (exW w b off j i y x) b off n (A++y::M++x::S):=by
 have hl:=h.sl.1;simp only[List.length_append,List.length_cons]at hl;have h1:=h.put (k:=j) (x:=x) (by omega) (h.sl.2.2 x (by simp)) (h.bd x (by simp));have h2:=h1.put (k:=i) (x:=y) (by omega) (h.sl.2.2 y (by simp)) (h.bd y (by simp));subst hi;subst hj;rw[List.set_comm _ _ (by omega),set2_app]at h2;exact h2
theorem exW_srt (w:World) (b off i j:Nat) (x y:Int):Srt b w (exW w b off i j x y):=(Srt.put _).trans (Srt.put _)
theorem RowI.drew {w:World} {b off n:Nat} {d:List Int} (h:RowI C w b off n d):RowI C w.drew b off n d:=h.below ((Below.refl _ _).drew)
theorem keep2i {W w':World} {a0 a2:Addr} {v0 v2:Value} (hb:Below W.heap.size W w') (h:W.cell? a0=some v0∧W.cell? a2=some v2):w'.cell? a0=some v0∧w'.cell? a2=some v2 :=
 ⟨(hb.cell (cell?_lt h.1)).trans h.1,(hb.cell (cell?_lt h.2)).trans h.2⟩
end
def SwRel (C:CC) (P L M R S:List Int) (b off n N:Nat) (w0:World) (i:Value) (wr:World):Prop :=
 ∃ k:Nat,k≤N∧i = .int .i64 k∧RowI C wr b off n (P++(R.take k++L.drop k)++M++(L.take k++R.drop k)++S)∧Srt b w0 wr
theorem swapRange_any (C:CC) (b off n cap:Nat) (P L M R S:List Int) (N a c:Nat) (g:Value) (w:World) (hP:P.length=a) (hL:L.length=N) (hR:R.length=N) (hc:c=a+N+M.length) (hn:n≤1000000000) (hrow:RowI C w b off n (P++L++M++R++S)) :
  Calls Tryz.prog 234 #[.slice (some ⟨b,off,none⟩) n cap,.int .i64 a,.int .i64 c,.int .i64 N,g] w fun e w'=>e = .returned (.tuple #[])∧RowI C w' b off n (P++R++M++L++S)∧Srt b w w':=by
 have hlen:=hrow.sl.1;simp only[List.length_append]at hlen;have hcn:c+N≤n:=by omega
 obtain⟨hrowH,hlenH,hPH,hLH,hRH,hcH⟩:=hq2 hrow (hqb hlen hP hL hR (Lib.hid hc));clear hrow hlen hP hL hR hc;go_enter Tryz.func234,Tryz.ntmps234;go_wp2_with fail
 go_loopw [10] (fun i wr=>SwRel C P L M R S b off n N w i wr) (fun i _=>N-(intOf i).toNat)
 case atStart=>exact⟨0,Nat.zero_le _,rfl,by simpa using hrowH.out,World.grownBy.refl _ _⟩
 case round =>
  obtain⟨k,hk,rfl,hrw,hs⟩:=hrel
  by_cases hlt:k<N
  ·obtain⟨x,hx⟩:∃ x,L[k]? = some x:=⟨L[k]'(by have:=hLH.out;omega),List.getElem?_eq_getElem _⟩;obtain⟨y,hy⟩:∃ y,R[k]? = some y:=⟨R[k]'(by have:=hRH.out;omega),List.getElem?_eq_getElem _⟩;have hac:a+N≤c:=by have:=hcH.out;omega
   have hd:P++(R.take k++L.drop k)++M++(L.take k++R.drop k)++S=(P++R.take k)++x::(L.drop (k+1)++M++L.take k)++y::(R.drop (k+1)++S):=by
    rw[drop_cons hx,drop_cons hy];simp
   have hd2:P++(R.take (k+1)++L.drop (k+1))++M++(L.take (k+1)++R.drop (k+1))++S=(P++R.take k)++y::(L.drop (k+1)++M++L.take k)++x::(R.drop (k+1)++S):=by
    rw[List.take_add_one,List.take_add_one,hx,hy];simp
   rw[hd]at hrw;have hgx:((P++R.take k)++x::(L.drop (k+1)++M++L.take k)++y::(R.drop (k+1)++S))[a+k]? = some x:=by
    rw[List.append_assoc,List.getElem?_append_right (by rw[List.length_append,List.length_take];have:=hPH.out;have:=hRH.out;omega)];rw[show a+k-(P++R.take k).length=0 by rw[List.length_append,List.length_take];have:=hPH.out;have:=hRH.out;omega];rfl
   have hgy:((P++R.take k)++x::(L.drop (k+1)++M++L.take k)++y::(R.drop (k+1)++S))[c+k]? = some y:=by
    have hlq:((P++R.take k)++x::(L.drop (k+1)++M++L.take k)).length=c+k:=by
     simp only[List.length_append,List.length_cons,List.length_take,List.length_drop];have:=hPH.out;have:=hLH.out;have:=hRH.out;have:=hcH.out;omega
    rw[List.getElem?_append_right (by omega),hlq,Nat.sub_self];rfl
   have x0:=hrw.at_ hgx;have y0:=hrw.at_ hgy;have fz:=hrw.fz;have f0:=fz (a+k);have f2:=fz (c+k);clear fz;obtain⟨hrwH,hsH,hxH,hyH,hdH,hd2H,hgxH,hgyH⟩:=hq2 hrw (hq2 hs (hq2 hx (hqb hy hd hd2 hgx (Lib.hid hgy))));clear hrw hs hx hy hd hd2 hgx hgy;have R1:SwRel C P L M R S b off n N w (.int .i64 ((k:Int)+1)) (exW wr b off (a+k) (c+k) x y).drew:=by
    refine⟨k+1,by omega,by go_num,?_,(hsH.out.trans (exW_srt _ _ _ _ _ _ _)).trans Srt.drew⟩;rw[hd2H.out];exact(hrwH.out.swap (by rw[List.length_append,List.length_take];have:=hPH.out;have:=hRH.out;omega) (by simp only[List.length_append,List.length_take,List.length_drop];have:=hLH.out;have:=hcH.out;omega)).drew
   unfold exW at R1;have R1H:=Lib.hid R1;clear R1;go_wp2_with fail
   go_region
   go_wp2;refine⟨?rel,?measure⟩
   case measure=>(simp[intOf];omega)
   case rel=>first | exact R1H.out | exact⟨rfl,R1H.out⟩
  ·have hkN:k=N:=by omega
   have e:P++(R.take k++L.drop k)++M++(L.take k++R.drop k)++S=P++R++M++L++S:=by
    have t1:R.take k=R:=List.take_of_length_le (by have:=hRH.out;omega);have t2:L.take k=L:=List.take_of_length_le (by have:=hLH.out;omega);have t3:R.drop k = []:=List.drop_eq_nil_of_le (by have:=hRH.out;omega);have t4:L.drop k = []:=List.drop_eq_nil_of_le (by have:=hLH.out;omega);rw[t1,t2,t3,t4];simp
   rw[e]at hrw;obtain⟨hrwH,hsH,eH⟩:=hq2 hrw (hq2 hs (Lib.hid e));clear hrw hs e;go_wp2
   go_end0
   exact⟨rfl,hrwH.out,hsH.out⟩
def RtRel (C:CC) (T:List Int) (b off n m:Nat) (w0:World) (vi vj:Value) (wr:World):Prop :=
 ∃ (i j:Nat) (A L R B:List Int),vi = .int .i64 i∧vj = .int .i64 j∧1≤i∧1≤j∧i≤m∧L.length=i∧R.length=j∧A.length=m-i∧RowI C wr b off n (A++L++R++B)∧A++R++L++B=T∧Srt b w0 wr
theorem rotate_any (C:CC) (b off n cap:Nat) (P X Y S:List Int) (a m e:Nat) (g:Value) (w:World) (hP:P.length=a) (hm:m=a+X.length) (he:e=m+Y.length) (hX:1≤X.length) (hY:1≤Y.length) (hn:n≤1000000000) (hrow:RowI C w b off n (P++X++Y++S)) :
  Calls Tryz.prog 232 #[.slice (some ⟨b,off,none⟩) n cap,.int .i64 a,.int .i64 m,.int .i64 e,g] w fun e w'=>e = .returned (.tuple #[])∧RowI C w' b off n (P++Y++X++S)∧Srt b w w':=by
 have hlen:=hrow.sl.1;simp only[List.length_append]at hlen;have hen:e≤n:=by omega
 have i0:(m:Int)-(a:Int)=((m-a:Nat):Int):=by omega
 have j0:(e:Int)-(m:Int)=((e-m:Nat):Int):=by omega
 obtain⟨T,hT⟩:∃ T,P++Y++X++S=T:=⟨_,rfl⟩;have hstart:RtRel C T b off n m w (.int .i64 ((m-a:Nat):Int)) (.int .i64 ((e-m:Nat):Int)) w:=⟨m-a,e-m,P,X,Y,S,rfl,rfl,by omega,by omega,by omega,by omega,by omega,by omega,hrow,hT,World.grownBy.refl _ _⟩;have ham:a≤m:=by omega
 have hme:m≤e:=by omega
 rw[hT];obtain⟨hrowH,hlenH,hPH,hXH,hYH,hTH,hstartH,hmH,heH,i0H,j0H⟩:=hq2 hrow (hq2 hlen (hqc hP hX hY hT hstart hm he i0 (Lib.hid j0)));clear hrow hlen hP hX hY hT hstart hm he i0 j0;go_enter Tryz.func232,Tryz.ntmps232;go_wp2_with fail
 go_loopw [10,11] (fun vi vj wr=>RtRel C T b off n m w vi vj wr) (fun vi vj _=>(intOf vi).toNat+(intOf vj).toNat)
 case atStart =>
  have:=hstartH.out;rw[← i0H.out,← j0H.out]at this;exact this
 case round =>
  clear hstartH i0H j0H;obtain⟨i,j,A,L,R,B,rfl,rfl,hi1,hj1,him,hL,hR,hA,hrw,hTT,hs⟩:=hrel;have hl2:=hrw.sl.1;simp only[List.length_append]at hl2;have hmj:m+j≤n:=by omega
  rcases Nat.lt_trichotomy i j with hlt | heq | hgt
  ·have hne:((i:Int) != (j:Int))=true:=by simp;omega
   have hne2:¬ (i:Int)=(j:Int):=by omega
   have hg:¬ (j:Int)<(i:Int):=by omega
   have hb:=swapRange_any C b off n cap A L (R.take (j-i)) (R.drop (j-i)) B i (m-i) (m+j-i) g wr hA hL (by rw[List.length_drop];omega) (by rw[List.length_take];omega) hn (by simpa using hrw);have c1:(m:Int)-(i:Int)=((m-i:Nat):Int):=by omega
   have c2:(m:Int)+(j:Int)-(i:Int)=((m+j-i:Nat):Int):=by omega
   have R1:∀ w',RowI C w' b off n (A++R.drop (j-i)++R.take (j-i)++L++B)→Srt b wr w'→RtRel C T b off n m w (.int .i64 (i:Int)) (.int .i64 ((j:Int)-(i:Int))) w':=fun w' h1 h2=>by
    refine⟨i,j-i,A,R.drop (j-i),R.take (j-i),L++B,rfl,by go_num,hi1,by omega,him,by rw[List.length_drop];omega,by rw[List.length_take];omega,hA,by simpa using h1,?_,hs.trans h2⟩;rw[← hTT,List.append_assoc A,List.take_append_drop];simp
   obtain⟨hLH,hRH,hAH,hrwH,hTTH,hsH,hl2H,hbH,R1H,c1H,c2H⟩:=hq2 hL (hq2 hR (hqc hA hrw hTT hs hl2 hb R1 c1 (Lib.hid c2)));clear hL hR hA hrw hTT hs hl2 hb R1 c1 c2;go_wp2_with fail;rw[c1H.out,c2H.out];refine hbH.out.mono ?_;rintro e w1 ⟨rfl,hr1,hs1⟩;have R2:=R1H.out w1 hr1 hs1;clear hr1 hs1;have R2H:=Lib.hid R2;clear R2;go_wp2;refine⟨?rel,?measure⟩
   case measure=>(simp[intOf];omega)
   case rel=>first | exact R2H.out | exact⟨rfl,R2H.out⟩
  ·subst heq;have hne:((i:Int) != (i:Int))=false:=by simp
   have hb:=swapRange_any C b off n cap A L [] R B i (m-i) m g wr hA hL hR (by simp;omega) hn (by simpa using hrw);have c1:(m:Int)-(i:Int)=((m-i:Nat):Int):=by omega
   rw[show A++R ++ []++L++B=T by rw[← hTT];simp]at hb;obtain⟨hLH,hRH,hAH,hrwH,hTTH,hsH,hl2H,hbH,c1H⟩:=hqc hL hR hA hrw hTT hs hl2 hb (Lib.hid c1);clear hL hR hA hrw hTT hs hl2 hb c1;go_wp2_with fail;rw[c1H.out];refine hbH.out.mono ?_;rintro e w1 ⟨rfl,hr1,hs1⟩;have hs2:=hsH.out.trans hs1;clear hs1;obtain⟨hr1H,hs2H⟩:=hq2 hr1 (Lib.hid hs2);clear hr1 hs2;go_wp2
   go_end0
   exact⟨rfl,hr1H.out,hs2H.out⟩
  ·have hne:((i:Int) != (j:Int))=true:=by simp;omega
   have hne2:¬ (i:Int)=(j:Int):=by omega
   have hg:(j:Int)<(i:Int):=by omega
   have hb:=swapRange_any C b off n cap A (L.take j) (L.drop j) R B j (m-i) m g wr hA (by rw[List.length_take];omega) hR (by rw[List.length_drop];omega) hn (by rw[List.append_assoc A,List.take_append_drop];simpa using hrw);have c1:(m:Int)-(i:Int)=((m-i:Nat):Int):=by omega
   have R1:∀ w',RowI C w' b off n (A++R++L.drop j++L.take j++B)→Srt b wr w'→RtRel C T b off n m w (.int .i64 ((i:Int)-(j:Int))) (.int .i64 (j:Int)) w':=fun w' h1 h2=>by
    refine⟨i-j,j,A++R,L.drop j,L.take j,B,by go_num,rfl,by omega,hj1,by omega,by rw[List.length_drop];omega,by rw[List.length_take];omega,by rw[List.length_append];omega,h1,?_,hs.trans h2⟩;rw[← hTT,List.append_assoc (A++R),List.take_append_drop]
   obtain⟨hLH,hRH,hAH,hrwH,hTTH,hsH,hl2H,hbH,R1H,c1H⟩:=hq2 hL (hqc hR hA hrw hTT hs hl2 hb R1 (Lib.hid c1));clear hL hR hA hrw hTT hs hl2 hb R1 c1;go_wp2_with fail;rw[c1H.out];refine hbH.out.mono ?_;rintro e w1 ⟨rfl,hr1,hs1⟩;have R2:=R1H.out w1 hr1 hs1;clear hr1 hs1;have R2H:=Lib.hid R2;clear R2;go_wp2;refine⟨?rel,?measure⟩
   case measure=>(simp[intOf];omega)
   case rel=>first | exact R2H.out | exact⟨rfl,R2H.out⟩
end Go.Proofs.YtbnkoefljcekbaaGreatDoor
namespace Go.Proofs.YtbnkoefljcekbaaGreatDoor
open Go.RowKit
section
variable {P:Program} {ops:Array Oper} {Q:Exit→Act→World→Prop} {md:Region.Mode}
def wpAnyR (P:Program) (md:Region.Mode) (ops:Array Oper) (Q:Exit→Act→World→Prop) (R:Nat→World→World→Prop):Nat→Array Bool→Act→World→Prop
 | 0,listed,a,w=>Region.ready md ops listed = []∧Q .normal a w
 | fuel+1,listed,a,w =>
  (Region.ready md ops listed = []→Q .normal a w) ∧
  ∀ i∈Region.ready md ops listed,wpOp P ops Q i (fun a' w'=>R i w w'∧wpAnyR P md ops Q R fuel (listed.setIfInBounds i true) a' w') a w
theorem wpAny_of_R {R:Nat→World→World→Prop}:∀ (fuel:Nat) (listed:Array Bool) (a:Act) (w:World),wpAnyR P md ops Q R fuel listed a w→wpAny P md ops Q fuel listed a w
 | 0,_,_,_,h=>h
 | fuel+1,_,_,_,h=>⟨h.1,fun i hi=>wpOp_mono (fun a' w' h'=>wpAny_of_R fuel _ a' w' h'.2) (h.2 i hi)⟩
theorem wpAnyR_first {R:Nat→World→World→Prop} {Si:World→Prop} {i:Nat} {oi:Oper} {v:Value} (hi:ops[i]? = some oi) (hsel:∀ (j:Nat) (o:Oper) cs b,ops[j]? = some o→o.op≠.select cs b)
  (hQ:∀ c a w,Q (.panic c) (a.put oi.dst v) w→Q (.panic c) a w) (hR:∀ w,R i w w)
  (hw:∀ j oj,ops[j]? = some oj→(∀ e∈oj.after,Region.binds md e=true→e.on≠i)→∀ w w',R j w w'→Si w→Si w') :
  ∀ (fuel:Nat) (listed:Array Bool) (a:Act) (w:World),
   (∀ j oj,ops[j]? = some oj→j≠i→listed.getD j true=false→(∀ e∈oj.after,Region.binds md e=true→e.on≠i)→oi.apart ops oj=true) →
   i∈Region.ready md ops listed→YieldsIf P ops Si oi v a→Si w →
   wpAnyR P md ops Q R fuel (listed.setIfInBounds i true) (a.put oi.dst v) w→wpAnyR P md ops Q R (fuel+1) listed a w:=by
 intro fuel
 induction fuel with
 | zero =>
  intro listed a w _ hr hy hS H;refine⟨fun h=>(by rw[h]at hr;cases hr),fun j hj=>?_⟩
  by_cases hji:j=i
  ·subst hji;exact hy.wpOp hi hS ⟨hR _,H⟩
  ·have:=ready_mono hj hji;rw[H.1]at this
   cases this
 | succ fuel ih =>
  intro listed a w hfree hr hy hS H;refine⟨fun h=>(by rw[h]at hr;cases hr),fun j hj=>?_⟩
  by_cases hji:j=i
  ·subst hji;exact hy.wpOp hi hS ⟨hR _,H⟩
  ·have h1:=H.2 j (ready_mono hj hji);obtain⟨hjun,oj,hoj,hall⟩:=mem_ready.1 hj;have hnot:∀ e∈oj.after,Region.binds md e=true→e.on≠i:=fun e he hb heq=>by
    have h1:=hall e he hb;have h0:=(mem_ready.1 hr).1;rw[heq]at h1
    rcases Nat.lt_or_ge i listed.size with h' | h'
    ·simp[h']at h0 h1;rw[h0]at h1;cases h1
    ·simp[Array.getElem?_eq_none h']at h1
   have h2:=wpOp_putIf hoj (hfree j oj hoj hji hjun hnot) (fun cs b=>hsel i oi cs b hi) (fun cs b=>hsel j oj cs b hoj) hQ hy h1;have hfree':∀ k ok,ops[k]? = some ok→k≠i→(listed.setIfInBounds j true).getD k true=false →
     (∀ e∈ok.after,Region.binds md e=true→e.on≠i)→oi.apart ops ok=true:=fun k ok hk hki hun hno=>by
    refine hfree k ok hk hki ?_ hno
    by_cases hjk:j=k
    ·subst hjk;exact hjun
    ·rw[getD_set_ne true hjk]at hun;exact hun
   refine wpOp_mono (fun a' w' h3=>⟨h3.2.1,ih (listed.setIfInBounds j true) a' w' hfree' (ready_mono hr (Ne.symm hji)) h3.1 (hw j oj hoj hnot _ _ h3.2.1 hS) ?_⟩) h2;rw[Array.setIfInBounds_comm _ _ hji];exact h3.2.2
def Rk (F C:World→Prop) (j1 j2:Nat) (j:Nat) (w w':World):Prop:=(j≠j2→j≠j1→F w→F w')∧(j≠j2→C w→C w')
theorem Rk.refl {F C:World→Prop} {j1 j2 j:Nat} (w:World):Rk F C j1 j2 j w w:=⟨fun _ _ h=>h,fun _ h=>h⟩
def waits (md:Region.Mode) (ops:Array Oper) (j i:Nat):Bool:=match ops[j]? with
 | some o=>o.after.any fun e=>Region.binds md e&&e.on==i
 | none=>true
theorem waits_not {j i:Nat} {oj:Oper} (hj:ops[j]? = some oj) (h:waits md ops j i=true) (hn:∀ e∈oj.after,Region.binds md e=true→e.on≠i):False:=by
 unfold waits at h;rw[hj]at h;simp only[Array.any_eq_true,Bool.and_eq_true,beq_iff_eq]at h;obtain⟨k,hk,hb,he⟩:=h;exact hn _ (Array.getElem_mem hk) hb he
theorem takeF {F C:World→Prop} {j1 j2 i:Nat} {d:Option Tmp} {oi:Oper} {v:Value} {fuel:Nat} {listed:Array Bool} {a:Act} {w:World} (hi:ops[i]? = some oi) (hd:oi.dst=d)
  (hs:Region.noSelect ops=true) (hf:Region.free md ops listed i=true) (hr:(Region.ready md ops listed).contains i=true) (h1:waits md ops j1 i=true) (h2:waits md ops j2 i=true)
  (hQ:∀ c a w,Q (.panic c) (a.put d v) w→Q (.panic c) a w) (hy:YieldsIf P ops F oi v a) (hS:F w)
  (h:wpAnyR P md ops Q (Rk F C j1 j2) fuel (listed.setIfInBounds i true) (a.put d v) w):wpAnyR P md ops Q (Rk F C j1 j2) (fuel+1) listed a w:=by
 subst hd;refine wpAnyR_first (Si:=F) hi (Region.noSelect_spec hs) hQ Rk.refl (fun j oj hj hn w w' hw hF=>hw.1 (fun e=>?_) (fun e=>?_) hF) fuel listed a w (Region.free_spec hi hf) (by simpa using hr) hy hS h
 ·subst e;exact waits_not hj h2 hn
 ·subst e;exact waits_not hj h1 hn
def TF (L:List (Nat × Nat)) (p:Prop):Prop:=p
theorem tfS {p:Prop} (L:List (Nat × Nat)) (h:TF L p):p:=h
theorem tfE {p:Prop} (h:p):TF [] p:=h
theorem tfL {F C:World→Prop} {j1 j2 i dd:Nat} {L:List (Nat × Nat)} {oi:Oper} {v:Value} {fuel:Nat} {listed:Array Bool} {a:Act} {w:World} (hi:ops[i]? = some oi:=by rfl) (hd:oi.dst=some dd:=by rfl)
  (hs:Region.noSelect ops=true:=by kernel_rfl) (hf:Region.free md ops listed i=true:=by kernel_rfl) (hr:(Region.ready md ops listed).contains i=true:=by kernel_rfl) (h1:waits md ops j1 i=true:=by kernel_rfl) (h2:waits md ops j2 i=true:=by kernel_rfl)
  (hQ:∀ c a w,Q (.panic c) (a.put (some dd) v) w→Q (.panic c) a w:=by exact fun _ _ _ h=>h) (hy:YieldsIf P ops F oi v a) (hS:F w)
  (h:TF L (wpAnyR P md ops Q (Rk F C j1 j2) fuel (listed.setIfInBounds i true) (a.put (some dd) v) w)):TF ((i,dd)::L) (wpAnyR P md ops Q (Rk F C j1 j2) (fuel+1) listed a w) :=
 takeF hi hd hs hf hr h1 h2 hQ hy hS h
theorem oneR {R:Nat→World→World→Prop} {i:Nat} {o:Oper} {fuel:Nat} {listed:Array Bool} {a:Act} {w:World} (hr:Region.ready md ops listed = [i]) (ho:ops[i]? = some o)
  (h:∀ K':Act→World→Prop,Shut (∀ a' w',R i w w'→wpAnyR P md ops Q R fuel (listed.setIfInBounds i true) a' w'→K' a' w')→if Region.wanted o (yielded ops a.tmps)=true then Oper.wp P o a w K' Q else K' (a.put o.dst undef) w) :
  wpAnyR P md ops Q R (fuel+1) listed a w:=by
 refine⟨fun h0=>absurd (hr ▸ h0) (by simp),fun j hj=>?_⟩;rw[hr,List.mem_singleton]at hj;subst hj;exact wpOp_step ho (fun K' hK=>h K' (fun a' w' h1 h2=>hK a' w' ⟨h1,h2⟩))
theorem doneR {R:Nat→World→World→Prop} {listed:Array Bool} {a:Act} {w:World} (hr:Region.ready md ops listed = []) (h:Q .normal a w):∀ fuel,wpAnyR P md ops Q R fuel listed a w
 | 0=>⟨hr,h⟩
 | _+1=>⟨fun _=>h,by rw[hr];simp⟩
theorem startR {R:Nat→World→World→Prop} {id:Nat} {a:Act} {w:World} (hm:P.follows .mixedOrders=true)
  (h:wpAnyR P .any ops Q R ops.size (Array.replicate ops.size false) a w.drew):(Code.region id ops true).wp P Q a w :=
 wp_region_any hm (wpAny_of_R _ _ _ _ h)
end
end Go.Proofs.YtbnkoefljcekbaaGreatDoor
namespace Go.Proofs.YtbnkoefljcekbaaGreatDoor
open Go.ChangeShapes Go.WideShapes Go.Deep Go.RowKit
theorem run_copy_N {P:Program} (s:Nat) (w:World) (dT sT ty elem:TypeId) (b o dLen dCap:Nat) (a:Addr) (sLen sCap:Nat) (cs:List Value)
  (hu:P.underlying dT=some (.slice elem)) (hs:(P.info? elem).map (·.size)=some s) (m:Nat) (hm:m=Nat.min sLen dLen) (hn:cs.length=m*s)
  (hsrc:∀ j v,cs[j]? = some v→w.cell? (a.add j)=some v) (hc:∀ j,j<cs.length→(w.cell? ⟨b,o+j,none⟩).isSome=true) (hf:∀ j,j<cs.length→w.frozen? ⟨b,o+j,none⟩=false) (h1:∀ v∈cs,v.oneCell'=true) :
  (Builtin.copy_ #[dT,sT] ty #[.slice (some ⟨b,o,none⟩) dLen dCap,.slice (some a) sLen sCap]).run P w = .ok (goInt m) (w.setCells b o cs):=by
 have hl:=run_loadCells_list (P:=P) w a cs hsrc;have hst:=run_storeCells_cells (P:=P) b o cs 0 w (by simpa using hc) (by simpa using hf) h1
 cases hq:P.info? elem with
 | none=>simp[hq]at hs
 | some i =>
  have hi:i.size=s:=by simpa[hq]using hs
  rw[hn]at hl;simp[Builtin.copy_,run_underlying hu,Builtin.lenOf,Builtin.firstCells,sizeOf,typeInfo,hq,hi,← hm,hl,hst]
theorem set_take_drop (L:List Value) (o:Nat) (v:Value) (h:o<L.length) (k:Nat):(L.set o v).take (o+1)=L.take o ++ [v]∧(L.set o v).drop (o+1+k)=L.drop (o+1+k):=by
 constructor
 ·rw[List.set_eq_take_append_cons_drop,if_pos h,List.take_append,List.length_take,Nat.min_eq_left (Nat.le_of_lt h)];rw[List.take_of_length_le (by rw[List.length_take];omega),show o+1-o=1 by omega];rfl
 ·rw[List.drop_set_of_lt (by omega)]
theorem heap_setCells (g:Nat) (e:TypeId):∀ (vs:List Value) (o:Nat) (w:World) (cur:Array Value),w.heap[g]? = some (.cells cur e (0,0))→o+vs.length≤cur.size →
  ∃ cur',(w.setCells g o vs).heap[g]? = some (.cells cur' e (0,0))∧cur'.toList=cur.toList.take o++vs++cur.toList.drop (o+vs.length)
 | [],o,w,cur,h,_=>⟨cur,h,by simp⟩
 | v::r,o,w,cur,h,hl=>by
  rw[List.length_cons]at hl;have h1:=heap_setCell_same w g o cur e v h;obtain⟨cur',a,b⟩:=heap_setCells g e r (o+1) _ _ h1 (by simp;omega);refine⟨cur',a,?_⟩;rw[b,Array.toList_setIfInBounds];obtain⟨e1,e2⟩:=set_take_drop cur.toList o v (by simp;omega) r.length;rw[e1,e2,List.length_cons,show o+1+r.length=o+(r.length+1) by omega];simp
theorem grown_trans {a b c:World} {row:Option Nat} (h:a.grownBy b row) (h2:b.grownBy c row):a.grownBy c row :=
 ⟨h2.os.trans h.os,h2.tape.trans h.tape,h2.output.trans h.output,Nat.le_trans h.size h2.size,fun k hk hne=>(h2.block k (Nat.lt_of_lt_of_le hk h.size) hne).trans (h.block k hk hne)⟩
theorem grown_drew (a:World) (row:Option Nat):a.grownBy a.drew row:=⟨rfl,rfl,rfl,Nat.le_refl _,fun _ _ _=>rfl⟩
theorem grown_setCells (b:Nat):∀ (vs:List Value) (o:Nat) (w:World),w.grownBy (w.setCells b o vs) (some b)
 | [],_,w=>World.grownBy.refl _ _
 | v::r,o,w=>grown_trans (grown_setc w ⟨b,o,none⟩ v) (grown_setCells b r (o+1) _)
theorem put_up {w:World} {g:Nat} {e:TypeId} {cur:Array Value} {FX T vx FY:List Value} {o o2:Nat} (h:w.heap[g]? = some (.cells cur e (0,0))) (hc:cur.toList=FX++T) (ho:FX.length=o) (ho2:o2=o+vx.length) (hT:vx.length+FY.length≤T.length) :
  ∃ cur',((w.setCells g o2 FY).setCells g o vx).heap[g]? = some (.cells cur' e (0,0))∧cur'.size=cur.size∧cur'.toList.take (o+vx.length+FY.length)=FX++vx++FY:=by
 subst ho2;have hs:cur.size=o+T.length:=by rw[← Array.length_toList,hc,List.length_append,ho]
 obtain⟨c1,a1,b1⟩:=heap_setCells g e FY (o+vx.length) w cur h (by omega);have l1:c1.size=cur.size:=by rw[← Array.length_toList,b1];simp;omega
 obtain⟨c2,a2,b2⟩:=heap_setCells g e vx o _ c1 a1 (by omega);refine⟨c2,a2,?_,?_⟩
 ·rw[← Array.length_toList,b2];simp;omega
 ·have e1:c1.toList.take o=FX:=by
   rw[b1,hc,List.append_assoc,List.take_append_of_le_length (by simp;omega),List.take_take,Nat.min_eq_left (by omega),List.take_append_of_le_length (by omega),List.take_of_length_le (by omega)]
  have e2:c1.toList.drop (o+vx.length)=FY++cur.toList.drop (o+vx.length+FY.length):=by
   rw[b1,List.append_assoc,List.drop_append_of_le_length (by simp;omega)];rw[List.drop_of_length_le (by simp;omega),List.nil_append]
  rw[b2,e1,e2,← List.append_assoc,List.take_append_of_le_length (by simp;omega),List.take_of_length_le (by simp;omega)]
theorem put_in {w w1:World} {g:Nat} {e:TypeId} {cur:Array Value} {FX T vx FY:List Value} {o o2:Nat} (h:w.heap[g]? = some (.cells cur e (0,0))) (hc:cur.toList=FX++T) (ho:FX.length=o) (ho2:o2=o+vx.length) (hT:vx.length+FY.length≤T.length)
  (h1:w1.heap=(w.setCells g o vx).heap) :
  ∃ cur',(w1.setCells g o2 FY).heap[g]? = some (.cells cur' e (0,0))∧cur'.size=cur.size∧cur'.toList.take (o+vx.length+FY.length)=FX++vx++FY:=by
 subst ho2;have hs:cur.size=o+T.length:=by rw[← Array.length_toList,hc,List.length_append,ho]
 obtain⟨c1,a1,b1⟩:=heap_setCells g e vx o w cur h (by omega);have l1:c1.size=cur.size:=by rw[← Array.length_toList,b1];simp;omega
 rw[← h1]at a1;obtain⟨c2,a2,b2⟩:=heap_setCells g e FY (o+vx.length) _ c1 a1 (by omega);refine⟨c2,a2,?_,?_⟩
 ·rw[← Array.length_toList,b2];simp;omega
 ·have e1:c1.toList.take (o+vx.length)=FX++vx:=by
   rw[b1,List.take_append_of_le_length (by simp;omega),List.take_of_length_le (by simp;omega),hc,List.take_append_of_le_length (by omega),List.take_of_length_le (by omega)]
  rw[b2,e1,List.take_append_of_le_length (by simp;omega),List.take_of_length_le (by simp;omega)]
theorem flat_split {α:Type} (R:Rd α) (X Y:List α) (x:α):(X++x::Y).flatMap R.vals=X.flatMap R.vals++R.vals x++Y.flatMap R.vals:=by simp[List.flatMap_append,List.flatMap_cons]
theorem own_of {α:Type} {R:Rd α} {e:TypeId} {w:World} {base g cap n:Nat} {cur:Array Value} {l:List α} (hb:base≤g) (h:w.heap[g]? = some (.cells cur e (0,0))) (hl:l.length=n) (hn:n≤cap) (hc:cap≤maxLen) (hs:cur.size=cap*R.size)
  (ht:cur.toList.take (n*R.size)=l.flatMap R.vals) (hok:∀ x∈l,R.ok w x):Own R e w base (.slice (some ⟨g,0,none⟩) n cap) l:=by
 subst hl;exact⟨⟨flatMap_vals_length l,.inr ⟨g,cap,cur,rfl,hb,h,hn,hc,hs,ht⟩⟩,hok⟩
theorem own_block {α:Type} {R:Rd α} {e:TypeId} {w:World} {base n cap:Nat} {A:Option Addr} {l:List α} (h:Own R e w base (.slice A n cap) l) (hn:0<n) :
  ∃ g cur,A=some ⟨g,0,none⟩∧base≤g∧w.heap[g]? = some (.cells cur e (0,0))∧n≤cap∧cap≤maxLen∧cur.size=cap*R.size∧cur.toList.take (n*R.size)=l.flatMap R.vals:=by
 rcases h.1.2 with ⟨hv,_⟩ | ⟨g,cap',cur,hv,a,b,c,d,e1,f⟩
 ·injection hv with _ h2 _;omega
 ·injection hv with h1 h2 h3;subst h3;rw[h.len]at c f;exact⟨g,cur,h1,a,b,c,d,e1,f⟩
theorem shape_of {w:World} {g:Nat} {cs:Array Value} {e:TypeId} (h:w.heap[g]? = some (.cells cs e (0,0))):w.shape? g=some (e,cs.size):=by simp[World.shape?,h]
theorem size_of {P:Program} {e:TypeId} {i:TypeInfo} (h:P.info? e=some i) (w:World):(Go.sizeOf e).run P w = .ok i.size w:=by simp[Go.sizeOf,typeInfo,h]
end Go.Proofs.YtbnkoefljcekbaaGreatDoor
namespace Go.Proofs.YtbnkoefljcekbaaGreatDoor
section
variable {α:Type} {f:α→Int}
theorem ins_sorted {X Y:List α} {x:α} (h:SortedBy f (X++Y)) (hX:∀ a,X.getLast? = some a→f a≤f x) (hY:∀ y∈Y,f x<f y):SortedBy f (X++x::Y):=by
 unfold SortedBy at *;obtain⟨h1,h2,h3⟩:=List.pairwise_append.1 h;refine List.pairwise_append.2 ⟨h1,List.pairwise_cons.2 ⟨fun y hy=>Int.le_of_lt (hY y hy),h2⟩,fun a ha b hb=>?_⟩
 rcases List.mem_cons.1 hb with rfl | hb
 ·rcases List.eq_nil_or_concat X with rfl | ⟨X',z,rfl⟩
  ·cases ha
  ·have hz:=hX z (by simp);rw[List.concat_eq_append]at ha h1
   rcases List.mem_append.1 ha with ha | ha
   ·have:=(List.pairwise_append.1 h1).2.2 a ha z (by simp);exact Int.le_trans this hz
   ·rw[List.mem_singleton.1 ha];exact hz
 ·exact h3 a ha b hb
theorem ins_cls {X Y Z:List α} {x:α} (h:SameCls f (X++Y) Z) (hY:∀ y∈Y,f x<f y):SameCls f (X++x::Y) (Z ++ [x]):=fun v=>by
 have h1:=h v;unfold cls at *;rw[List.filter_append]at h1;rw[List.filter_append,List.filter_append,← h1,List.filter_cons,List.append_assoc]
 congr 1
 by_cases hv:f x=v
 ·subst hv;have:Y.filter (fun y=>f y==f x) = []:=List.filter_eq_nil_iff.2 fun y hy=>by have:=hY y hy;simp;omega
  rw[this];simp
 ·simp[hv]
theorem filter_sorted {L:List α} (p:α→Bool) (h:SortedBy f L):SortedBy f (L.filter p):=List.Pairwise.filter p h
theorem filter_cls {L Z:List α} (p:α→Bool) (h:SameCls f L Z):SameCls f (L.filter p) (Z.filter p):=fun v=>by
 have h1:=h v;unfold cls at *;rw[List.filter_filter,List.filter_filter];have e:∀ M:List α,M.filter (fun a=>(f a==v)&&p a)=(M.filter fun a=>f a==v).filter p:=fun M=>by
  rw[List.filter_filter]
  congr 1
  funext a
  rw[Bool.and_comm]
 rw[e,e,h1]
end
end Go.Proofs.YtbnkoefljcekbaaGreatDoor