/-
 Several texts of mine as one, without what is not wanted here: XMrgI, XStbI, XStbN, XFst, XRdy, XFstP.
-/
import Derived.Test.YtbnkoefljcekbaaGreatDoorPyIC9
import Derived.Laws.OwnMore
set_option linter.unusedVariables false
set_option linter.unusedSimpArgs false
set_option maxRecDepth 100000
set_option maxHeartbeats 8000000
namespace Go.Proofs.YtbnkoefljcekbaaGreatDoor.C9
open Go.ChangeShapes Go.WideShapes Go.Deep Go.RowKit
theorem merge_any (C:CC) (b off n cap:Nat) (hn:n≤1000000000):∀ k,MgHyp C b off n cap k:=by
 intro k
 induction k with
 | zero =>
  intro P L R S a m e w hP hm he hk h1 h2 hsL hsR hrow;exfalso;omega
 | succ k ih =>
  intro P L R S a m e w hP hm he hk h1 h2 hsL hsR hrow
  by_cases hl:L.length=1
  ·obtain⟨x,rfl⟩:=List.length_eq_one_iff.1 hl;exact merge1 C b off n cap P R S x a m e w hP (by rw[hm,hl]) he hn hsR hrow
  ·by_cases hr:R.length=1
   ·obtain⟨y,rfl⟩:=List.length_eq_one_iff.1 hr;exact merge2 C b off n cap P L S y a m e w hP hm (by omega) (by rw[he,hr]) hn hsL hrow
   ·exact merge3 C b off n cap k ih P L R S a m e w hP hm he hk (by omega) (by omega) hn hsL hsR hrow
def Blks (C:CC) (bs:Nat) (Bs:List (List Int)):Prop:=∀ x∈Bs,x.length=bs∧SortedBy (fI C) x
theorem Blks.app {C:CC} {bs:Nat} {Bs:List (List Int)} {x:List Int} (h:Blks C bs Bs) (h1:x.length=bs) (h2:SortedBy (fI C) x):Blks C bs (Bs ++ [x]):=fun y hy=>by
 rcases List.mem_append.1 hy with hy | hy
 ·exact h y hy
 ·rw[List.mem_singleton.1 hy];exact⟨h1,h2⟩
theorem flat_app (Bs:List (List Int)) (x:List Int):(Bs ++ [x]).flatten=Bs.flatten++x:=by simp
theorem Blks.two {C:CC} {bs:Nat} {Bs:List (List Int)} {T:List Int} (h:Blks C bs Bs) (hT:T.length<bs) (hl:2*bs≤(Bs.flatten++T).length):∃ x y Cs,Bs=x::y::Cs∧x.length=bs∧y.length=bs∧SortedBy (fI C) x∧SortedBy (fI C) y∧Blks C bs Cs:=by
 match Bs,h with
 | [],_=>simp at hl;omega
 | [x],h=>have:=(h x (by simp)).1;simp at hl;omega
 | x::y::Cs,h=>exact⟨x,y,Cs,rfl,(h x (by simp)).1,(h y (by simp)).1,(h x (by simp)).2,(h y (by simp)).2,fun z hz=>h z (by simp[hz])⟩
theorem Blks.few {C:CC} {bs:Nat} {Bs:List (List Int)} {T:List Int} (h:Blks C bs Bs) (hb:0<bs) (hl:(Bs.flatten++T).length<2*bs):Bs = []∨∃ x,Bs = [x]∧x.length=bs∧SortedBy (fI C) x:=by
 match Bs,h with
 | [],_=>exact .inl rfl
 | [x],h=>exact .inr ⟨x,rfl,(h x (by simp)).1,(h x (by simp)).2⟩
 | x::y::Cs,h =>
  have h1:=(h x (by simp)).1;have h2:=(h y (by simp)).1;simp only[List.flatten_cons,List.length_append]at hl;omega
def St1 (C:CC) (D0:List Int) (b off n:Nat) (w0:World) (va vb:Value) (wr:World):Prop :=
 ∃ (Bs:List (List Int)) (T:List Int) (a e:Nat),Blks C 20 Bs∧Bs.flatten.length=a∧a+20=e∧va = .int .i64 (a:Int)∧vb = .int .i64 (e:Int)∧SameCls (fI C) (Bs.flatten++T) D0∧RowI C wr b off n (Bs.flatten++T)∧Srt b w0 wr
def St2 (C:CC) (D0:List Int) (b off n:Nat) (w0:World) (vs:Value) (wr:World):Prop :=
 ∃ (bs:Nat) (Bs:List (List Int)) (T:List Int),0<bs∧bs≤2*n+20∧vs = .int .i64 (bs:Int)∧Blks C bs Bs∧T.length<bs∧SortedBy (fI C) T∧SameCls (fI C) (Bs.flatten++T) D0∧RowI C wr b off n (Bs.flatten++T)∧Srt b w0 wr
def St3 (C:CC) (D0:List Int) (bs b off n:Nat) (w0:World) (va vb:Value) (wr:World):Prop :=
 ∃ (Ds Bs:List (List Int)) (T:List Int) (a e:Nat),Blks C (2*bs) Ds∧Blks C bs Bs∧T.length<bs∧SortedBy (fI C) T∧Ds.flatten.length=a∧a+2*bs=e∧va = .int .i64 (a:Int)∧vb = .int .i64 (e:Int)∧SameCls (fI C) (Ds.flatten++Bs.flatten++T) D0∧RowI C wr b off n (Ds.flatten++Bs.flatten++T)∧Srt b w0 wr
theorem stable_cmp (C:CC) (b off n cap:Nat) (D:List Int) (w:World) (hn:n≤1000000000) (hrow:RowI C w b off n D) :
  Calls Tryz.prog 204 #[.slice (some ⟨b,off,none⟩) n cap,.int .i64 n,(gI C)] w fun e w'=>e = .returned (.tuple #[])∧∃ M,SortedBy (fI C) M∧SameCls (fI C) M D∧RowI C w' b off n M∧Srt b w w':=by
 have hstart:St1 C D b off n w (.int .i64 0) (.int .i64 20) w:=⟨[],D,0,20,(fun x hx=>(by cases hx)),rfl,rfl,by go_num,by go_num,SameCls.refl _,hrow,World.grownBy.refl _ _⟩;have him:∀ k,MgHyp C b off n cap k:=merge_any C b off n cap hn;unfold MgHyp at him;have hins:∀ (P M S:List Int) (a e:Nat) (w:World),P.length=a→e=a+M.length→RowI C w b off n (P++M++S) →
  Calls Tryz.prog 222 #[.slice (some ⟨b,off,none⟩) n cap,.int .i64 a,.int .i64 e,(gI C)] w fun e w'=>e = .returned (.tuple #[])∧∃ M',SortedBy (fI C) M'∧SameCls (fI C) M' M∧RowI C w' b off n (P++M'++S)∧Srt b w w':=fun P M S a e w hP he hr=>insertion_any C b off n cap P M S a e w hP he hn hr
 unfold gI at him hins;unfold gI;obtain⟨hrowH,hstartH,himH,hinsH⟩:=hq2 hrow (hq2 hstart (hq2 him (Lib.hid hins)));clear hrow hstart him hins;go_enter Tryz.func204,Tryz.ntmps204;go_wp2_with fail
 go_loopw [7,8] (fun va vb wr=>St1 C D b off n w va vb wr) (fun _ vb _=>(n+21)-(intOf vb).toNat)
 case atStart=>exact hstartH.out
 case round =>
  clear hstartH;obtain⟨Bs,T,a,e,hB,hBl,hae,rfl,rfl,hcl,hrw,hs⟩:=hrel;have hl:=hrw.sl.1;rw[List.length_append]at hl
  by_cases hen:e≤n
  ·have heni:(e:Int)≤(n:Int):=by omega
   have lM:(T.take 20).length=20:=by rw[List.length_take];omega
   have hcall:=hinsH.out Bs.flatten (T.take 20) (T.drop 20) a e wr hBl (by omega) (by rw[List.append_assoc,List.take_append_drop];exact hrw);have hae1:a<e:=by omega
   obtain⟨hBH,hBlH,haeH,hclH,hrwH,hsH,hlH,lMH,hcallH⟩:=hqc hB hBl hae hcl hrw hs hl lM (Lib.hid hcall);clear hB hBl hae hcl hrw hs hl lM hcall;go_wp2_with fail;refine hcallH.out.mono ?_;rintro e' w2 ⟨rfl,M',q1,c1,hrw2,hs2⟩;have R1:St1 C D b off n w (.int .i64 (e:Int)) (.int .i64 ((e:Int)+20)) w2:=by
    have lM':M'.length=20:=c1.len.trans lMH.out;refine⟨Bs ++ [M'],T.drop 20,e,e+20,hBH.out.app lM' q1,?_,rfl,rfl,by go_num,?_,by rw[flat_app];exact hrw2,hsH.out.trans hs2⟩
    ·rw[flat_app,List.length_append];have:=hBlH.out;have:=haeH.out;omega
    ·rw[flat_app];refine SameCls.trans ?_ hclH.out;rw[List.append_assoc];refine(SameCls.refl _).app ?_;have:=c1.app (SameCls.refl (f:=fI C) (T.drop 20))
     rwa [List.take_append_drop]at this
   clear q1 c1 hrw2 hs2;have R1H:=Lib.hid R1;clear R1;go_wp2;refine⟨?rel,?measure⟩
   case measure=>(simp[intOf];omega)
   case rel=>first | exact R1H.out | exact⟨rfl,R1H.out⟩
  ·have heni:¬ (e:Int)≤(n:Int):=by omega
   have hcall:=hinsH.out Bs.flatten T [] a n wr hBl (by omega) (by rw[List.append_nil];exact hrw);have lT:T.length<20:=by omega
   have han:a≤n:=by omega
   obtain⟨hBH,hBlH,haeH,hclH,hrwH,hsH,hlH,lTH,hcallH⟩:=hqc hB hBl hae hcl hrw hs hl lT (Lib.hid hcall);clear hB hBl hae hcl hrw hs hl lT hcall;go_wp2_with fail;refine hcallH.out.mono ?_;rintro e' w2 ⟨rfl,T',q1,c1,hrw2,hs2⟩;have hst:St2 C D b off n w (.int .i64 20) w2:=by
    refine⟨20,Bs,T',by omega,by omega,by go_num,hBH.out,by rw[c1.len];exact lTH.out,q1,?_,by rw[List.append_nil]at hrw2;exact hrw2,hsH.out.trans hs2⟩;exact((SameCls.refl _).app c1).trans hclH.out
   clear q1 c1 hrw2 hs2;have hstH:=Lib.hid hst;clear hst;go_wp2_with fail;clear hcallH hrwH hsH hclH hlH lTH hBH hBlH haeH
   go_loopw [6] (fun vs wr=>St2 C D b off n w vs wr) (fun vs _=>n-(intOf vs).toNat)
   case atStart=>exact hstH.out
   case round =>
    clear hstH;obtain⟨bs,Bs,T,hb0,hbn,rfl,hB,hT,hsT,hcl,hrw,hs⟩:=hrel;have hl:=hrw.sl.1;rw[List.length_append]at hl
    by_cases hlt:bs<n
    ·have hlti:(bs:Int)<(n:Int):=by omega
     obtain⟨B2,hB2⟩:∃ B2,2*bs=B2:=⟨_,rfl⟩;have hB2i:2*(bs:Int)=(B2:Int):=by omega
     have hB2b:B2≤2000000000:=by omega
     have hst:St3 C D bs b off n w (.int .i64 0) (.int .i64 (B2:Int)) wr:=⟨[],Bs,T,0,2*bs,fun x hx=>(by cases hx),hB,hT,hsT,rfl,by omega,by go_num,by go_num,by simpa using hcl,by simpa using hrw,hs⟩;obtain⟨hBH,hTH,hsTH,hclH,hrwH,hsH,hlH,hstH,hB2H⟩:=hqc hB hT hsT hcl hrw hs hl hst (Lib.hid hB2);clear hB hT hsT hcl hrw hs hl hst hB2;go_wp2_with fail;clear hBH hTH hsTH hclH hrwH hsH hlH
     go_loopw [7,8] (fun va vb wr=>St3 C D bs b off n w va vb wr) (fun _ vb _=>(n+1)-(intOf vb).toNat)
     case atStart=>exact hstH.out
     case round =>
      clear hstH;obtain⟨Ds,Bs,T,a,e,hD,hB,hT,hsT,hDl,hae,rfl,rfl,hcl,hrw,hs⟩:=hrel;have hl:=hrw.sl.1;rw[List.append_assoc,List.length_append]at hl;obtain⟨m,hm⟩:∃ m,a+bs=m:=⟨_,rfl⟩;have hmi:(a:Int)+(bs:Int)=(m:Int):=by omega
      have hem:e=m+bs:=by omega
      by_cases hen:e≤n
      ·have heni:(e:Int)≤(n:Int):=by omega
       obtain⟨x,y,Cs,rfl,lx,ly,sx,sy,hC⟩:=hB.two hT (by omega);have hcall:=himH.out (e-a) Ds.flatten x y (Cs.flatten++T) a m e wr hDl (by omega) (by omega) (Nat.le_refl _) (by omega) (by omega) sx sy (by simpa using hrw);have heb:e≤1000000000:=by omega
       have hmb:m≤1000000000:=by omega
       have R0:∀ M',SortedBy (fI C) M'→SameCls (fI C) M' (x++y)→∀ w2,RowI C w2 b off n (Ds.flatten++M'++(Cs.flatten++T))→Srt b wr w2→St3 C D bs b off n w (.int .i64 (e:Int)) (.int .i64 ((e:Int)+(B2:Int))) w2:=fun M' q1 c1 w2 h1 h2=>by
        have hB2:=hB2H.out;have lM':M'.length=2*bs:=by rw[c1.len,List.length_append];omega
        refine⟨Ds ++ [M'],Cs,T,e,e+2*bs,hD.app lM' q1,hC,hT,hsT,?_,rfl,rfl,by go_num,?_,by rw[flat_app];simpa using h1,hs.trans h2⟩
        ·rw[flat_app,List.length_append];omega
        ·rw[flat_app];refine SameCls.trans ?_ hcl;have:=((SameCls.refl (f:=fI C) Ds.flatten).app c1).app (SameCls.refl (f:=fI C) (Cs.flatten++T))
         simpa using this
       obtain⟨hDH,hTH,hsTH,hDlH,haeH,hclH,hrwH,hsH,hlH,lxH,lyH,sxH,syH,hCH,hcallH,R0H,hmH,hemH⟩:=hq2 hD (hqc hT hsT hDl hae hcl hrw hs hl (hqc lx ly sx sy hC hcall R0 hm (Lib.hid hem)));clear hD hT hsT hDl hae hcl hrw hs hl lx ly sx sy hC hcall R0 hm hem;go_wp2_with fail;refine hcallH.out.mono ?_;rintro e' w2 ⟨rfl,M',q1,c1,hrw2,hs2⟩;have R1:=R0H.out M' q1 c1 w2 hrw2 hs2;clear q1 c1 hrw2 hs2;have R1H:=Lib.hid R1;clear R1;go_wp2;refine⟨?rel,?measure⟩
       case measure=>exact(by simp[intOf];omega)
       case rel=>first | exact R1H.out | exact⟨rfl,R1H.out⟩
      ·have heni:¬ (e:Int)≤(n:Int):=by omega
       have han:a≤n:=by omega
       have hmb:m≤4000000000:=by omega
       have hfew:=hB.few (T:=T) hb0 (by omega)
       by_cases hmn:m<n
       ·have hmni:(m:Int)<(n:Int):=by omega
        obtain⟨x,rfl,lx,sx⟩:∃ x,Bs = [x]∧x.length=bs∧SortedBy (fI C) x:=by
         rcases hfew with rfl | h
         ·simp only[List.flatten_nil,List.nil_append]at hl;omega
         ·exact h
        simp only[List.flatten_cons,List.flatten_nil,List.append_nil,List.length_append]at hl hrw hcl;have hcall:=himH.out (n-a) Ds.flatten x T [] a m n wr hDl (by omega) (by omega) (Nat.le_refl _) (by omega) (by omega) sx hsT (by rw[List.append_nil];exact hrw);have R0:∀ M',SortedBy (fI C) M'→SameCls (fI C) M' (x++T)→∀ w2,RowI C w2 b off n (Ds.flatten++M' ++ [])→Srt b wr w2→St2 C D b off n w (.int .i64 ((bs:Int)*2)) w2:=fun M' q1 c1 w2 h1 h2=>by
         refine⟨2*bs,Ds,M',by omega,by omega,by congr 1;omega,hD,by rw[c1.len,List.length_append];omega,q1,?_,by rw[List.append_nil]at h1;exact h1,hs.trans h2⟩;refine SameCls.trans ?_ hcl;rw[List.append_assoc];exact(SameCls.refl _).app c1
        clear hfew;obtain⟨hDH,hBH,hTH,hsTH,hDlH,haeH,hclH,hrwH,hsH,hlH,lxH,sxH,hcallH,R0H,hmH,hemH⟩:=hq2 hD (hq2 hB (hq2 hT (hqb hsT hDl hae hcl (hqc hrw hs hl lx sx hcall R0 hm (Lib.hid hem)))));clear hD hB hT hsT hDl hae hcl hrw hs hl lx sx hcall R0 hm hem;go_wp2_with fail;refine hcallH.out.mono ?_;rintro e' w2 ⟨rfl,M',q1,c1,hrw2,hs2⟩;have R1:=R0H.out M' q1 c1 w2 hrw2 hs2;clear q1 c1 hrw2 hs2;have R1H:=Lib.hid R1;clear R1;go_wp2;refine⟨?rel,?measure⟩
        case measure=>exact(by simp[intOf];omega)
        case rel=>first | exact R1H.out | exact⟨rfl,R1H.out⟩
       ·have hmni:¬ (m:Int)<(n:Int):=by omega
        have R1:St2 C D b off n w (.int .i64 ((bs:Int)*2)) wr:=by
         rcases hfew with rfl | ⟨x,rfl,lx,sx⟩
         ·exact⟨2*bs,Ds,T,by omega,by omega,by congr 1;omega,hD,by omega,hsT,by simpa using hcl,by simpa using hrw,hs⟩
         ·simp only[List.flatten_cons,List.flatten_nil,List.append_nil,List.length_append]at hl hrw hcl;obtain rfl:T = []:=List.eq_nil_of_length_eq_zero (by omega);exact⟨2*bs,Ds,x,by omega,by omega,by congr 1;omega,hD,by omega,sx,by simpa using hcl,by simpa using hrw,hs⟩
        clear hfew;obtain⟨hDH,hBH,hTH,hsTH,hDlH,haeH,hclH,hrwH,hsH,hlH,R1H,hmH,hemH⟩:=hqb hD hB hT hsT (hqc hDl hae hcl hrw hs hl R1 hm (Lib.hid hem));clear hD hB hT hsT hDl hae hcl hrw hs hl R1 hm hem;go_wp2;refine⟨?rel,?measure⟩
        case measure=>exact(by simp[intOf];omega)
        case rel=>first | exact R1H.out | exact⟨rfl,R1H.out⟩
    ·have hlti:¬ (bs:Int)<(n:Int):=by omega
     have hfin:∃ M,SortedBy (fI C) M∧SameCls (fI C) M D∧RowI C wr b off n M:=by
      rcases hB.few (T:=T) hb0 (by rw[List.length_append];omega) with rfl | ⟨x,rfl,lx,sx⟩
      ·exact⟨T,hsT,by simpa using hcl,by simpa using hrw⟩
      ·simp only[List.flatten_cons,List.flatten_nil,List.append_nil]at hl hrw hcl;obtain rfl:T = []:=List.eq_nil_of_length_eq_zero (by omega);exact⟨x,sx,by simpa using hcl,by simpa using hrw⟩
     obtain⟨hBH,hTH,hsTH,hclH,hrwH,hsH,hlH,hfinH⟩:=hq2 hB (hq2 hT (hq2 hsT (hqb hcl hrw hs hl (Lib.hid hfin))));clear hB hT hsT hcl hrw hs hl hfin;go_wp2
     go_end0
     obtain⟨M,q1,q2,q3⟩:=hfinH.out;exact⟨rfl,M,q1,q2,q3,hsH.out⟩
theorem stable_any (C:CC) (b off n cap:Nat) (D:List Int) (w:World) (hn:n≤1000000000) (hrow:RowI C w b off n D) :
  Calls Tryz.prog 158 #[.slice (some ⟨b,off,none⟩) n cap,(gI C)] w fun e w'=>e = .returned (.tuple #[])∧∃ M,SortedBy (fI C) M∧SameCls (fI C) M D∧RowI C w' b off n M∧Srt b w w':=by
 have h:=stable_cmp C b off n cap D w hn hrow;unfold gI at h;unfold gI;have hH:=Lib.hid h;clear h;go_enter Tryz.func158,Tryz.ntmps158;go_wp2_with fail;refine hH.out.mono ?_;rintro e w1 ⟨rfl,h1⟩;have hf:=h1;clear h1;have hfH:=Lib.hid hf;clear hf;go_wp2
 go_end0
 exact⟨rfl,hfH.out⟩
theorem ins_nil (C:CC) (w:World):Calls Tryz.prog 222 #[.slice none 0 0,.int .i64 0,.int .i64 0,(gI C)] w fun e w'=>e = .returned (.tuple #[])∧w'=w:=by
 unfold gI;go_enter Tryz.func222,Tryz.ntmps222;go_wp2
 go_loopw [8] (fun i wr=>i = .int .i64 1∧wr=w) (fun i _=>0)
 case atStart=>exact⟨rfl,rfl⟩
 case round =>
  obtain⟨rfl,rfl⟩:=hrel;go_wp2
  go_end0
  exact⟨rfl,rfl⟩
theorem stcmp_nil (C:CC) (w:World):Calls Tryz.prog 204 #[.slice none 0 0,.int .i64 0,(gI C)] w fun e w'=>e = .returned (.tuple #[])∧w'=w:=by
 have hi:=fun w=>ins_nil C w;unfold gI at hi;unfold gI;have hiH:=Lib.hid hi;clear hi;go_enter Tryz.func204,Tryz.ntmps204;go_wp2
 go_loopw [7,8] (fun va vb wr=>va = .int .i64 0∧vb = .int .i64 20∧wr=w) (fun _ vb _=>0)
 case atStart=>exact⟨rfl,rfl,rfl⟩
 case round =>
  obtain⟨rfl,rfl,rfl⟩:=hrel;go_wp2_with fail;refine(hiH.out _).mono ?_;rintro e w2 ⟨rfl,rfl⟩;go_wp2
  go_loopw [6] (fun vs wr=>vs = .int .i64 20∧wr=w2) (fun vs _=>0)
  case atStart=>exact⟨rfl,rfl⟩
  case round =>
   obtain⟨rfl,rfl⟩:=hrel;go_wp2
   go_end0
   exact⟨rfl,rfl⟩
theorem stable_nil (C:CC) (w:World):Calls Tryz.prog 158 #[.slice none 0 0,(gI C)] w fun e w'=>e = .returned (.tuple #[])∧w'=w:=by
 have hi:=fun w=>stcmp_nil C w;unfold gI at hi;unfold gI;have hiH:=Lib.hid hi;clear hi;go_enter Tryz.func158,Tryz.ntmps158;go_wp2_with fail;refine(hiH.out _).mono ?_;rintro e w1 ⟨rfl,rfl⟩;go_wp2
 go_end0
 exact⟨rfl,rfl⟩
def PredN (g:Nat) (lb:Array Value) (p:Nat→Bool) (N:Nat) (w:World):Prop :=
 ∀ (W:World) (k:Nat),k<N→Below w.heap.size w W→Calls Tryz.prog g (#[.int .i64 k]++lb) W fun e w'=>e = .returned (.bool (p k))∧Below W.heap.size W w'
def upN (p:Nat→Bool) (k:Nat):List Nat:=(List.range k).filter p
theorem upN_succ (p:Nat→Bool) (k:Nat):upN p (k+1)=if p k=true then upN p k ++ [k] else upN p k:=by
 unfold upN;rw[List.range_succ,List.filter_append]
 by_cases h:p k=true
 ·simp[h]
 ·simp[h]
theorem upN_len (p:Nat→Bool) (k:Nat):(upN p k).length≤k:=by
 have:=List.length_filter_le p (List.range k);rw[List.length_range]at this;exact this
def CrBox (S:List Int) (CB N:Nat) (w:World):CC:=⟨S,w.heap.size,CB,N⟩
def FsR (p:Nat→Bool) (S:List Int) (CB N:Nat) (w:World) (v i:Value) (wr:World):Prop :=
 ∃ (k:Nat) (A':Option Addr) (n' c':Nat),k≤N∧i = .int .i64 k∧v = .slice A' n' c'∧Own RInt 3 wr (w.heap.size+1) v (nz (upN p k))∧Below w.heap.size w wr∧CrAt (CrBox S CB N w) wr∧w.heap.size+1≤wr.heap.size
structure RdC (P Q DB N c:Nat) (A:Option Addr) (f:Nat→Bool) (W:World):Prop where
 c0:W.cell? ⟨P,0,none⟩=some (.slice A N c)
 cD:W.cell? ⟨Q,0,none⟩=some (.slice (some ⟨DB,0,none⟩) N N)
 row:BRow W DB N f
 lt:DB<W.heap.size
theorem RdC.below {P Q DB N c:Nat} {A:Option Addr} {f:Nat→Bool} {W W':World} (h:RdC P Q DB N c A f W) (hb:Below W.heap.size W W'):RdC P Q DB N c A f W' :=
 ⟨(hb.cell (cell?_lt h.c0)).trans h.c0,(hb.cell (cell?_lt h.cD)).trans h.cD,h.row.below hb h.lt,Nat.lt_of_lt_of_le h.lt hb.size⟩
theorem rdy1_any (P Q DB N c:Nat) (A:Option Addr) (f:Nat→Bool) (l:List Work) (s:ByteArray) (W:World) (hN:N≤1000) (hF:RdC P Q DB N c A f W) (hl:SlAt RWork W A N l) (hr:l.Pairwise fun a b=>cmpS a.id_ b.id_ = -1) (hs:hasId l s=true) :
  Calls Tryz.prog 154 #[.string s,.pointer (some ⟨P,0,none⟩),.pointer (some ⟨Q,0,none⟩)] W fun e w'=>e = .returned (.bool (!f (ixOf l s)))∧Below W.heap.size W w':=by
 have c0:=hF.c0;have hll:=hl.1;obtain⟨k,hk⟩:∃ k,ixOf l s=k:=⟨_,rfl⟩;have hkl:k<N:=by rw[← hk,← hll];exact ixOf_lt hs
 rw[hk];obtain⟨u,hu⟩:∃ u,f k=u:=⟨_,rfl⟩;rw[hu];obtain⟨hFH,hlH,hrH,hsH,hkH,huH⟩:=hq2 hF (hqb hl hr hs hk (Lib.hid hu));clear hF hl hr hs hk hu;go_enter Tryz.func154,Tryz.ntmps154;go_wp2_with fail;refine(workAt_any A N c l s _ hN hlH.out hrH.out).mono ?_;rintro e w1 ⟨i,rfl,hi,hb⟩;rw[hsH.out];obtain rfl:i=k:=(hi hsH.out).trans hkH.out;have hF1:=hFH.out.below hb;have cD:=hF1.cD;have cR:=(hF1.row i hkl).1;rw[huH.out]at cR;clear hi c0;obtain⟨hF1H,hbH⟩:=hq2 hF1 (Lib.hid hb);clear hF1 hb;go_wp2;go_ret;exact⟨rfl,hbH.out⟩
def rdP (l:List Work) (f:Nat→Bool) (k:Nat):Bool:=(gOf l k).all f
theorem rdP_get {l:List Work} {f:Nat→Bool} {k:Nat} {x:Work} (hx:l[k]? = some x) {b:Bool} (hb:x.after.l.any (fun s=>!f (ixOf l s))=b):rdP l f k = !b:=by
 unfold rdP;rw[gOf_get hx,List.all_map,← hb,List.not_any_eq_all_not];simp[Function.comp_def]
theorem ready_any (DB N c:Nat) (A:Option Addr) (f:Nat→Bool) (l:List Work) (k:Nat) (w:World) (hN:N≤1000) (hrow:BRow w DB N f) (hDB:DB<w.heap.size) (hl:SlAt RWork w A N l) (hok:WOk l) (hk:k<N) :
  Calls Tryz.prog 106 #[.slice A N c,.int .i64 k,.slice (some ⟨DB,0,none⟩) N N] w fun e w'=>e = .returned (.bool (rdP l f k))∧Below w.heap.size w w':=by
 have hll:=hl.1;have eg:∀ args w,(callFunc 154 args).run Tryz.prog w = .ok (.enter 154 args) w:=enters_of Tryz.func154 (by kernel_rfl) rfl;obtain⟨b,off,hA,_⟩:=hl.2.1 (by omega);subst hA;obtain⟨x,hx⟩:∃ x,l[k]? = some x:=⟨l[k]'(by omega),List.getElem?_eq_getElem _⟩;obtain⟨W,hW⟩:∃ X,(w.alloc (.cells #[.slice (some ⟨b,off,none⟩) N c] 23)).alloc (.cells #[.slice (some ⟨DB,0,none⟩) N N] 59)=X:=⟨_,rfl⟩;have hb:Below w.heap.size w W:=by rw[← hW];exact((Below.refl _ _).alloc (Nat.le_refl _) _).alloc (by simp) _
 have hF:RdC w.heap.size (w.heap.size+1) DB N c (some ⟨b,off,none⟩) f W:=by
  have b0:=(Boxed.new w 23 (.slice (some ⟨b,off,none⟩) N c)).alloc (.cells #[.slice (some ⟨DB,0,none⟩) N N] 59);have b1:=Boxed.new (w.alloc (.cells #[.slice (some ⟨b,off,none⟩) N c] 23)) 59 (.slice (some ⟨DB,0,none⟩) N N);rw[World.size_alloc]at b1;rw[hW]at b0 b1;exact⟨b0.cell,b1.cell,hrow.below hb hDB,Nat.lt_of_lt_of_le hDB hb.size⟩
 obtain⟨d0,d1,d2,d3⟩:=cells_Work (hl.below hb) hx;have hxm:=List.mem_of_getElem? hx;have hxa:=(hl.2.2 x hxm).2.2.2;have hxn:x.after.n≤9223372036854775807:=Nat.le_trans hxa.2.1 hxa.2.2.1;have hsl:=hxa.1.below hb;obtain⟨pb,hpb⟩:∃ b,x.after.l.any (fun s=>!f (ixOf l s))=b:=⟨_,rfl⟩;have hpred:PredL 154 #[.pointer (some ⟨w.heap.size,0,none⟩),.pointer (some ⟨w.heap.size+1,0,none⟩)] (fun s=>!f (ixOf l s)) x.after.l W:=fun W' s hs hW' =>
  rdy1_any _ _ DB N c _ f l s W' hN (hF.below hW') ((hl.below hb).below hW') hok.rise (allThere_get hok.all hx hs)
 have hrp:=rdP_get hx hpb;rw[hrp];have c0:=hF.c0;obtain⟨hlH,hokH,hxH,hbH,hFH,hxaH,hslH,hpbH,hpredH,hrpH,hrowH⟩:=hq2 hl (hq2 hok (hqc hx hb hF hxa hsl hpb hpred hrp (Lib.hid hrow)));clear hl hok hx hb hF hxa hsl hpb hpred hrp hrow;go_enter Tryz.func106,Tryz.ntmps106;go_wp2_with fail;refine(containsFunc_any 154 #[.pointer (some ⟨w.heap.size,0,none⟩),.pointer (some ⟨w.heap.size+1,0,none⟩)] eg (fun s=>!f (ixOf l s)) x.after.A x.after.n x.after.cap x.after.l _ hslH.out hxn hpredH.out pb hpbH.out).mono ?_;rintro e w5 ⟨rfl,hw5⟩;have hb5:=hbH.out.trans (hw5.mono hbH.out.size);clear hw5;have hb5H:=Lib.hid hb5;clear hb5;go_wp2;go_ret;exact⟨rfl,hb5H.out⟩
theorem keepC {W w':World} {a:Addr} {v:Value} (hb:Below W.heap.size W w') (h:W.cell? a=some v):w'.cell? a=some v:=(hb.cell (cell?_lt h)).trans h
end Go.Proofs.YtbnkoefljcekbaaGreatDoor.C9