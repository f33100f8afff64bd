/-
 Several texts of mine as one, without what is not wanted here: XNdA, XNdB, XInsV.
-/
import Derived.Test.YtpdjjjiknijpkaaGreatDoorTvGd
import Derived.Test.YtpdjjjiknijpkaaGreatDoorTvBC10
import Derived.Lib.SmallJoins
set_option linter.unusedVariables false
set_option linter.unusedSimpArgs false
set_option maxRecDepth 100000
set_option maxHeartbeats 8000000
namespace Go.Proofs.YtpdjjjiknijpkaaGreatDoor.C10
open Go.ChangeShapes Go.WideShapes Go.Deep Go.RowKit Go.Lib
theorem flat_set {α:Type} {R:Rd α}:∀ (l:List α) (k j:Nat) (x x':α) (v:Value),l[k]? = some x→j<R.size→R.vals x'=(R.vals x).set j v→(l.set k x').flatMap R.vals=(l.flatMap R.vals).set (k*R.size+j) v
 | [],k,j,x,x',v,h,_,_=>by simp at h
 | y::l,0,j,x,x',v,h,hj,hv=>by
  injection h with h;subst h;rw[List.set_cons_zero,List.flatMap_cons,List.flatMap_cons,Nat.zero_mul,Nat.zero_add,List.set_append_left _ _ (by rw[R.len];exact hj),hv]
 | y::l,k+1,j,x,x',v,h,hj,hv=>by
  have ih:=flat_set l k j x x' v h hj hv;have e:(k+1)*R.size+j=(R.vals y).length+(k*R.size+j):=by rw[R.len,Nat.succ_mul];omega
  rw[List.set_cons_succ,List.flatMap_cons,List.flatMap_cons,ih,e,List.set_append_right _ _ (by omega),Nat.add_sub_cancel_left]
theorem own_setc {α:Type} {R:Rd α} {e:TypeId} {w:World} {base g n cap:Nat} {l:List α} (h:Own R e w base (.slice (some ⟨g,0,none⟩) n cap) l) {k j:Nat} {x x':α} (hx:l[k]? = some x) (hj:j<R.size) {v:Value} (hv:R.vals x'=(R.vals x).set j v)
  (hok:∀ y∈l.set k x',R.ok (w.setCell ⟨g,k*R.size+j,none⟩ v) y):Own R e (w.setCell ⟨g,k*R.size+j,none⟩ v) base (.slice (some ⟨g,0,none⟩) n cap) (l.set k x'):=by
 refine⟨⟨?_,?_⟩,hok⟩
 ·have:=h.1.1;rw[flat_set l k j x x' v hx hj hv,List.length_set,List.length_set];exact this
 ·rcases h.1.2 with ⟨h1,_⟩ | ⟨g',cap',cur,hvv,hb,hg,h1,h2,h3,h4⟩
  ·cases h1
  ·injection hvv with q1 q2 q3;injection q1 with q1;injection q1 with q1 _ _;subst q1 q3;refine .inr ⟨g,cap,cur.setIfInBounds (k*R.size+j) v,by rw[List.length_set];exact(by rw[← q2]),hb,Joins.block_setCell hg v,?_,h2,by rw[Array.size_setIfInBounds];exact h3,?_⟩
   ·rw[List.length_set];exact h1
   ·rw[List.length_set,Array.toList_setIfInBounds,List.take_set,h4,flat_set l k j x x' v hx hj hv]
def tfOf (y:File):TFi:=⟨y.path.data.toList,y.run,y.bytes.l⟩
def slN (x:NV):Value:=.slice x.A x.n x.cap
structure NodeC (W0:World) (b off:Nat) (l:List File) (w:World) (x:NV) (y:TN):Prop where
 name:x.name.data.toList=y.name
 file:∀ f,y.file=some f→∃ i z,l[i]? = some z∧tfOf z=f∧x.ptr=some ⟨b,off+i*3,none⟩
 dir:y.file=none→x.ptr=none
 sub:∃ fl:List File,Own RFile 95 w W0.heap.size (slN x) fl∧fl.map tfOf=y.sub∧∀ z∈fl,RFile.ok W0 z
structure NdR (W0:World) (b off:Nat) (l:List File) (C:List ByteArray) (w:World) (vo:Value) (D:List NV) (Y:List TN):Prop where
 own:Own (RNV C) 105 w W0.heap.size vo D
 len:D.length=Y.length
 each:∀ (j:Nat) x y,D[j]? = some x→Y[j]? = some y→NodeC W0 b off l w x y
 dis:∀ (i j:Nat) x y g,i≠j→D[i]? = some x→D[j]? = some y→(slN x).ownBlock=some g→(slN y).ownBlock≠some g
 dis2:∀ (j:Nat) x g,D[j]? = some x→(slN x).ownBlock=some g→vo.ownBlock≠some g
 bel:Below W0.heap.size W0 w
section
variable {W0 w w':World} {b off:Nat} {l:List File} {C:List ByteArray} {vo vo':Value} {D:List NV} {Y:List TN}
theorem NodeC.kept {x:NV} {y:TN} {row:Option Nat} (h:NodeC W0 b off l w x y) (hg:w.grownBy w' row) (hne:(slN x).ownBlock=none∨(slN x).ownBlock≠row) (hb:Below W0.heap.size W0 w'):NodeC W0 b off l w' x y:=by
 obtain⟨fl,h1,h2,h3⟩:=h.sub;exact⟨h.name,h.file,h.dir,fl,h1.kept hg hne (fun z hz _=>RFile.mono _ _ _ hb (h3 z hz)),h2,h3⟩
theorem NodeC.below {x:NV} {y:TN} (h:NodeC W0 b off l w x y) (hb:Below w.heap.size w w'):NodeC W0 b off l w' x y:=by
 obtain⟨fl,h1,h2,h3⟩:=h.sub;exact⟨h.name,h.file,h.dir,fl,h1.below hb,h2,h3⟩
theorem NdR.below (h:NdR W0 b off l C w vo D Y) (hb:Below w.heap.size w w'):NdR W0 b off l C w' vo D Y :=
 ⟨h.own.below hb,h.len,fun j x y hx hy=>(h.each j x y hx hy).below hb,h.dis,h.dis2,h.bel.trans (hb.mono h.bel.size)⟩
theorem NdR.start (hb:Below W0.heap.size W0 w):NdR W0 b off l C w (.slice none 0 0) [] [] :=
 ⟨Own.nil _ _,rfl,fun j x y hx=>by simp at hx,fun i j x y g _ hx=>by simp at hx,fun j x g hx=>by simp at hx,hb⟩
theorem sub_lt (h:NdR W0 b off l C w vo D Y) {j:Nat} {x:NV} {g:Nat} (hx:D[j]? = some x) (hg:(slN x).ownBlock=some g):W0.heap.size≤g∧g<w.heap.size:=by
 obtain⟨y,hy⟩:∃ y,Y[j]? = some y:=⟨Y[j]'(by have:=(List.getElem?_eq_some_iff.1 hx).1;have:=h.len;omega),List.getElem?_eq_getElem _⟩;obtain⟨fl,h1,_,_⟩:=(h.each j x y hx hy).sub;exact h1.1.lt g hg
theorem get_snoc {α:Type} {D:List α} {x z:α} {j:Nat} (h:(D ++ [x])[j]? = some z):(D[j]? = some z)∨(j=D.length∧z=x):=by
 rcases Nat.lt_or_ge j D.length with h1 | h1
 ·rw[List.getElem?_append_left h1]at h;exact .inl h
 ·rw[List.getElem?_append_right h1]at h
  rcases Nat.eq_zero_or_pos (j-D.length) with h2 | h2
  ·rw[h2]at h;injection h with h;exact .inr ⟨by omega,h.symm⟩
  ·rw[List.getElem?_eq_none (by simp;omega)]at h;cases h
theorem NdR.push (h:NdR W0 b off l C w vo D Y) {x:NV} {y:TN} (hown:Own (RNV C) 105 w' W0.heap.size vo' (D ++ [x])) (hg:w.grownBy w' vo.ownBlock) (hat:vo'.ownBlock=vo.ownBlock∨vo'.ownBlock=some w.heap.size)
  (hx:x.A=none∧x.n=0∧x.cap=0) (hn:x.name.data.toList=y.name) (hf:∀ f,y.file=some f→∃ i z,l[i]? = some z∧tfOf z=f∧x.ptr=some ⟨b,off+i*3,none⟩) (hd:y.file=none→x.ptr=none) (hs:y.sub = []) :
  NdR W0 b off l C w' vo' (D ++ [x]) (Y ++ [y]):=by
 have hb:Below W0.heap.size W0 w':=h.bel.grown hg h.bel.size fun k hk=>(h.own.1.lt k hk).1;have hxs:(slN x) = .slice none 0 0:=by unfold slN;rw[hx.1,hx.2.1,hx.2.2]
 have hne:∀ (j:Nat) z,D[j]? = some z→(slN z).ownBlock=none∨(slN z).ownBlock≠vo.ownBlock:=fun j z hz=>by
  cases hv:(slN z).ownBlock with
  | none=>exact .inl rfl
  | some g=>exact .inr fun e=>h.dis2 j z g hz hv e.symm
 refine⟨hown,by rw[List.length_append,List.length_append,h.len];rfl,fun j z u hz hu=>?_,fun i j z u g hij hz hu hv=>?_,fun j z g hz hv=>?_,hb⟩
 ·rcases get_snoc hz with h1 | ⟨h1,rfl⟩
  ·rcases get_snoc hu with h2 | ⟨h2,rfl⟩
   ·exact(h.each j z u h1 h2).kept hg (hne j z h1) hb
   ·have:=(List.getElem?_eq_some_iff.1 h1).1;have:=h.len;omega
  ·rcases get_snoc hu with h2 | ⟨h2,rfl⟩
   ·have:=(List.getElem?_eq_some_iff.1 h2).1;have:=h.len;omega
   ·exact⟨hn,hf,hd,[],by rw[hxs];exact Own.nil _ _,by rw[hs];rfl,fun z hz=>by cases hz⟩
 ·rcases get_snoc hz with h1 | ⟨_,rfl⟩
  ·rcases get_snoc hu with h2 | ⟨_,rfl⟩
   ·exact h.dis i j z u g hij h1 h2 hv
   ·rw[hxs];intro e;cases e
  ·rw[hxs]at hv;cases hv
 ·rcases get_snoc hz with h1 | ⟨_,rfl⟩
  ·rcases hat with e | e
   ·rw[e];exact h.dis2 j z g h1 hv
   ·rw[e];intro e2;injection e2 with e2;have:=(sub_lt h h1 hv).2;omega
  ·rw[hxs]at hv;cases hv
theorem NdR.put {g0 N cap:Nat} (h:NdR W0 b off l C w (.slice (some ⟨g0,0,none⟩) N cap) D Y) {k:Nat} {x:NV} {y:TN} (hx:D[k]? = some x) (hy:Y[k]? = some y) (hf:y.file=none) {fl:List File} {z:File} {A9:Option Addr} {n9 c9:Nat} {w9:World}
  (own9:Own RFile 95 w9 W0.heap.size (.slice A9 n9 c9) (fl ++ [z])) (hfl:fl.map tfOf=y.sub) (okf:∀ z∈fl,RFile.ok W0 z) (okz:RFile.ok W0 z) (hg:w.grownBy w9 (slN x).ownBlock) (hd9:∀ q,(Value.slice A9 n9 c9).ownBlock=some q→(slN x).ownBlock=some q∨w.heap.size≤q) :
  NdR W0 b off l C (w9.setCell ⟨g0,k*3+2,none⟩ (.slice A9 n9 c9)) (.slice (some ⟨g0,0,none⟩) N cap) (D.set k ⟨x.name,x.ptr,A9,n9,c9⟩) (Y.set k ⟨y.name,none,y.sub ++ [tfOf z]⟩):=by
 have hkD:=(List.getElem?_eq_some_iff.1 hx).1;have hkY:=(List.getElem?_eq_some_iff.1 hy).1;have hb9:Below W0.heap.size W0 w9:=h.bel.grown hg h.bel.size fun q hq=>(sub_lt h hx hq).1;have hg0:W0.heap.size≤g0∧g0<w.heap.size:=h.own.1.lt g0 rfl;have hgS:w9.grownBy (w9.setCell ⟨g0,k*3+2,none⟩ (.slice A9 n9 c9)) (some g0):=grown_setc w9 ⟨g0,k*3+2,none⟩ _;have hbS:Below W0.heap.size W0 (w9.setCell ⟨g0,k*3+2,none⟩ (.slice A9 n9 c9)):=hb9.grown hgS hb9.size fun q hq=>by injection hq with hq;omega
 have hone:(Value.slice (some ⟨g0,0,none⟩) N cap).ownBlock=none∨(Value.slice (some ⟨g0,0,none⟩) N cap).ownBlock≠(slN x).ownBlock:=.inr fun e=>h.dis2 k x g0 hx e.symm rfl;have own1:=h.own.kept hg hone (fun z hz hz2=>hz2);have own2:=own_setc (R:=RNV C) own1 hx (j:=2) (by show 2<3;decide) (x':=⟨x.name,x.ptr,A9,n9,c9⟩) (v:=.slice A9 n9 c9) rfl (fun u hu=>by
  rcases List.mem_or_eq_of_mem_set hu with hu | hu
  ·exact h.own.2 u hu
  ·rw[hu];exact h.own.2 x (List.mem_of_getElem? hx))
 have hA9:∀ q,(Value.slice A9 n9 c9).ownBlock=some q→q≠g0:=fun q hq e=>by
  rcases hd9 q hq with h1 | h1
  ·exact h.dis2 k x q hx h1 (by rw[e];rfl)
  ·omega
 have getD:∀ (j:Nat) u,(D.set k (⟨x.name,x.ptr,A9,n9,c9⟩:NV))[j]? = some u→(j=k∧u=⟨x.name,x.ptr,A9,n9,c9⟩)∨(j≠k∧D[j]? = some u):=fun j u hu=>by
  rw[List.getElem?_set]at hu
  by_cases hjk:k=j
  ·rw[if_pos hjk,if_pos (by omega)]at hu;injection hu with hu;exact .inl ⟨hjk.symm,hu.symm⟩
  ·rw[if_neg hjk]at hu;exact .inr ⟨fun e=>hjk e.symm,hu⟩
 have getY:∀ (j:Nat) u,(Y.set k (⟨y.name,none,y.sub ++ [tfOf z]⟩:TN))[j]? = some u→(j=k∧u=⟨y.name,none,y.sub ++ [tfOf z]⟩)∨(j≠k∧Y[j]? = some u):=fun j u hu=>by
  rw[List.getElem?_set]at hu
  by_cases hjk:k=j
  ·rw[if_pos hjk,if_pos (by omega)]at hu;injection hu with hu;exact .inl ⟨hjk.symm,hu.symm⟩
  ·rw[if_neg hjk]at hu;exact .inr ⟨fun e=>hjk e.symm,hu⟩
 refine⟨own2,by rw[List.length_set,List.length_set,h.len],fun j u v hu hv=>?_,fun i j u v q hij hu hv hq=>?_,fun j u q hu hq=>?_,hbS⟩
 ·rcases getD j u hu with ⟨h1,rfl⟩ | ⟨h1,hu⟩
  ·rcases getY j v hv with ⟨_,rfl⟩ | ⟨h2,_⟩
   ·have hc:=h.each k x y hx hy;refine⟨hc.name,fun f e=>(by cases e),fun _=>hc.dir hf,fl ++ [z],?_,by rw[List.map_append,hfl];rfl,fun u hu=>?_⟩
    ·refine own9.kept hgS ?_ (fun u hu _=>?_)
     ·cases hq:(Value.slice A9 n9 c9).ownBlock with
      | none=>exact .inl rfl
      | some q=>exact .inr fun e=>hA9 q hq (by injection e)
     ·refine RFile.mono _ _ _ hbS ?_
      rcases List.mem_append.1 hu with hu | hu
      ·exact okf u hu
      ·rw[List.mem_singleton]at hu;rw[hu];exact okz
    ·rcases List.mem_append.1 hu with hu | hu
     ·exact okf u hu
     ·rw[List.mem_singleton]at hu;rw[hu];exact okz
   ·exact absurd h1 h2
  ·rcases getY j v hv with ⟨h2,_⟩ | ⟨_,hv⟩
   ·exact absurd h2 h1
   ·have hc:=h.each j u v hu hv;refine(hc.kept hg ?_ hb9).kept hgS ?_ hbS
    ·cases hq:(slN u).ownBlock with
     | none=>exact .inl rfl
     | some q=>exact .inr fun e=>h.dis j k u x q h1 hu hx hq e.symm
    ·cases hq:(slN u).ownBlock with
     | none=>exact .inl rfl
     | some q=>exact .inr fun e=>h.dis2 j u q hu hq e.symm
 ·rcases getD i u hu with ⟨h1,rfl⟩ | ⟨h1,hu⟩
  ·rcases getD j v hv with ⟨h2,_⟩ | ⟨h2,hv⟩
   ·exact absurd (h1.trans h2.symm) hij
   ·intro e
    rcases hd9 q hq with h3 | h3
    ·exact h.dis k j x v q (fun e=>h2 e.symm) hx hv h3 e
    ·have:=(sub_lt h hv e).2;omega
  ·rcases getD j v hv with ⟨h2,rfl⟩ | ⟨h2,hv⟩
   ·intro e
    rcases hd9 q e with h3 | h3
    ·exact h.dis i k u x q h1 hu hx hq h3
    ·have:=(sub_lt h hu hq).2;omega
   ·exact h.dis i j u v q hij hu hv hq
 ·rcases getD j u hu with ⟨h1,rfl⟩ | ⟨h1,hu⟩
  ·intro e;injection e with e;exact hA9 q hq e.symm
  ·exact h.dis2 j u q hu hq
end
end Go.Proofs.YtpdjjjiknijpkaaGreatDoor.C10
namespace Go.Proofs.YtpdjjjiknijpkaaGreatDoor.C10
open Go.ChangeShapes Go.WideShapes Go.Deep Go.RowKit
theorem cmpI_lt {a b:Int}:Lib.compareInt a b<0↔a<b:=by unfold Lib.compareInt;split <;> (try split) <;> omega
theorem cmp_any (C:List ByteArray) (x y:NV) (w:World) (v:Int) (hx:x.name∈C) (hy:y.name∈C) (hv:Lib.compareInt (vC C y) (vC C x)=v) :
  Calls Tryz.prog 71 #[.agg #[.string x.name,.pointer x.ptr,.slice x.A x.n x.cap],.agg #[.string y.name,.pointer y.ptr,.slice y.A y.n y.cap]] w fun e w'=>e = .returned (.int .i64 v)∧Below w.heap.size w w':=by
 have hb:=((Below.refl w.heap.size w).alloc (Nat.le_refl _) (.cells #[.string x.name,.pointer x.ptr,.slice x.A x.n x.cap] 105)).alloc (by simp) (.cells #[.string y.name,.pointer y.ptr,.slice y.A y.n y.cap] 105);rw[rk_cmp hx hy]at hv;obtain⟨xn,xp,xA,xm,xc⟩:=x;obtain⟨yn,yp,yA,ym,yc⟩:=y;simp only at hb hv ⊢;obtain⟨hbH,hvH⟩:=hq2 hb (Lib.hid hv);clear hb hv;go_enter Tryz.func71,Tryz.ntmps71;go_wp2_with fail;refine(Tryz.strings_Compare xn yn _).mono ?_;rintro e w1 ⟨rfl,rfl⟩;have e1:Lib.compareBytes xn.data.toList yn.data.toList=v:=hvH.out;rw[e1];go_wp2_with fail;go_ret;exact⟨rfl,hbH.out⟩
theorem keep6 {W w':World} {a0 a1 a2 a3 a4 a5:Addr} {v0 v1 v2 v3 v4 v5:Value} (hb:Below W.heap.size W w') (h:W.cell? a0=some v0∧W.cell? a1=some v1∧W.cell? a2=some v2∧W.cell? a3=some v3∧W.cell? a4=some v4∧W.cell? a5=some v5):w'.cell? a0=some v0∧w'.cell? a1=some v1∧w'.cell? a2=some v2∧w'.cell? a3=some v3∧w'.cell? a4=some v4∧w'.cell? a5=some v5 :=
 ⟨keepC hb h.1,keepC hb h.2.1,keepC hb h.2.2.1,keepC hb h.2.2.2.1,keepC hb h.2.2.2.2.1,keepC hb h.2.2.2.2.2⟩
theorem get_mid {P M S:List NV} {x:NV} {i:Nat} (h:P.length=i):(P++x::M)[i]? = some x:=by
 subst h;rw[List.getElem?_append_right (Nat.le_refl _),Nat.sub_self];rfl
def gV:Value:=.func (.func 71) #[] #[]
def InO (C:List ByteArray) (P M S:List NV) (a b off n:Nat) (w0:World) (i:Value) (wr:World):Prop :=
 ∃ (k:Nat) (M1:List NV),1≤k∧k≤M.length∧i = .int .i64 ((a:Int)+(k:Int))∧M1.length=k∧SortedBy (fI C) M1∧SameCls (fI C) M1 (M.take k)∧RowV C wr b off n (P++M1++M.drop k++S)∧Srt b w0 wr
def InI (C:List ByteArray) (P M1 D S:List NV) (x:NV) (a b off n:Nat) (w0:World) (j:Value) (wr:World):Prop :=
 ∃ (A B:List NV),j = .int .i64 ((a:Int)+(A.length:Int))∧M1=A++B∧(∀ y∈B,(fI C) x<(fI C) y)∧RowV C wr b off n (P++A++x::B++D++S)∧Srt b w0 wr
theorem ins_step (C:List ByteArray) {A B:List NV} {x:NV} {T:List NV} (hs:SortedBy (fI C) (A++B)) (hA:∀ y,A.getLast? = some y→(fI C) y≤(fI C) x) (hB:∀ y∈B,(fI C) x<(fI C) y) (hT:SameCls (fI C) (A++B) T):SortedBy (fI C) (A++x::B)∧SameCls (fI C) (A++x::B) (T ++ [x]):=by
 have hA2:∀ z∈A,(fI C) z≤(fI C) x:=fun z hz=>by
  obtain⟨l,hl⟩:∃ l,A.getLast? = some l:=by
   cases h:A.getLast? with
   | none=>rw[List.getLast?_eq_none_iff]at h;subst h;cases hz
   | some l=>exact⟨l,rfl⟩
  obtain⟨i,hi⟩:=List.getLast?_eq_some_iff.1 hl;have:=hA l hl;rw[hi]at hz
  rcases List.mem_append.1 hz with hz | hz
  ·have hs2:=sorted_left hs;rw[hi]at hs2;have:=sorted_cross hs2 z hz l (by simp);omega
  ·rw[List.mem_singleton.1 hz];exact this
 refine⟨sorted_app (sorted_left hs) (List.pairwise_cons.2 ⟨fun y hy=>Int.le_of_lt (hB y hy),sorted_right hs⟩) fun u hu v hv=>?_,?_⟩
 ·rcases List.mem_cons.1 hv with rfl | hv
  ·exact hA2 u hu
  ·exact sorted_cross hs u hu v hv
 ·have e1:SameCls (fI C) ([x]++B) (B ++ [x]):=same_swap fun u hu y hy=>by rw[List.mem_singleton.1 hu];have:=hB y hy;omega
  have e2:=(SameCls.refl (f:=fI C) A).app e1;have e3:=hT.app (SameCls.refl (f:=fI C) [x]);intro v;have:=e2 v;have h3:=e3 v;rw[show A++x::B=A++([x]++B) from rfl,this,← h3,List.append_assoc]
theorem insertion_any (C:List ByteArray) (b off n cap:Nat) (P M S:List NV) (a e:Nat) (w:World) (hP:P.length=a) (he:e=a+M.length) (hn:n≤1000000000) (hrow:RowV C w b off n (P++M++S)) :
  Calls Tryz.prog 146 #[.slice (some ⟨b,off,none⟩) n cap,.int .i64 a,.int .i64 e,gV] w fun e w'=>e = .returned (.tuple #[])∧∃ M',SortedBy (fI C) M'∧SameCls (fI C) M' M∧RowV C w' b off n (P++M'++S)∧Srt b w w':=by
 have hlen:=hrow.sl.1;simp only[List.length_append]at hlen;have hen:e≤n:=by omega
 have hae:a≤e:=by omega
 unfold gV
 by_cases hM0:M.length=0
 ·obtain rfl:M = []:=List.eq_nil_of_length_eq_zero hM0;have hea:e=a:=by simpa using he
  subst hea;clear hM0 he;obtain⟨hrowH,hlenH,hPH⟩:=hq2 hrow (hq2 hlen (Lib.hid hP));clear hrow hlen hP;go_enter Tryz.func146,Tryz.ntmps146;go_wp2_with fail;refine wp_loop_rounds 1 ?_;rw[rounds_succ];go_wp2
  go_end0
  exact⟨rfl,[],List.Pairwise.nil,SameCls.refl _,hrowH.out,World.grownBy.refl _ _⟩
 ·have hstart:InO C P M S a b off n w (.int .i64 ((a:Int)+1)) w:=by
   refine⟨1,M.take 1,Nat.le_refl _,by omega,by go_num,by rw[List.length_take];omega,?_,SameCls.refl _,?_,World.grownBy.refl _ _⟩
   ·cases M with
    | nil=>exact absurd rfl hM0
    | cons z r=>simp[SortedBy]
   ·rw[List.append_assoc P,List.take_append_drop];exact hrow
  obtain⟨hrowH,hlenH,hPH,hstartH,heH⟩:=hqb hrow hlen hP hstart (Lib.hid he);clear hrow hlen hP hstart he;go_enter Tryz.func146,Tryz.ntmps146;go_wp2_with fail
  go_loopw [8] (fun i wr=>InO C P M S a b off n w i wr) (fun i _=>e-(intOf i).toNat)
  case atStart=>exact hstartH.out
  case round =>
   clear hstartH;obtain⟨k,M1,hk1,hkM,rfl,hMl,hso,hcl,hrw,hs⟩:=hrel;have hake:a+k≤e:=by have:=heH.out;omega
   by_cases hlt:a+k<e
   ·have hkM2:k+1≤M.length:=by have:=heH.out;omega
    have hltz:(a:Int)+(k:Int)<(e:Int):=by omega
    obtain⟨x,hx⟩:∃ x,M[k]? = some x:=⟨M[k],List.getElem?_eq_getElem _⟩;rw[drop_cons hx]at hrw;have hin:InI C P M1 (M.drop (k+1)) S x a b off n wr (.int .i64 ((a:Int)+(k:Int))) wr:=⟨M1,[],by rw[hMl],by simp,fun y hy=>(by cases hy),by simpa using hrw,World.grownBy.refl _ _⟩;obtain⟨wa,rfl⟩:∃ W,W=wr:=⟨_,rfl⟩;obtain⟨hMlH,hsoH,hclH,hrwH,hsH,hxH,hinH⟩:=hq2 hMl (hq2 hso (hqb hcl hrw hs hx (Lib.hid hin)));clear hMl hso hcl hrw hs hx hin;go_wp2_with fail
    go_loopw [9] (fun j wr=>InI C P M1 (M.drop (k+1)) S x a b off n wa j wr) (fun j _=>(intOf j).toNat)
    case atStart=>exact hinH.out
    case round =>
     clear hinH hrwH;obtain⟨A,B,rfl,hM1,hBx,hrw2,hs2⟩:=hrel;have hMl:=hMlH.out;have hso:=hsoH.out;have hcl:=hclH.out;have hs:=hsH.out;have hx:=hxH.out;rw[hM1]at hso hcl
     by_cases hA0:A = []
     ·subst hA0;have R1:∀ nq,InO C P M S a b off n w (.int .i64 ((a:Int)+(k:Int)+1)) (wr.drewN nq):=by
       intro nq;have hst:=ins_step C (A:=[]) (B:=B) (T:=M.take k) hso (fun y hy=>(by cases hy)) hBx hcl;have R1:InO C P M S a b off n w (.int .i64 ((a:Int)+(k:Int)+1)) (wr.drewN nq):=by
        refine⟨k+1,[]++x::B,by omega,hkM2,by go_num,by rw[hM1]at hMl;simp only[List.length_append,List.length_cons]at hMl ⊢;omega,hst.1,?_,by simpa using (hrw2.below (bel_drewN (Below.refl _ _) nq)),(hs.trans hs2).trans (Srt.of_below (bel_drewN (Below.refl _ _) nq))⟩;rw[List.take_add_one,hx];exact hst.2
       exact R1
      have j0:(a:Int)+(([]:List NV).length:Int)=(a:Int):=by simp
      rw[j0];clear hso hcl hMl hs hx hM1;obtain⟨R1H,hBxH,hrw2H,hs2H,j0H⟩:=hqb R1 hBx hrw2 hs2 (Lib.hid j0);clear R1 hBx hrw2 hs2 j0;go_wp2_with fail
      go_quiet (fail)
      go_wp2;refine⟨?rel,?measure⟩
      case measure=>(simp[intOf];omega)
      case rel=>first | exact(R1H.out _) | exact⟨rfl,(R1H.out _)⟩
     ·obtain⟨A0,y,rfl⟩:∃ A0 y,A=A0 ++ [y]:=⟨A.dropLast,A.getLast hA0,(List.dropLast_concat_getLast hA0).symm⟩;obtain⟨jj,hjj⟩:∃ jj,a+A0.length=jj:=⟨_,rfl⟩;have j0:(a:Int)+((A0 ++ [y]).length:Int)=(jj:Int)+1:=by rw[List.length_append,List.length_singleton];omega
      rw[j0];have hd:P++(A0 ++ [y])++x::B++M.drop (k+1)++S=(P++A0)++y :: []++x::(B++M.drop (k+1)++S):=by simp
      rw[hd]at hrw2;have hgy:((P++A0)++y :: []++x::(B++M.drop (k+1)++S))[jj]? = some y:=by rw[List.append_assoc];exact get_mid (S:=[]) (by rw[List.length_append];have:=hPH.out;omega)
      have hgx:((P++A0)++y :: []++x::(B++M.drop (k+1)++S))[jj+1]? = some x:=get_mid (S:=[]) (by simp only[List.length_append,List.length_cons,List.length_nil];have:=hPH.out;omega);have hjn:jj+1<n:=by
       have:=hrw2.sl.1;have h2:=(List.getElem?_eq_some_iff.1 hgx).1;omega
      obtain⟨x0,x1,x2⟩:=hrw2.at_ hgx;obtain⟨y0,y1,y2⟩:=hrw2.at_ hgy;obtain⟨v,hv⟩:∃ v,Lib.compareInt (vC C y) (vC C x)=v:=⟨_,rfl⟩;have hvl:v<0↔(vC C y)<(vC C x):=by rw[← hv];exact cmpI_lt
      have hw1:IntKind.i64.wrap ((jj:Int)+1-1)=(jj:Int):=by rw[IntKind.wrap_i64];omega
      have haj:a≤jj:=by omega
      have k0:(0:Int)≤(jj:Int):=by omega
      have k1:(jj:Int)+1<(n:Int):=by omega
      have k2:(jj:Int)<(n:Int):=by omega
      have k3:(0:Int)≤(jj:Int)+1:=by omega
      have k4:((jj:Int)+1).toNat=jj+1:=by omega
      have k5:(a:Int)<(jj:Int)+1:=by omega
      have hw2:IntKind.i64.wrap (jj:Int)=(jj:Int):=by rw[IntKind.wrap_i64];omega
      have k6:¬ (jj:Int)<0:=by omega
      clear hs hx;obtain⟨hMlH,hsoH,hclH,hM1H,hBxH,hs2H,j0H,hdH,hgyH,hgxH,hjjH,hvlH,hvH,hrw2H⟩:=hq2 hMl (hqb hso hcl hM1 hBx (hqc hs2 j0 hd hgy hgx hjj hvl hv (Lib.hid hrw2)));clear hMl hso hcl hM1 hBx hs2 j0 hd hgy hgx hjj hvl hv hrw2;go_wp2_with fail;refine wp_region_held_drew (S:=(fun w'=>w'.cell? ⟨b,off+(jj+1)*3,none⟩=some (.string x.name)∧w'.cell? ⟨b,off+(jj+1)*3+1,none⟩=some (.pointer x.ptr)∧w'.cell? ⟨b,off+(jj+1)*3+2,none⟩=some (.slice x.A x.n x.cap)∧w'.cell? ⟨b,off+jj*3,none⟩=some (.string y.name)∧w'.cell? ⟨b,off+jj*3+1,none⟩=some (.pointer y.ptr)∧w'.cell? ⟨b,off+jj*3+2,none⟩=some (.slice y.A y.n y.cap))) (by kernel_rfl) ⟨x0,x1,x2,y0,y1,y2⟩ (fun hHeld=>?_);clear x0 x1 x2 y0 y1 y2;refine tkS [(0,18),(1,19),(2,20),(3,21),(4,22),(5,23),(6,24),(7,25),(8,26),(9,27),(10,28),(11,29),(12,30),(13,31)] ?_;(iterate 14 (refine tkL ?_ ?_ ?_;rotate_left;(· intro w hSw;(try dsimp only at hSw);go_simp;(try with_reducible rfl));(try simp only[Act.put,tkA,tkB,tkC])));refine tkE ?_;refine wpAnyH_ready (rs:=[14]) (by kernel_rfl) (by simp) ?_;refine AllReadyH.cons (i:=14) rfl (fun K hK=>?_) AllReadyH.nil;go_simp;go_at_call 71;refine(cmp_any C x y _ v (hrw2H.out.in_ hgxH.out) (hrw2H.out.in_ hgyH.out) hvH.out).mono ?_;rintro e w2 ⟨rfl,hb2⟩;have hb2a:Below wr.heap.size wr w2:=by first | exact hb2 | exact(Below.refl _ _).drew.trans hb2
      replace hHeld:=keep6 hb2 hHeld;have hHeld2:=hHeld;have hrw3:=hrw2H.out.below hb2a;have hs3:=hs2H.out.trans (Srt.of_below hb2a);clear hb2 hb2a;obtain⟨hrw3H,hs3H,hHeld2H⟩:=hq2 hrw3 (hq2 hs3 (Lib.hid hHeld2));clear hrw3 hs3 hHeld2;refine hK.out _ _ hHeld (fun hHeld=>?_);clear hK K
      (try simp only[Act.put,tkA,tkB,tkC])
      clear hHeld;refine tkS [(15,33),(16,34)] ?_;(iterate 2 (refine tkL ?_ ?_ ?_;rotate_left;(· intro w hSw;(try dsimp only at hSw);go_simp;(try with_reducible rfl));(try simp only[Act.put,tkA,tkB,tkC])));refine tkE ?_;refine wpAnyH_done (by kernel_rfl) ?_ _
      by_cases hc:v<0
      ·have hA2:(fI C) x<(fI C) y:=by unfold fI;have:=hvlH.out.1 hc;omega
       have R1:InI C P M1 (M.drop (k+1)) S x a b off n wa (.int .i64 (jj:Int)) (exW w2 b off (jj+1) jj x y).drew:=by
        have hsw:=(hrw3H.out.swap2 (i:=jj) (j:=jj+1) (by rw[List.length_append];have:=hPH.out;have:=hjjH.out;omega) (by simp)).drew;refine⟨A0,y::B,by have:=hjjH.out;congr 1;omega,by rw[hM1H.out];simp,fun z hz=>?_,by simpa using hsw,(hs3H.out.trans (exW_srt _ _ _ _ _ _ _)).trans Srt.drew⟩
        rcases List.mem_cons.1 hz with rfl | hz
        ·exact hA2
        ·exact hBxH.out z hz
       have fz:=hrw3H.out.fz;have f0:=fz (jj*3);have f1:=fz (jj*3+1);have f2:=fz (jj*3+2);have f3:=fz ((jj+1)*3);have f4:=fz ((jj+1)*3+1);have f5:=fz ((jj+1)*3+2);rw[← Nat.add_assoc]at f1 f2 f4 f5;obtain⟨x0,x1,x2,y0,y1,y2⟩:=hHeld2H.out;unfold exW at R1;clear fz hHeld2H;obtain⟨R1H,hA2H⟩:=hq2 R1 (Lib.hid hA2);clear R1 hA2;go_wp2_with fail
       go_region
       go_wp2;refine⟨?rel,?measure⟩
       case measure=>exact(by simp[intOf] <;> omega)
       case rel=>first | exact R1H.out | exact⟨rfl,R1H.out⟩
      ·have hA2:(fI C) y≤(fI C) x:=by unfold fI;have:¬ (vC C y)<(vC C x):=fun h=>hc (hvlH.out.2 h);omega
       have hMl:=hMlH.out;have hso:=hsoH.out;have hcl:=hclH.out;have hM1:=hM1H.out;have hBx:=hBxH.out;have hx:=hxH.out;have hrw4:RowV C w2 b off n (P++(A0 ++ [y])++x::B++M.drop (k+1)++S):=by rw[hdH.out];exact hrw3H.out
       have hst:=ins_step C (A:=(A0 ++ [y])) (B:=B) (T:=M.take k) hso (fun z hz=>by rw[List.getLast?_append]at hz;simp at hz;rw[← hz];exact hA2) hBx hcl;have R1:InO C P M S a b off n w (.int .i64 ((a:Int)+(k:Int)+1)) w2:=by
        refine⟨k+1,(A0 ++ [y])++x::B,by omega,hkM2,by go_num,by rw[hM1]at hMl;simp only[List.length_append,List.length_cons]at hMl ⊢;omega,hst.1,?_,by simpa using hrw4,hsH.out.trans hs3H.out⟩;rw[List.take_add_one,hx];exact hst.2
       clear hst hso hcl hMl hx hM1 hBx hrw4;obtain⟨R1H,hA2H⟩:=hq2 R1 (Lib.hid hA2);clear R1 hA2;go_wp2;refine⟨?rel,?measure⟩
       case measure=>(simp[intOf];omega)
       case rel=>first | exact R1H.out | exact⟨rfl,R1H.out⟩
   ·have hka:a+k=e:=by omega
    have hMk:M.drop k = []:=List.drop_eq_nil_of_le (by have:=heH.out;omega);have hMt:M.take k=M:=List.take_of_length_le (by have:=heH.out;omega);rw[hMk,List.append_nil]at hrw;rw[hMt]at hcl;obtain⟨hrwH,hclH,hsoH,hsH,hMlH,hMkH,hMtH,hkaH⟩:=hq2 hrw (hq2 hcl (hq2 hso (hqb hs hMl hMk hMt (Lib.hid hka))));clear hrw hcl hso hs hMl hMk hMt hka;go_wp2
    go_end0
    exact⟨rfl,M1,hsoH.out,hclH.out,hrwH.out,hsH.out⟩
end Go.Proofs.YtpdjjjiknijpkaaGreatDoor.C10