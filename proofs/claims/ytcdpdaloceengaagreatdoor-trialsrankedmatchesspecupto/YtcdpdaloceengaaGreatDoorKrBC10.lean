/-
 Several texts of mine as one, without what is not wanted here: XRnD, XRnR, XTally, XSortS, XKeys.
-/
import Derived.Test.YtcdpdaloceengaaGreatDoorKrAC10
import Derived.Test.YtcdpdaloceengaaGreatDoorKrGb
import Derived.WideKeyArgs
import Derived.DeepKeys4
import Derived.Sort.OwnSorted
import Derived.Sort.KeysCollected
import Derived.Lib.SlicesCompact
set_option linter.unusedVariables false
set_option linter.unusedSimpArgs false
set_option maxRecDepth 100000
set_option maxHeartbeats 8000000
namespace Go.Proofs.YtcdpdaloceengaaGreatDoor.C10
open Go.RowKit Go.Maps
structure Rec where
 bad:Int
 took:Int
 all:Int
def rec0:Rec:=⟨0,0,0⟩
def recS (last:Int) (n:ByteArray) (r:TestRun) (x:Rec):Rec :=
 if r.test=n∧x.all<last then ⟨if r.pass=true then x.bad else x.bad+1,x.took+r.seconds,x.all+1⟩ else x
def recF (last:Int) (n:ByteArray) (l:List TestRun):Rec:=l.foldr (recS last n) rec0
structure RecOk (k:Nat) (x:Rec):Prop where
 bad:0≤x.bad∧x.bad≤x.all
 took:0≤x.took∧x.took≤x.all*100000
 all:0≤x.all∧x.all≤k
theorem recF_ok (last:Int) (n:ByteArray):∀ (l:List TestRun),(∀ r∈l,0≤r.seconds∧r.seconds≤100000)→RecOk l.length (recF last n l)
 | [],_=>⟨⟨Int.le_refl _,Int.le_refl _⟩,⟨Int.le_refl _,Int.le_refl _⟩,⟨Int.le_refl _,Int.le_refl _⟩⟩
 | r::l,h=>by
  obtain⟨a,b,c⟩:=recF_ok last n l fun s hs=>h s (List.mem_cons_of_mem _ hs);have hr:=h r List.mem_cons_self;show RecOk (l.length+1) (recS last n r (recF last n l));unfold recS
  split
  ·refine⟨?_,?_,?_⟩
   ·simp only;split <;> omega
   ·simp only;omega
   ·simp only;omega
  ·exact⟨a,b,by omega⟩
theorem recF_most {last:Int} (h0:0≤last) (n:ByteArray):∀ (l:List TestRun),(recF last n l).all≤last
 | []=>h0
 | r::l=>by
  have:=recF_most h0 n l;show (recS last n r (recF last n l)).all≤last;unfold recS
  split
  ·simp only;omega
  ·exact this
theorem recF_drop (last:Int) (n:ByteArray) {l:List TestRun} {k:Nat} {r:TestRun} (h:l[k]? = some r):recF last n (l.drop k)=recS last n r (recF last n (l.drop (k+1))):=by
 obtain⟨h1,h2⟩:=List.getElem?_eq_some_iff.1 h;rw[List.drop_eq_getElem_cons h1,h2];rfl
theorem recF_full {last:Int} (n:ByteArray) {l:List TestRun}:∀ {k:Nat},last≤(recF last n (l.drop k)).all→recF last n l=recF last n (l.drop k)
 | 0,_=>by rw[List.drop_zero]
 | k+1,h=>by
  cases hr:l[k]? with
  | none =>
   rw[List.getElem?_eq_none_iff]at hr;have e:l.drop (k+1)=l.drop k:=by rw[List.drop_of_length_le (by omega),List.drop_of_length_le hr]
   rw[e]at h ⊢;exact recF_full n h
  | some r =>
   have e:=recF_drop last n hr;have e2:recF last n (l.drop k)=recF last n (l.drop (k+1)):=by
    rw[e];unfold recS;rw[if_neg (fun h2=>by omega)]
   rw[← e2]at h ⊢;exact recF_full n h
def earB (a b:Rec):Bool:=if a.bad≠b.bad then decide (b.bad<a.bad) else if a.all=0∨b.all=0 then decide (a.all=0∧0<b.all) else decide (a.took*b.all<b.took*a.all)
def cmp3 (a b:Rec):Int:=if Lib.compareInt b.bad a.bad≠0 then Lib.compareInt b.bad a.bad else if Lib.compareInt (min a.all 1) (min b.all 1)≠0 then Lib.compareInt (min a.all 1) (min b.all 1) else Lib.compareInt (a.took*b.all) (b.took*a.all)
theorem cI_lt (a b:Int):Lib.compareInt a b = -1↔a<b:=by unfold Lib.compareInt;split <;> (try split) <;> omega
theorem cI_zero (a b:Int):Lib.compareInt a b=0↔a=b:=by unfold Lib.compareInt;split <;> (try split) <;> omega
theorem cI_gt (a b:Int):Lib.compareInt a b=1↔b<a:=by unfold Lib.compareInt;split <;> (try split) <;> omega
def RecP (x:Rec):Prop:=0≤x.all∧(x.all=0→x.took=0)
theorem RecOk.p {k:Nat} {x:Rec} (h:RecOk k x):RecP x:=⟨h.all.1,fun e=>by have:=h.took;rw[e]at this;omega⟩
theorem earB_ne {a b:Rec} (h:a.bad≠b.bad):earB a b=decide (b.bad<a.bad):=if_pos h
theorem earB_z {a b:Rec} (h:a.bad=b.bad) (h2:a.all=0∨b.all=0):earB a b=decide (a.all=0∧0<b.all):=by unfold earB;rw[if_neg (fun h'=>h' h),if_pos h2]
theorem earB_p {a b:Rec} (h:a.bad=b.bad) (h2:¬(a.all=0∨b.all=0)):earB a b=decide (a.took*b.all<b.took*a.all):=by unfold earB;rw[if_neg (fun h'=>h' h),if_neg h2]
theorem cmp3_1 {a b:Rec} (h:a.bad≠b.bad):cmp3 a b=Lib.compareInt b.bad a.bad:=if_pos (fun e=>h ((cI_zero _ _).1 e).symm)
theorem cmp3_2 {a b:Rec} (h:a.bad=b.bad) (h2:min a.all 1≠min b.all 1):cmp3 a b=Lib.compareInt (min a.all 1) (min b.all 1):=by
 unfold cmp3;rw[if_neg (fun h'=>h' ((cI_zero _ _).2 h.symm)),if_pos (fun e=>h2 ((cI_zero _ _).1 e))]
theorem cmp3_3 {a b:Rec} (h:a.bad=b.bad) (h2:min a.all 1=min b.all 1):cmp3 a b=Lib.compareInt (a.took*b.all) (b.took*a.all):=by
 unfold cmp3;rw[if_neg (fun h'=>h' ((cI_zero _ _).2 h.symm)),if_neg (fun h'=>h' ((cI_zero _ _).2 h2))]
theorem cmp3_ear {a b:Rec} (ha:RecP a) (hb:RecP b):(cmp3 a b = -1↔earB a b=true)∧(cmp3 a b=0↔earB a b=false∧earB b a=false)∧(cmp3 a b=1↔earB b a=true):=by
 obtain⟨a0,a1⟩:=ha;obtain⟨b0,b1⟩:=hb
 by_cases h1:a.bad=b.bad
 ·by_cases h2:a.all=0∨b.all=0
  ·rw[earB_z h1 h2,earB_z h1.symm h2.symm]
   by_cases h3:a.all=0∧b.all=0
   ·rw[cmp3_3 h1 (by omega),h3.1,h3.2,a1 h3.1,b1 h3.2];simp[Lib.compareInt]
   ·rw[cmp3_2 h1 (by omega),cI_lt,cI_zero,cI_gt];simp only[decide_eq_true_eq,decide_eq_false_iff_not];omega
  ·rw[earB_p h1 h2,earB_p h1.symm (fun h=>h2 h.symm),cmp3_3 h1 (by omega),cI_lt,cI_zero,cI_gt];simp only[decide_eq_true_eq,decide_eq_false_iff_not]
   generalize a.took*b.all=u
   generalize b.took*a.all=v
   refine⟨trivial,?_,trivial⟩
   constructor
   ·intro h;omega
   ·intro h;omega
 ·rw[earB_ne h1,earB_ne (fun e=>h1 e.symm),cmp3_1 h1,cI_lt,cI_zero,cI_gt];simp only[decide_eq_true_eq,decide_eq_false_iff_not];refine⟨trivial,?_,trivial⟩
  constructor
  ·intro h;omega
  ·intro h;omega
theorem crossE {p q r a b c:Int} (ha:0<a) (hb:0<b) (hc:0<c) (h1:p*b≤q*a) (h2:q*c≤r*b):p*c≤r*a:=by
 have h3:p*b*c≤q*a*c:=Int.mul_le_mul_of_nonneg_right h1 (by omega);have h4:q*c*a≤r*b*a:=Int.mul_le_mul_of_nonneg_right h2 (by omega);have h5:q*a*c=q*c*a:=by rw[Int.mul_assoc,Int.mul_assoc,Int.mul_comm a c]
 have h6:p*c*b≤r*a*b:=by
  rw[Int.mul_assoc,Int.mul_comm c b,← Int.mul_assoc,Int.mul_assoc r,Int.mul_comm a b,← Int.mul_assoc];omega
 exact Int.le_of_mul_le_mul_right h6 hb
def leR (a b:Rec):Prop:=earB b a=false
theorem leR_iff {a b:Rec} (ha:RecP a) (hb:RecP b):leR a b↔b.bad<a.bad∨(a.bad=b.bad∧(a.all=0∨(0<a.all∧0<b.all∧a.took*b.all≤b.took*a.all))):=by
 obtain⟨a0,a1⟩:=ha;obtain⟨b0,b1⟩:=hb;unfold leR
 by_cases h1:a.bad=b.bad
 ·by_cases h2:b.all=0∨a.all=0
  ·rw[earB_z h1.symm h2,decide_eq_false_iff_not]
   generalize a.took*b.all=u
   generalize b.took*a.all=v
   constructor
   ·intro h;right;refine⟨h1,?_⟩;omega
   ·intro h;omega
  ·rw[earB_p h1.symm h2,decide_eq_false_iff_not]
   generalize a.took*b.all=u
   generalize b.took*a.all=v
   constructor
   ·intro h;right;refine⟨h1,?_⟩;right;omega
   ·intro h;omega
 ·rw[earB_ne (fun e=>h1 e.symm),decide_eq_false_iff_not]
  constructor
  ·intro h;left;omega
  ·rintro(h | h)
   ·omega
   ·exact absurd h.1 h1
theorem leR_trans {a b c:Rec} (ha:RecP a) (hb:RecP b) (hc:RecP c) (h1:leR a b) (h2:leR b c):leR a c:=by
 rw[leR_iff ha hb]at h1;rw[leR_iff hb hc]at h2;rw[leR_iff ha hc]
 rcases h1 with h1 | ⟨e1,h1⟩
 ·rcases h2 with h2 | ⟨e2,_⟩
  ·left;omega
  ·left;omega
 ·rcases h2 with h2 | ⟨e2,h2⟩
  ·left;omega
  ·right;refine⟨by omega,?_⟩
   rcases h1 with h1 | ⟨p1,p2,h1⟩
   ·exact .inl h1
   ·rcases h2 with h2 | ⟨p3,p4,h2⟩
    ·omega
    ·exact .inr ⟨p1,p4,crossE p1 p2 p4 h1 h2⟩
theorem leR_total {a b:Rec} (ha:RecP a) (hb:RecP b):leR a b∨leR b a:=by
 rw[leR_iff ha hb,leR_iff hb ha];have:=ha.1;have:=hb.1
 generalize a.took*b.all=u
 generalize b.took*a.all=v
 omega
section
variable (f:ByteArray→Rec)
def rkLt (a b:ByteArray):Prop:=leR (f a) (f b)∧(leR (f b) (f a)→cmpS a b = -1)
variable {f}
theorem rkLt_asym (a b:ByteArray) (h1:rkLt f a b) (h2:rkLt f b a):False:=by
 have x:=h1.2 h2.1;have y:=h2.2 h1.1;rw[cmpS_swap,x]at y;omega
theorem rkLt_trans (hf:∀ s,RecP (f s)) (a b c:ByteArray) (h1:rkLt f a b) (h2:rkLt f b c):rkLt f a c:=by
 refine⟨leR_trans (hf a) (hf b) (hf c) h1.1 h2.1,fun h=>?_⟩;have x:=h1.2 (leR_trans (hf b) (hf c) (hf a) h2.1 h);have y:=h2.2 (leR_trans (hf c) (hf a) (hf b) h h1.1);exact cmpS_trans x y
def cmpN (f:ByteArray→Rec) (a b:ByteArray):Int:=if cmp3 (f a) (f b)≠0 then cmp3 (f a) (f b) else cmpS a b
theorem cmpN_lt (hf:∀ s,RecP (f s)) (a b:ByteArray):cmpN f a b = -1↔rkLt f a b:=by
 obtain⟨h1,h2,h3⟩:=cmp3_ear (hf a) (hf b);unfold cmpN rkLt
 rcases hx:earB (f a) (f b) with _ | _
 ·rcases hy:earB (f b) (f a) with _ | _
  ·have e:=h2.2 ⟨hx,hy⟩;rw[e,if_neg (by decide)];exact⟨fun h=>⟨hy,fun _=>h⟩,fun h=>h.2 hx⟩
  ·have e:=h3.2 hy;rw[e,if_pos (by decide)]
   constructor
   ·intro h;exact absurd h (by decide)
   ·intro h;exact absurd (hy.symm.trans h.1) (by decide)
 ·have e:=h1.2 hx;rw[e,if_pos (by decide)];refine⟨fun _=>⟨?_,fun h=>?_⟩,fun _=>rfl⟩
  ·rcases leR_total (hf a) (hf b) with h | h
   ·exact h
   ·exact absurd (hx.symm.trans h) (by decide)
  ·exact absurd (hx.symm.trans h) (by decide)
theorem cmpN_range (hf:∀ s,RecP (f s)) (a b:ByteArray):cmpN f a b = -1∨cmpN f a b=0∨cmpN f a b=1:=by
 obtain⟨h1,h2,h3⟩:=cmp3_ear (hf a) (hf b);unfold cmpN
 rcases hx:earB (f a) (f b) with _ | _
 ·rcases hy:earB (f b) (f a) with _ | _
  ·rw[h2.2 ⟨hx,hy⟩,if_neg (by decide)];exact cmpS_range a b
  ·rw[h3.2 hy,if_pos (by decide)];exact .inr (.inr rfl)
 ·rw[h1.2 hx,if_pos (by decide)];exact .inl rfl
theorem cmpN_swap (hf:∀ s,RecP (f s)) (a b:ByteArray):cmpN f b a = - cmpN f a b:=by
 obtain⟨h1,h2,h3⟩:=cmp3_ear (hf a) (hf b);obtain⟨g1,g2,g3⟩:=cmp3_ear (hf b) (hf a);have e:cmp3 (f b) (f a) = - cmp3 (f a) (f b):=by
  rcases hx:earB (f a) (f b) with _ | _
  ·rcases hy:earB (f b) (f a) with _ | _
   ·rw[h2.2 ⟨hx,hy⟩,g2.2 ⟨hy,hx⟩] <;> rfl
   ·rw[h3.2 hy,g1.2 hy] <;> rfl
  ·rw[h1.2 hx,g3.2 hx] <;> rfl
 unfold cmpN;rw[e]
 by_cases h:cmp3 (f a) (f b)=0
 ·rw[h];simp;exact cmpS_swap a b
 ·rw[if_pos (by simpa using h),if_pos (by omega)]
theorem cmpN_zero (hf:∀ s,RecP (f s)) {a b:ByteArray} (h:cmpN f a b=0):a=b:=by
 unfold cmpN at h
 split at h
 ·rename_i h1;exact absurd h h1
 ·exact(cmpS_zero a b).1 h
structure InsN (f:ByteArray→Rec) (names:List ByteArray) (k:Nat) (O:List ByteArray):Prop where
 perm:O.Perm (names.take k)
 sort:O.Pairwise (rkLt f)
theorem InsN.len {names:List ByteArray} {k:Nat} {O:List ByteArray} (h:InsN f names k O) (hk:k≤names.length):O.length=k:=by
 rw[h.perm.length_eq,List.length_take];omega
theorem InsN.put (hf:∀ s,RecP (f s)) {names O:List ByteArray} {k a:Nat} {x:ByteArray} (h:InsN f names k O) (hx:names[k]? = some x) (hR:names.Pairwise fun a b=>cmpS a b = -1) (ha:a≤O.length)
  (h1:∀ y∈O.drop a,earB (f x) (f y)=true) (h2:∀ y,0<a→O[a-1]? = some y→earB (f x) (f y)=false):InsN f names (k+1) (O.take a++x::O.drop a):=by
 have hkl:=(List.getElem?_eq_some_iff.1 hx).1;have hlt:∀ y∈O,cmpS y x = -1:=by
  intro y hy;have hy2:=h.perm.mem_iff.1 hy;obtain⟨j,hj⟩:=List.getElem?_of_mem hy2;have hjk:j<k:=by
   have:=(List.getElem?_eq_some_iff.1 hj).1;rw[List.length_take]at this;omega
  rw[List.getElem?_take,if_pos hjk]at hj;rw[List.pairwise_iff_getElem]at hR;obtain⟨j1,j2⟩:=List.getElem?_eq_some_iff.1 hj;obtain⟨k1,k2⟩:=List.getElem?_eq_some_iff.1 hx;have:=hR j k j1 k1 hjk;rw[j2,k2]at this;exact this
 refine⟨?_,ins_sortedQ (rkLt_trans hf) h.sort ha (fun y hy=>?_) fun y h0 hy=>?_⟩
 ·rw[List.take_add_one,hx,Option.toList_some];exact ins_permQ h.perm
 ·have:=h1 y hy;refine⟨?_,fun h3=>absurd (this.symm.trans h3) (by decide)⟩
  rcases leR_total (hf x) (hf y) with h4 | h4
  ·exact h4
  ·exact absurd (this.symm.trans h4) (by decide)
 ·exact⟨h2 y h0 hy,fun _=>hlt y (List.mem_of_getElem? hy)⟩
end
end Go.Proofs.YtcdpdaloceengaaGreatDoor.C10
namespace Go.Proofs.YtcdpdaloceengaaGreatDoor.C10
open Go.ChangeShapes Go.WideShapes Go.Deep Go.RowKit Go.Maps
structure NRec where
 name:ByteArray
 bad:Int
 took:Int
 all:Int
instance:Inhabited NRec:=⟨⟨ByteArray.empty,0,0,0⟩⟩
def NRec.r (x:NRec):Rec:=⟨x.bad,x.took,x.all⟩
def nrec (n:ByteArray) (x:Rec):NRec:=⟨n,x.bad,x.took,x.all⟩
def RNRec:Rd NRec :=
 ⟨4,fun x=>[.string x.name,.int .i64 x.bad,.int .i64 x.took,.int .i64 x.all],
  fun w x=>RStr.ok w x.name∧RInt.ok w x.bad∧RInt.ok w x.took∧RInt.ok w x.all,
  fun x=>RStr.bulk x.name+RInt.bulk x.bad+RInt.bulk x.took+RInt.bulk x.all,fun _=>rfl,fun _ u h=>by simp only[List.mem_cons,List.not_mem_nil,or_false]at h;rcases h with rfl | rfl | rfl | rfl <;> rfl,
  fun _ _ _ hb h=>⟨RStr.mono _ _ _ hb (h.1),RInt.mono _ _ _ hb (h.2.1),RInt.mono _ _ _ hb (h.2.2.1),RInt.mono _ _ _ hb (h.2.2.2)⟩⟩
theorem cells_NRec {w:World} {b off m k:Nat} {l:List NRec} {x:NRec} (h:SlAt RNRec w (some ⟨b,off,none⟩) m l) (hx:l[k]? = some x) :
  w.cell? ⟨b,off+k*4,none⟩=some (.string x.name)∧w.cell? ⟨b,off+k*4+1,none⟩=some (.int .i64 x.bad)∧w.cell? ⟨b,off+k*4+2,none⟩=some (.int .i64 x.took)∧w.cell? ⟨b,off+k*4+3,none⟩=some (.int .i64 x.all):=by
 have hk:=(List.getElem?_eq_some_iff.1 hx).1;obtain⟨b',off',hA,hc⟩:=h.2.1 (by have:=h.1;omega);obtain⟨rfl,rfl⟩:b=b'∧off=off':=by simpa using hA
 exact⟨hc k x hx 0 _ rfl,hc k x hx 1 _ rfl,hc k x hx 2 _ rfl,hc k x hx 3 _ rfl⟩
theorem cell_alloc_lt {w:World} {o:Obj} {p:Addr} {v:Value} (h:w.cell? p=some v):(w.alloc o).cell? p=some v:=by
 have hb:=(Below.refl w.heap.size w).alloc (Nat.le_refl _) o;exact(hb.cell (cell?_lt h)).trans h
theorem mul_small {t a k:Int} (h0:0≤t) (h1:t≤300000000) (h2:0≤a) (h3:a≤3000):IntKind.i64.wrap (t*a)=t*a:=by
 have h4:0≤t*a:=Int.mul_nonneg h0 h2;have h5:t*a≤300000000*3000:=Int.mul_le_mul h1 h3 h2 (by omega);exact IntWalk.i64_in _ (by omega)
theorem earlier_any (a b:NRec) (w:World) (ha:RecOk 3000 a.r) (hb:RecOk 3000 b.r) (c:Bool) (hc:earB a.r b.r=c) :
  Calls Tryz.prog 23 #[.agg #[.string a.name,.int .i64 a.bad,.int .i64 a.took,.int .i64 a.all],.agg #[.string b.name,.int .i64 b.bad,.int .i64 b.took,.int .i64 b.all]] w fun e w'=>e = .returned (.bool c)∧Below w.heap.size w w':=by
 have a1:((w.alloc (.cells #[.string a.name,.int .i64 a.bad,.int .i64 a.took,.int .i64 a.all] 49)).alloc (.cells #[.string b.name,.int .i64 b.bad,.int .i64 b.took,.int .i64 b.all] 49)).cell? ⟨w.heap.size,1,none⟩=some (.int .i64 a.bad):=cell_alloc_lt (cell_new _ _ _ 1);have a2:((w.alloc (.cells #[.string a.name,.int .i64 a.bad,.int .i64 a.took,.int .i64 a.all] 49)).alloc (.cells #[.string b.name,.int .i64 b.bad,.int .i64 b.took,.int .i64 b.all] 49)).cell? ⟨w.heap.size,2,none⟩=some (.int .i64 a.took):=cell_alloc_lt (cell_new _ _ _ 2);have a3:((w.alloc (.cells #[.string a.name,.int .i64 a.bad,.int .i64 a.took,.int .i64 a.all] 49)).alloc (.cells #[.string b.name,.int .i64 b.bad,.int .i64 b.took,.int .i64 b.all] 49)).cell? ⟨w.heap.size,3,none⟩=some (.int .i64 a.all):=cell_alloc_lt (cell_new _ _ _ 3);have hs:(w.alloc (.cells #[.string a.name,.int .i64 a.bad,.int .i64 a.took,.int .i64 a.all] 49)).heap.size=w.heap.size+1:=by simp
 have b1:((w.alloc (.cells #[.string a.name,.int .i64 a.bad,.int .i64 a.took,.int .i64 a.all] 49)).alloc (.cells #[.string b.name,.int .i64 b.bad,.int .i64 b.took,.int .i64 b.all] 49)).cell? ⟨w.heap.size+1,1,none⟩=some (.int .i64 b.bad):=by rw[← hs];exact cell_new _ _ _ 1
 have b2:((w.alloc (.cells #[.string a.name,.int .i64 a.bad,.int .i64 a.took,.int .i64 a.all] 49)).alloc (.cells #[.string b.name,.int .i64 b.bad,.int .i64 b.took,.int .i64 b.all] 49)).cell? ⟨w.heap.size+1,2,none⟩=some (.int .i64 b.took):=by rw[← hs];exact cell_new _ _ _ 2
 have b3:((w.alloc (.cells #[.string a.name,.int .i64 a.bad,.int .i64 a.took,.int .i64 a.all] 49)).alloc (.cells #[.string b.name,.int .i64 b.bad,.int .i64 b.took,.int .i64 b.all] 49)).cell? ⟨w.heap.size+1,3,none⟩=some (.int .i64 b.all):=by rw[← hs];exact cell_new _ _ _ 3
 have hw0:Below w.heap.size w ((w.alloc (.cells #[.string a.name,.int .i64 a.bad,.int .i64 a.took,.int .i64 a.all] 49)).alloc (.cells #[.string b.name,.int .i64 b.bad,.int .i64 b.took,.int .i64 b.all] 49)):=((Below.refl w.heap.size w).alloc (Nat.le_refl _) _).alloc (by simp) _;obtain⟨⟨p1,p2⟩,⟨p3,p4⟩,p5,p6⟩:=ha;obtain⟨⟨q1,q2⟩,⟨q3,q4⟩,q5,q6⟩:=hb;obtain⟨an,ab,at_,aa⟩:=a;obtain⟨bn,bb,bt,ba⟩:=b;simp only[NRec.r]at p1 p2 p3 p4 p5 p6 q1 q2 q3 q4 q5 q6 hc;simp only at a1 a2 a3 b1 b2 b3 hw0;have w1:IntKind.i64.wrap (at_*ba)=at_*ba:=mul_small (k:=0) p3 (by omega) q5 (by omega);have w2:IntKind.i64.wrap (bt*aa)=bt*aa:=mul_small (k:=0) q3 (by omega) p5 (by omega);clear hs
 by_cases h1:ab=bb
 ·have hne:(ab != bb)=false:=by simpa using h1
  by_cases h2:aa=0
  ·have hz:(aa==0)=true:=by simpa using h2
   rw[earB_z h1 (.inl h2)]at hc;have hd:decide (ba>0)=c:=by rw[← hc];simp[h2]
   clear h1 h2;obtain⟨hcH,hw0H⟩:=hq2 hc (Lib.hid hw0);clear hc hw0;go_enter Tryz.func23,Tryz.ntmps23;go_wp2;go_ret;exact⟨rfl,hw0H.out⟩
  ·have hz:(aa==0)=false:=by simpa using h2
   by_cases h3:ba=0
   ·have hz3:(ba==0)=true:=by simpa using h3
    rw[earB_z h1 (.inr h3)]at hc;have hd:false=c:=by rw[← hc];simp[h2]
    subst hd;clear h1 h2 h3;obtain⟨hcH,hw0H⟩:=hq2 hc (Lib.hid hw0);clear hc hw0;go_enter Tryz.func23,Tryz.ntmps23;go_wp2;go_ret;exact⟨rfl,hw0H.out⟩
   ·have hz3:(ba==0)=false:=by simpa using h3
    rw[earB_p h1 (fun h=>h.elim h2 h3)]at hc;have hd:decide (at_*ba<bt*aa)=c:=hc;clear h1 h2 h3;obtain⟨hcH,hw0H⟩:=hq2 hc (Lib.hid hw0);clear hc hw0;go_enter Tryz.func23,Tryz.ntmps23;go_wp2;go_ret;exact⟨rfl,hw0H.out⟩
 ·have hne:(ab != bb)=true:=by simpa using h1
  rw[earB_ne h1]at hc;have hd:decide (ab>bb)=c:=hc;clear h1;obtain⟨hcH,hw0H⟩:=hq2 hc (Lib.hid hw0);clear hc hw0;go_enter Tryz.func23,Tryz.ntmps23;go_wp2;go_ret;exact⟨rfl,hw0H.out⟩
end Go.Proofs.YtcdpdaloceengaaGreatDoor.C10
namespace Go.Proofs.YtcdpdaloceengaaGreatDoor.C10
open Go.RowKit Go.Maps
def tal:List TestRun→ByteArray × ByteArray→Int × Int
 | [],_=>(0,0)
 | r::s,x=>if (r.test,r.key)=x then (if r.pass=true then ((tal s x).1+1,(tal s x).2) else ((tal s x).1,(tal s x).2+1)) else tal s x
def talF (l:List TestRun) (x:ByteArray × ByteArray):Option (Int × Int):=if tal l x=(0,0) then none else some (tal l x)
def valT (x:Int × Int):Value:=.agg #[.int .i64 x.1,.int .i64 x.2]
theorem injT:InjV valT:=fun a b h=>by
 simp only[valT,Value.agg.injEq,Array.mk.injEq,List.cons.injEq,Value.int.injEq,true_and,and_true]at h;exact Prod.ext h.1 h.2
theorem tal_nonneg:∀ (l:List TestRun) (x:ByteArray × ByteArray),0≤(tal l x).1∧0≤(tal l x).2∧(tal l x).1+(tal l x).2≤l.length
 | [],x=>by simp[tal]
 | r::s,x=>by
  have:=tal_nonneg s x;rw[tal];simp only[List.length_cons]
  split
  ·split <;> simp only <;> omega
  ·omega
theorem tal_snoc:∀ (l:List TestRun) (r:TestRun) (x:ByteArray × ByteArray),tal (l ++ [r]) x=if (r.test,r.key)=x then (if r.pass=true then ((tal l x).1+1,(tal l x).2) else ((tal l x).1,(tal l x).2+1)) else tal l x
 | [],r,x=>by simp[tal]
 | y::s,r,x=>by
  have ih:=tal_snoc s r x;rw[List.cons_append,tal,ih,tal]
  by_cases h1:(y.test,y.key)=x
  ·by_cases h2:(r.test,r.key)=x
   ·by_cases p1:y.pass=true
    ·by_cases p2:r.pass=true
     ·simp[h1,h2,p1,p2]
     ·simp[h1,h2,p1,p2]
    ·by_cases p2:r.pass=true
     ·simp[h1,h2,p1,p2]
     ·simp[h1,h2,p1,p2]
   ·simp[h1,h2]
  ·simp[h1]
theorem talF_snoc (l:List TestRun) (r:TestRun):upd (talF l) (r.test,r.key) (tal (l ++ [r]) (r.test,r.key))=talF (l ++ [r]):=by
 funext x
 unfold upd talF;rw[tal_snoc l r x,tal_snoc l r (r.test,r.key)]
 by_cases h:x=(r.test,r.key)
 ·subst h;have h0:=tal_nonneg l (r.test,r.key);simp only[if_true]
  split
  ·rw[if_neg];intro e;have:=congrArg Prod.fst e;simp only at this;omega
  ·rw[if_neg];intro e;have:=congrArg Prod.snd e;simp only at this;omega
 ·simp only[if_neg h,if_neg (show ¬ (r.test,r.key)=x from fun e=>h e.symm)]
end Go.Proofs.YtcdpdaloceengaaGreatDoor.C10
namespace Go.Proofs.YtcdpdaloceengaaGreatDoor.C10
open Go.ChangeShapes Go.WideShapes Go.Deep Go.RowKit Go.Sort
def bsOf (x:List UInt8):ByteArray:=⟨x.toArray⟩
theorem bsOf_data (s:ByteArray):bsOf s.data.toList=s:=by cases s;simp[bsOf]
theorem data_bsOf (x:List UInt8):(bsOf x).data.toList=x:=by simp[bsOf]
def dat (l:List ByteArray):List (List UInt8):=l.map (·.data.toList)
def und (l:List (List UInt8)):List ByteArray:=l.map bsOf
theorem und_dat (l:List ByteArray):und (dat l)=l:=by simp[und,dat,Function.comp_def,bsOf_data]
theorem dat_und (l:List (List UInt8)):dat (und l)=l:=by simp[und,dat,Function.comp_def,data_bsOf]
theorem vals_dat (l:List ByteArray):l.flatMap RStr.vals=(dat l).map encStr:=by
 have h:l.flatMap RStr.vals=l.map Value.string:=by
  induction l with
  | nil=>rfl
  | cons x s ih=>rw[List.flatMap_cons,ih];rfl
 rw[h,dat,Lib.map_encStr]
theorem own_dat {e:TypeId} {w:World} {base:Nat} {v:Value} {l:List ByteArray} (h:Own RStr e w base v l):w.ownsRow base e 1 v l.length ((dat l).map encStr):=by
 have:=h.1
 rwa [vals_dat]at this
theorem own_und {e:TypeId} {w:World} {base n:Nat} {v:Value} {l:List (List UInt8)} (h:w.ownsRow base e 1 v n (l.map encStr)) (hn:n=l.length) (hs:∀ x∈l,x.length≤maxLen):Own RStr e w base v (und l):=by
 subst hn;refine⟨?_,fun x hx=>?_⟩
 ·rw[vals_dat,dat_und,show (und l).length=l.length by simp[und]];exact h
 ·obtain⟨y,hy,rfl⟩:=List.mem_map.1 hx;have:=hs y hy;show y.toArray.size≤maxLen
  simpa using this
def sortB (l:List ByteArray):List ByteArray:=und ((dat l).mergeSort (fun x y=>decide (x≤y)))
def compB (l:List ByteArray):List ByteArray:=und (Lib.compact (dat l))
theorem mem_und {l:List (List UInt8)} {s:ByteArray}:s∈und l↔s.data.toList∈l:=by
 constructor
 ·intro h;obtain⟨y,hy,rfl⟩:=List.mem_map.1 h
  rwa [data_bsOf]
 ·intro h;exact List.mem_map.2 ⟨_,h,bsOf_data s⟩
theorem mem_dat {l:List ByteArray} {x:List UInt8}:x∈dat l↔bsOf x∈l:=by
 constructor
 ·intro h;obtain⟨y,hy,rfl⟩:=List.mem_map.1 h
  rwa [bsOf_data]
 ·intro h;exact List.mem_map.2 ⟨_,h,data_bsOf x⟩
theorem mem_sortB {l:List ByteArray} {s:ByteArray}:s∈sortB l↔s∈l:=by
 rw[sortB,mem_und,List.mem_mergeSort,mem_dat,bsOf_data]
theorem leB_trans:∀ a b c:List UInt8,decide (a≤b)=true→decide (b≤c)=true→decide (a≤c)=true:=fun a b c h1 h2=>by simp only[decide_eq_true_eq]at *;exact List.le_trans h1 h2
theorem leB_total:∀ a b:List UInt8,(decide (a≤b)||decide (b≤a))=true:=fun a b=>by simp only[Bool.or_eq_true,decide_eq_true_eq];exact List.le_total a b
def Rising (l:List ByteArray):Prop:=(dat l).Pairwise (fun a b=>a≤b∧a≠b)
theorem Rising.eq {l l':List ByteArray} (h:Rising l) (h':Rising l') (hm:∀ s,s∈l↔s∈l'):l=l':=by
 have hp:(dat l).Perm (dat l'):=by
  refine(List.perm_ext_iff_of_nodup (h.imp fun h=>h.2) (h'.imp fun h=>h.2)).2 fun x=>?_;rw[mem_dat,mem_dat,hm]
 have he:dat l=dat l':=List.Perm.eq_of_pairwise (le:=fun a b:List UInt8=>a≤b) (fun a b _ _ h1 h2=>List.le_antisymm h1 h2) (h.imp fun h=>h.1) (h'.imp fun h=>h.1) hp;rw[← und_dat l,he,und_dat]
theorem compact_rise (d:Array (List UInt8)) (hs:∀ i j,i≤j→j<d.size→d[i]!≤d[j]!):∀ m,m≤d.size→(Lib.compactUpTo d m).Pairwise (fun a b=>a≤b∧a≠b)∧∀ x,x∈Lib.compactUpTo d m↔∃ j,j<m∧d[j]! = x
 | 0,_=>⟨by simp[Lib.compactUpTo],fun x=>by simp[Lib.compactUpTo]⟩
 | m+1,hm=>by
  obtain⟨h1,h2⟩:=compact_rise d hs m (by omega);rw[Lib.compactUpTo_succ]
  by_cases hk:Lib.keeps d m=true
  ·rw[if_pos hk];refine⟨List.pairwise_append.2 ⟨h1,by simp,fun a ha b hb=>?_⟩,fun x=>?_⟩
   ·simp only[List.mem_singleton]at hb;subst hb;obtain⟨j,hj,rfl⟩:=(h2 a).1 ha;refine⟨hs j m (by omega) (by omega),fun e=>?_⟩;have hk':m=0∨d[m]!≠d[m-1]!:=by simpa[Lib.keeps]using hk
    rcases hk' with h0 | h0
    ·omega
    ·refine h0 (List.le_antisymm ?_ (hs (m-1) m (by omega) (by omega)));rw[← e];exact hs j (m-1) (by omega) (by omega)
   ·rw[List.mem_append,h2,List.mem_singleton]
    constructor
    ·rintro(⟨j,hj,rfl⟩ | rfl)
     ·exact⟨j,by omega,rfl⟩
     ·exact⟨m,by omega,rfl⟩
    ·rintro⟨j,hj,rfl⟩
     by_cases e:j=m
     ·subst e;exact Or.inr rfl
     ·exact Or.inl ⟨j,by omega,rfl⟩
  ·rw[if_neg hk,List.append_nil];have hk':¬ m=0∧d[m]! = d[m-1]!:=by simpa[Lib.keeps]using hk
   refine⟨h1,fun x=>?_⟩;rw[h2]
   constructor
   ·rintro⟨j,hj,rfl⟩;exact⟨j,by omega,rfl⟩
   ·rintro⟨j,hj,rfl⟩
    by_cases e:j=m
    ·subst e;exact⟨j-1,by omega,hk'.2.symm⟩
    ·exact⟨j,by omega,rfl⟩
theorem rising_comp (l:List ByteArray):Rising (compB (sortB l))∧∀ s,s∈compB (sortB l)↔s∈l:=by
 have hp:=List.pairwise_mergeSort leB_trans leB_total (dat l);obtain⟨ss,hss⟩:∃ ss,(dat l).mergeSort (fun x y=>decide (x≤y))=ss:=⟨_,rfl⟩;rw[hss]at hp;have hs:∀ i j,i≤j→j<ss.toArray.size→ss.toArray[i]!≤ss.toArray[j]!:=by
  intro i j hij hj;have hj':j<ss.length:=by simpa using hj
  rw[getElem!_pos _ i (by simp;omega),getElem!_pos _ j hj]
  by_cases e:i=j
  ·subst e;exact List.le_refl _
  ·have:=List.pairwise_iff_getElem.1 hp i j (by omega) hj' (by omega)
   simpa using this
 obtain⟨h1,h2⟩:=compact_rise ss.toArray hs ss.length (by simp);have hd:dat (sortB l)=ss:=by rw[sortB,dat_und,hss]
 refine⟨?_,fun s=>?_⟩
 ·rw[Rising,compB,dat_und,hd];exact h1
 ·rw[compB,mem_und,hd,← mem_sortB (l:=l),sortB,hss,mem_und];show _∈Lib.compactUpTo ss.toArray ss.length↔_;rw[h2]
  constructor
  ·rintro⟨j,hj,e⟩;rw[← e,getElem!_pos _ j (by simpa using hj)];simp
  ·intro h;obtain⟨j,hj,e⟩:=List.getElem_of_mem h;exact⟨j,hj,by rw[getElem!_pos _ j (by simpa using hj)];simpa using e⟩
theorem rising_sorted {ss:List (List UInt8)} (hn:ss.Nodup):Rising (und (ss.mergeSort (fun x y=>decide (x≤y)))):=by
 rw[Rising,dat_und];have hp:=List.pairwise_mergeSort leB_trans leB_total ss;have hnd:(ss.mergeSort (fun x y=>decide (x≤y))).Nodup:=(List.mergeSort_perm ss _).nodup_iff.2 hn;exact(hp.and hnd).imp fun ⟨a,b⟩=>⟨by simpa using a,b⟩
theorem sort_own (A:Option Addr) (n cap:Nat) (l:List ByteArray) (w:World) (base:Nat) (h:Own RStr 9 w base (.slice A n cap) l) (hn:n≤1000000) :
  Calls Tryz.prog 26 #[.slice A n cap] w fun e w'=>e = .returned (.tuple #[])∧Own RStr 9 w' base (.slice A n cap) (sortB l)∧w.grownBy w' (Value.ownBlock (.slice A n cap)):=by
 have hd:=own_dat h;have hl:=h.len
 rcases hd.2 with ⟨e0,hn0⟩ | ⟨g,cap',cur,e0,hb,hg,h1,h2,h3,h4⟩
 ·injection e0 with e1 e2 e3;subst e1 e2 e3;obtain rfl:l = []:=List.eq_nil_of_length_eq_zero hl;refine(Tryz.slices_Sort_string_none none 0 w).mono ?_;rintro e w' ⟨rfl,rfl⟩;exact⟨rfl,by rw[show sortB [] = [] by simp[sortB,dat,und]];exact h,World.grownBy.refl _ _⟩
 ·injection e0 with e1 e2 e3;subst e1 e3;subst e2;have hdl:(dat l).length=l.length:=by simp[dat]
  have hlt:g<w.heap.size:=(Array.getElem?_eq_some_iff.1 hg).1;have hc:=Tryz.slices_Sort_string g 0 cap (dat l) w (holds_of_block hg (by rw[hdl];simpa using h4)) hlt (by rw[hdl];omega);rw[hdl]at hc;refine hc.mono ?_;rintro e w' ⟨rfl,m,os,rfl⟩;have hr:=ownsRow_sorted (n:=m) (os:=os) (ss:=dat l) (ts:=(dat l).mergeSort fun x y=>decide (x≤y)) (by simp) hb hg (by rw[hdl];exact h1) h2 h3;rw[hdl]at hr;refine⟨rfl,own_und hr (by simp[dat]) (fun x hx=>?_),grownBy_sorted _⟩;have hx:=List.mem_mergeSort.1 hx;rw[mem_dat]at hx;have:=h.2 _ hx;have h5:x.toArray.size≤maxLen:=this
  simpa using h5
theorem comp_own (A:Option Addr) (n cap:Nat) (l:List ByteArray) (w:World) (base:Nat) (h:Own RStr 9 w base (.slice A n cap) l) (hn:n≤1000000) (hbase:base≤w.heap.size) :
  Calls Tryz.prog 27 #[.slice A n cap] w fun e w'=>∃ k,k≤n∧e = .returned (.slice A k cap)∧Own RStr 9 w' base (.slice A k cap) (compB l)∧Below base w w':=by
 have hd:=own_dat h;have hl:=h.len
 rcases hd.2 with ⟨e0,hn0⟩ | ⟨g,cap',cur,e0,hb,hg,h1,h2,h3,h4⟩
 ·injection e0 with e1 e2 e3;subst e1 e2 e3;obtain rfl:l = []:=List.eq_nil_of_length_eq_zero hl;refine(Tryz.slices_Compact_string_empty none 0 w).mono ?_;rintro e w' ⟨rfl,rfl⟩;exact⟨0,Nat.le_refl _,rfl,by rw[show compB [] = [] by rfl];exact h,(Below.refl _ _).mono hbase⟩
 ·injection e0 with e1 e2 e3;subst e1 e3;subst e2;have hdl:(dat l).length=l.length:=by simp[dat]
  have hc:=Tryz.slices_Compact_string g 0 cap (dat l) w (holds_of_block hg (by rw[hdl];simpa using h4)) (by rw[hdl];omega) (by rw[hdl];exact h1);rw[hdl]at hc;refine hc.mono ?_;rintro e w' ⟨rfl,q,rfl⟩;have hk:(Lib.compact (dat l)).length≤l.length:=by have:=Lib.compact_length_le (dat l);omega
  have hr:=Lib.ownsRow_putRow (q:=q) (k:=(Lib.compact (dat l)).length) (zs:=dat l) (ys:=Lib.compact (dat l)++List.replicate (l.length-(Lib.compact (dat l)).length) []) hd (by simp;omega) hk;rw[List.take_left]at hr;refine⟨_,hk,rfl,own_und hr rfl (fun x hx=>?_),Lib.below_putRow ((Below.refl _ _).mono hbase) hb⟩;have hx:bsOf x∈compB l:=by rw[compB,mem_und,data_bsOf];exact hx
  have hsub:∀ s,s∈compB l→s∈l:=by
   intro s hs;rw[compB,mem_und]at hs;obtain⟨j,hj,e⟩:=List.mem_map.1 (show s.data.toList∈((List.range (dat l).length).filter (Lib.keeps (dat l).toArray)).map ((dat l).toArray[·]!) from hs);have hj2:j<(dat l).length:=List.mem_range.1 (List.mem_filter.1 hj).1;have hm:s.data.toList∈dat l:=by rw[← e,getElem!_pos _ j (by simpa using hj2)];simp
   rw[mem_dat,bsOf_data]at hm;exact hm
  have:=h.2 _ (hsub _ hx);have h5:x.toArray.size≤maxLen:=this
  simpa using h5
theorem equal_same (A1 A2:Option Addr) (n1 c1 n2 c2:Nat) (L:List ByteArray) (w:World) (h1:SlAt RStr w A1 n1 L) (h2:SlAt RStr w A2 n2 L) (hn:n1≤9223372036854775807) :
  Calls Tryz.prog 6 #[.slice A1 n1 c1,.slice A2 n2 c2] w fun e w'=>e = .returned (.bool true)∧Below w.heap.size w w':=by
 obtain rfl:n1=n2:=h1.1.symm.trans h2.1
 by_cases h0:n1=0
 ·subst h0;refine(Tryz.slices_Equal_string_empty A1 A2 c1 0 c2 w (by omega)).mono ?_;rintro e w' ⟨rfl,rfl⟩;exact⟨by simp,Below.refl _ _⟩
 ·obtain⟨b1,o1,rfl,_⟩:=h1.2.1 (by omega);obtain⟨b2,o2,rfl,_⟩:=h2.2.1 (by omega);have hcell:∀ {b o:Nat},SlAt RStr w (some ⟨b,o,none⟩) n1 L→∀ j,j<L.length→w.cell? ⟨b,o+j,none⟩=some (.string (L.getD j ByteArray.empty)):=fun {b o} h j hj=>by
   rw[List.getD_eq_getElem?_getD,List.getElem?_eq_getElem hj,Option.getD_some];exact cell_Str h (List.getElem?_eq_getElem hj)
  refine(Tryz.slices_Equal_string b1 o1 n1 c1 b2 o2 n1 c2 L L w (by rw[h1.1];exact Nat.le_refl _) (by rw[h1.1];exact Nat.le_refl _) hn hn (hcell h1) (hcell h2)).mono ?_;rintro e w' ⟨rfl,q,rfl⟩;exact⟨by simp,bel_drewN (Below.refl _ _) q⟩
end Go.Proofs.YtcdpdaloceengaaGreatDoor.C10
namespace Go.Proofs.YtcdpdaloceengaaGreatDoor.C10
open Go.ChangeShapes Go.WideShapes Go.Deep Go.RowKit Go.Sort Go.Maps Go.Shelf
noncomputable def KB:KD Tryz.prog 9 ByteArray:=KStr Tryz.underlying9
end Go.Proofs.YtcdpdaloceengaaGreatDoor.C10