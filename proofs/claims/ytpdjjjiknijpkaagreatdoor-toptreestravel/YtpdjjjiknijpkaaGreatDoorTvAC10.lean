/-
 Several texts of mine as one, without what is not wanted here: XIn, XBsO, XWord, XWordP, XDigB, XBlkT.
-/
import Derived.Deep.QuietTactic
import Derived.BigQuiet
import Derived.Shelf.Strings.SlTrimAscii
import Derived.Test.YtpdjjjiknijpkaaGreatDoorTvGb
set_option linter.unusedVariables false
set_option linter.unusedSimpArgs false
set_option maxRecDepth 100000
set_option maxHeartbeats 8000000
namespace Go.Proofs.YtpdjjjiknijpkaaGreatDoor.C10
open Go.RowKit
theorem bel_drewN {B:Nat} {a w:World} (h:Below B a w) (n:Nat):Below B a (w.drewN n):=h.trans ⟨rfl,rfl,rfl,Nat.le_refl _,fun _ _=>rfl⟩
def inR (lo hi n:Int):Bool:=decide (lo≤n)&&decide (n≤hi)
theorem inR_true {lo hi n:Int} (h:inR lo hi n=true):lo≤n∧n≤hi:=by simpa[inR]using h
def BsRelT (k0 n:Nat) (w0:World) (vi vj:Value) (wr:World):Prop:=∃ i j:Nat,vi = .int .i64 i∧vj = .int .i64 j∧i≤k0∧k0≤j∧j≤n∧Below w0.heap.size w0 wr
theorem split_key {α:Type} (key:α→ByteArray) (s:ByteArray):∀ (l:List α),(l.Pairwise fun a b=>cmpS (key a) (key b) = -1)→∃ k0,k0≤l.length∧(∀ t x,l[t]? = some x→t<k0→cmpS (key x) s = -1)∧(∀ t x,l[t]? = some x→k0≤t→cmpS (key x) s≠-1)
 | [],_=>⟨0,Nat.le_refl _,fun t x h=>by simp at h,fun t x h=>by simp at h⟩
 | y::r,h=>by
  rw[List.pairwise_cons]at h
  by_cases hy:cmpS (key y) s = -1
  ·obtain⟨k,hk,h1,h2⟩:=split_key key s r h.2;refine⟨k+1,by rw[List.length_cons];omega,fun t x hx ht=>?_,fun t x hx ht=>?_⟩
   ·cases t with
    | zero=>simp at hx;subst hx;exact hy
    | succ t=>exact h1 t x (by simpa using hx) (by omega)
   ·cases t with
    | zero=>omega
    | succ t=>exact h2 t x (by simpa using hx) (by omega)
  ·refine⟨0,Nat.zero_le _,fun t x _ ht=>by omega,fun t x hx _=>?_⟩
   cases t with
   | zero=>simp at hx;subst hx;exact hy
   | succ t =>
    intro hc;exact hy (cmpS_trans (h.1 x (List.mem_of_getElem? (by simpa using hx))) hc)
structure BsAt {α:Type} (key:α→ByteArray) (l:List α) (s:ByteArray) (i:Nat) (f:Bool):Prop where
 le:i≤l.length
 lo:∀ (t:Nat) x,l[t]? = some x→t<i→cmpS (key x) s = -1
 hi:∀ (t:Nat) x,l[t]? = some x→i≤t→cmpS (key x) s≠-1
 yes:f=true→∃ x,l[i]? = some x∧key x=s
 no:f=false→∀ x∈l,key x≠s
def BsAns {α:Type} (key:α→ByteArray) (l:List α) (s:ByteArray) (w:World) (e:Ending) (w':World):Prop:=∃ (i:Nat) (f:Bool),e = .returned (.tuple #[.int .i64 i,.bool f])∧Below w.heap.size w w'∧BsAt key l s i f
theorem find1_any (x:ObT) (s:ByteArray) (w:World) :
  Calls Tryz.prog 56 #[.agg #[.string x.dig,.slice x.bytes.A x.bytes.n x.bytes.cap],.string s] w fun e w'=>e = .returned (.int .i64 (cmpS x.dig s))∧Below w.heap.size w w':=by
 have hba:=(Below.refl w.heap.size w).alloc (Nat.le_refl _) (.cells #[.string x.dig,.slice x.bytes.A x.bytes.n x.bytes.cap] 41);have hbaH:=Lib.hid hba;clear hba;go_enter Tryz.func56,Tryz.ntmps56;go_wp2_with (go_at_call 16;refine(Tryz.strings_Compare _ _ _).mono ?_;rintro e w1 ⟨rfl,rfl⟩);go_ret;exact⟨rfl,hbaH.out⟩
theorem find_bsf (A:Option Addr) (n c:Nat) (l:List ObT) (s:ByteArray) (w:World) (hn:n≤100000) (hl:SlAt ROv w A n l) (hr:l.Pairwise fun a b=>cmpS a.dig b.dig = -1) :
  Calls Tryz.prog 55 #[.slice A n c,.string s,.func (.func 56) #[] #[]] w (BsAns (fun x:ObT=>x.dig) l s w):=by
 obtain⟨Z,hZ⟩:∃ Z,BsAns (fun x:ObT=>x.dig) l s w=Z:=⟨_,rfl⟩;have hZ':∀ e W,BsAns (fun x:ObT=>x.dig) l s w e W→Z e W:=fun e W h=>by rw[← hZ];exact h
 rw[hZ];clear hZ;have hll:=hl.1;have eg:∀ args w,(callFunc 56 args).run Tryz.prog w = .ok (.enter 56 args) w:=enters_of Tryz.func56 (by kernel_rfl) rfl;obtain⟨k0,hk0,hlo,hhi⟩:=split_key (fun x:ObT=>x.dig) s l hr;have hR:∀ W,Below w.heap.size w W→(k0=n→Z (.returned (.tuple #[.int .i64 k0,.bool false])) W)∧(∀ x,l[k0]? = some x→Z (.returned (.tuple #[.int .i64 k0,.bool (cmpS x.dig s==0)])) W):=by
  intro W hW;refine⟨fun hk=>hZ' _ _ ⟨k0,false,rfl,hW,⟨hk0,hlo,hhi,fun h=>(by cases h),fun _ x hx e=>?_⟩⟩,fun x hx=>hZ' _ _ ⟨k0,_,rfl,hW,⟨hk0,hlo,hhi,fun h=>⟨x,hx,(cmpS_zero _ _).1 (by simpa using h)⟩,fun h y hy e=>?_⟩⟩⟩
  ·obtain⟨t,ht,rfl⟩:=List.getElem_of_mem hx;have:=hlo t _ (List.getElem?_eq_getElem ht) (by omega);rw[show (l[t]).dig=s from e,(cmpS_zero _ _).2 rfl]at this;cases this
  ·obtain⟨t,ht,rfl⟩:=List.getElem_of_mem hy;have e:(l[t]).dig=s:=e
   rcases Nat.lt_trichotomy t k0 with h1 | h1 | h1
   ·have:=hlo t _ (List.getElem?_eq_getElem ht) h1;rw[show (l[t]).dig=s from e,(cmpS_zero _ _).2 rfl]at this;cases this
   ·subst h1;rw[List.getElem?_eq_getElem ht]at hx;injection hx with hx;rw[← hx,e,(cmpS_zero _ _).2 rfl]at h;simp at h
   ·obtain⟨h2,e2⟩:=List.getElem?_eq_some_iff.1 hx;have:=List.pairwise_iff_getElem.1 hr k0 t h2 ht h1;rw[e2,e]at this;exact hhi k0 x hx (Nat.le_refl _) this
 obtain⟨hlH,hllH,hrH,hloH,hhiH,hZ'H,hRH⟩:=hq2 hl (hq2 hll (hqb hr hlo hhi hZ' (Lib.hid hR)));clear hl hll hr hlo hhi hZ' hR;go_enter Tryz.func55,Tryz.ntmps55;go_wp2
 go_loopw [9,10] (fun vi vj wr=>BsRelT k0 n w vi vj wr) (fun vi vj _=>(intOf vj).toNat-(intOf vi).toNat)
 case atStart=>exact⟨0,n,rfl,rfl,Nat.zero_le _,by have:=hllH.out;omega,Nat.le_refl _,Below.refl _ _⟩
 case round =>
  obtain⟨i,j,rfl,rfl,hi,hj,hjn,hb⟩:=hrel;have hbs:=hb.size
  by_cases hlt:i<j
  ·obtain⟨b,off,hA,_⟩:=hlH.out.2.1 (by omega);subst hA;obtain⟨x,hx⟩:∃ x,l[(i+j) / 2]? = some x:=⟨l[(i+j) / 2]'(by have:=hllH.out;omega),List.getElem?_eq_getElem _⟩;have hcs:=cells_ObT (hlH.out.below hb) hx;obtain⟨c0,c1⟩:=hcs;have e1:((i:Int)+(j:Int)) / 2=(((i+j) / 2:Nat):Int):=by omega
   by_cases hc:cmpS x.dig s = -1
   ·have hik:(i+j) / 2<k0:=by
     rcases Nat.lt_or_ge ((i+j) / 2) k0 with h | h
     ·exact h
     ·exact absurd hc (hhiH.out _ x hx h)
    have R:∀ w',Below wr.heap.size wr w'→BsRelT k0 n w (.int .i64 (((i:Int)+(j:Int)) / 2+1)) (.int .i64 j) w':=fun w' h=>⟨(i+j) / 2+1,j,by rw[e1];rfl,rfl,by omega,hj,hjn,hb.trans (h.mono hbs)⟩;obtain⟨cx,hcx⟩:∃ c,cmpS x.dig s=c:=⟨_,rfl⟩;rw[hcx]at hc;subst hc;obtain⟨hxH,hbH,e1H,RH,hikH,hcxH⟩:=hq2 hx (hqb hb e1 R hik (Lib.hid hcx));clear hx hb e1 R hik hcx;go_wp2_with (go_at_fn 56;refine(find1_any x s _).mono ?_;rintro e w' ⟨rfl,hb'⟩;rw[hcxH.out];have hb'H:=Lib.hid hb';clear hb');refine⟨?rel,?measure⟩
    case measure=>simp[intOf];omega
    case rel=>exact RH.out _ hb'H.out
   ·have hik:k0≤(i+j) / 2:=by
     rcases Nat.lt_or_ge ((i+j) / 2) k0 with h | h
     ·exact absurd (hloH.out _ x hx h) hc
     ·exact h
    obtain⟨cx,hcx⟩:∃ c,cmpS x.dig s=c:=⟨_,rfl⟩;have hcr:=cmpS_range x.dig s;rw[hcx]at hc hcr;have hnn:decide (cx<0)=false:=decide_eq_false (by omega);have R:∀ w',Below wr.heap.size wr w'→BsRelT k0 n w (.int .i64 i) (.int .i64 (((i:Int)+(j:Int)) / 2)) w':=fun w' h=>⟨i,(i+j) / 2,rfl,by rw[e1],hi,hik,by omega,hb.trans (h.mono hbs)⟩;clear hcr hc;obtain⟨hxH,hbH,e1H,RH,hikH,hcxH⟩:=hq2 hx (hqb hb e1 R hik (Lib.hid hcx));clear hx hb e1 R hik hcx;go_wp2_with (go_at_fn 56;refine(find1_any x s _).mono ?_;rintro e w' ⟨rfl,hb'⟩;rw[hcxH.out];have hb'H:=Lib.hid hb';clear hb');refine⟨?rel,?measure⟩
    case measure=>simp[intOf];omega
    case rel=>exact RH.out _ hb'H.out
  ·have hij:i=k0:=by omega
   have hjk:j=k0:=by omega
   subst hij;subst hjk
   by_cases hkn:j<n
   ·obtain⟨b,off,hA,_⟩:=hlH.out.2.1 (by omega);subst hA;obtain⟨x,hx⟩:∃ x,l[j]? = some x:=⟨l[j]'(by have:=hllH.out;omega),List.getElem?_eq_getElem _⟩;have hcs:=cells_ObT (hlH.out.below hb) hx;obtain⟨c0,c1⟩:=hcs;have R:=fun W h=>(hRH.out W h).2 x hx;obtain⟨cx,hcx⟩:∃ c,cmpS x.dig s=c:=⟨_,rfl⟩;rw[hcx]at R;obtain⟨hxH,hbH,hcxH,RH⟩:=hq2 hx (hq2 hb (hq2 hcx (Lib.hid R)));clear hx hb hcx R;go_wp2_with (go_at_fn 56;refine(find1_any x s _).mono ?_;rintro e w' ⟨rfl,hb'⟩;rw[hcxH.out];have hb'H:=Lib.hid hb';clear hb');exact RH.out _ (hbH.out.trans (hb'H.out.mono hbH.out.size))
   ·have R:=(hRH.out wr hb).1 (by omega);obtain⟨hbH,RH⟩:=hq2 hb (Lib.hid R);clear hb R;go_wp2_with fail;exact RH.out
theorem done1_any (x:ObT) (s:ByteArray) (w:World) :
  Calls Tryz.prog 66 #[.agg #[.string x.dig,.slice x.bytes.A x.bytes.n x.bytes.cap],.string s] w fun e w'=>e = .returned (.int .i64 (cmpS x.dig s))∧Below w.heap.size w w':=by
 have hba:=(Below.refl w.heap.size w).alloc (Nat.le_refl _) (.cells #[.string x.dig,.slice x.bytes.A x.bytes.n x.bytes.cap] 41);have hbaH:=Lib.hid hba;clear hba;go_enter Tryz.func66,Tryz.ntmps66;go_wp2_with (go_at_call 16;refine(Tryz.strings_Compare _ _ _).mono ?_;rintro e w1 ⟨rfl,rfl⟩);go_ret;exact⟨rfl,hbaH.out⟩
theorem done_bsf (A:Option Addr) (n c:Nat) (l:List ObT) (s:ByteArray) (w:World) (hn:n≤100000) (hl:SlAt ROv w A n l) (hr:l.Pairwise fun a b=>cmpS a.dig b.dig = -1) :
  Calls Tryz.prog 55 #[.slice A n c,.string s,.func (.func 66) #[] #[]] w (BsAns (fun x:ObT=>x.dig) l s w):=by
 obtain⟨Z,hZ⟩:∃ Z,BsAns (fun x:ObT=>x.dig) l s w=Z:=⟨_,rfl⟩;have hZ':∀ e W,BsAns (fun x:ObT=>x.dig) l s w e W→Z e W:=fun e W h=>by rw[← hZ];exact h
 rw[hZ];clear hZ;have hll:=hl.1;have eg:∀ args w,(callFunc 66 args).run Tryz.prog w = .ok (.enter 66 args) w:=enters_of Tryz.func66 (by kernel_rfl) rfl;obtain⟨k0,hk0,hlo,hhi⟩:=split_key (fun x:ObT=>x.dig) s l hr;have hR:∀ W,Below w.heap.size w W→(k0=n→Z (.returned (.tuple #[.int .i64 k0,.bool false])) W)∧(∀ x,l[k0]? = some x→Z (.returned (.tuple #[.int .i64 k0,.bool (cmpS x.dig s==0)])) W):=by
  intro W hW;refine⟨fun hk=>hZ' _ _ ⟨k0,false,rfl,hW,⟨hk0,hlo,hhi,fun h=>(by cases h),fun _ x hx e=>?_⟩⟩,fun x hx=>hZ' _ _ ⟨k0,_,rfl,hW,⟨hk0,hlo,hhi,fun h=>⟨x,hx,(cmpS_zero _ _).1 (by simpa using h)⟩,fun h y hy e=>?_⟩⟩⟩
  ·obtain⟨t,ht,rfl⟩:=List.getElem_of_mem hx;have:=hlo t _ (List.getElem?_eq_getElem ht) (by omega);rw[show (l[t]).dig=s from e,(cmpS_zero _ _).2 rfl]at this;cases this
  ·obtain⟨t,ht,rfl⟩:=List.getElem_of_mem hy;have e:(l[t]).dig=s:=e
   rcases Nat.lt_trichotomy t k0 with h1 | h1 | h1
   ·have:=hlo t _ (List.getElem?_eq_getElem ht) h1;rw[show (l[t]).dig=s from e,(cmpS_zero _ _).2 rfl]at this;cases this
   ·subst h1;rw[List.getElem?_eq_getElem ht]at hx;injection hx with hx;rw[← hx,e,(cmpS_zero _ _).2 rfl]at h;simp at h
   ·obtain⟨h2,e2⟩:=List.getElem?_eq_some_iff.1 hx;have:=List.pairwise_iff_getElem.1 hr k0 t h2 ht h1;rw[e2,e]at this;exact hhi k0 x hx (Nat.le_refl _) this
 obtain⟨hlH,hllH,hrH,hloH,hhiH,hZ'H,hRH⟩:=hq2 hl (hq2 hll (hqb hr hlo hhi hZ' (Lib.hid hR)));clear hl hll hr hlo hhi hZ' hR;go_enter Tryz.func55,Tryz.ntmps55;go_wp2
 go_loopw [9,10] (fun vi vj wr=>BsRelT k0 n w vi vj wr) (fun vi vj _=>(intOf vj).toNat-(intOf vi).toNat)
 case atStart=>exact⟨0,n,rfl,rfl,Nat.zero_le _,by have:=hllH.out;omega,Nat.le_refl _,Below.refl _ _⟩
 case round =>
  obtain⟨i,j,rfl,rfl,hi,hj,hjn,hb⟩:=hrel;have hbs:=hb.size
  by_cases hlt:i<j
  ·obtain⟨b,off,hA,_⟩:=hlH.out.2.1 (by omega);subst hA;obtain⟨x,hx⟩:∃ x,l[(i+j) / 2]? = some x:=⟨l[(i+j) / 2]'(by have:=hllH.out;omega),List.getElem?_eq_getElem _⟩;have hcs:=cells_ObT (hlH.out.below hb) hx;obtain⟨c0,c1⟩:=hcs;have e1:((i:Int)+(j:Int)) / 2=(((i+j) / 2:Nat):Int):=by omega
   by_cases hc:cmpS x.dig s = -1
   ·have hik:(i+j) / 2<k0:=by
     rcases Nat.lt_or_ge ((i+j) / 2) k0 with h | h
     ·exact h
     ·exact absurd hc (hhiH.out _ x hx h)
    have R:∀ w',Below wr.heap.size wr w'→BsRelT k0 n w (.int .i64 (((i:Int)+(j:Int)) / 2+1)) (.int .i64 j) w':=fun w' h=>⟨(i+j) / 2+1,j,by rw[e1];rfl,rfl,by omega,hj,hjn,hb.trans (h.mono hbs)⟩;obtain⟨cx,hcx⟩:∃ c,cmpS x.dig s=c:=⟨_,rfl⟩;rw[hcx]at hc;subst hc;obtain⟨hxH,hbH,e1H,RH,hikH,hcxH⟩:=hq2 hx (hqb hb e1 R hik (Lib.hid hcx));clear hx hb e1 R hik hcx;go_wp2_with (go_at_fn 66;refine(done1_any x s _).mono ?_;rintro e w' ⟨rfl,hb'⟩;rw[hcxH.out];have hb'H:=Lib.hid hb';clear hb');refine⟨?rel,?measure⟩
    case measure=>simp[intOf];omega
    case rel=>exact RH.out _ hb'H.out
   ·have hik:k0≤(i+j) / 2:=by
     rcases Nat.lt_or_ge ((i+j) / 2) k0 with h | h
     ·exact absurd (hloH.out _ x hx h) hc
     ·exact h
    obtain⟨cx,hcx⟩:∃ c,cmpS x.dig s=c:=⟨_,rfl⟩;have hcr:=cmpS_range x.dig s;rw[hcx]at hc hcr;have hnn:decide (cx<0)=false:=decide_eq_false (by omega);have R:∀ w',Below wr.heap.size wr w'→BsRelT k0 n w (.int .i64 i) (.int .i64 (((i:Int)+(j:Int)) / 2)) w':=fun w' h=>⟨i,(i+j) / 2,rfl,by rw[e1],hi,hik,by omega,hb.trans (h.mono hbs)⟩;clear hcr hc;obtain⟨hxH,hbH,e1H,RH,hikH,hcxH⟩:=hq2 hx (hqb hb e1 R hik (Lib.hid hcx));clear hx hb e1 R hik hcx;go_wp2_with (go_at_fn 66;refine(done1_any x s _).mono ?_;rintro e w' ⟨rfl,hb'⟩;rw[hcxH.out];have hb'H:=Lib.hid hb';clear hb');refine⟨?rel,?measure⟩
    case measure=>simp[intOf];omega
    case rel=>exact RH.out _ hb'H.out
  ·have hij:i=k0:=by omega
   have hjk:j=k0:=by omega
   subst hij;subst hjk
   by_cases hkn:j<n
   ·obtain⟨b,off,hA,_⟩:=hlH.out.2.1 (by omega);subst hA;obtain⟨x,hx⟩:∃ x,l[j]? = some x:=⟨l[j]'(by have:=hllH.out;omega),List.getElem?_eq_getElem _⟩;have hcs:=cells_ObT (hlH.out.below hb) hx;obtain⟨c0,c1⟩:=hcs;have R:=fun W h=>(hRH.out W h).2 x hx;obtain⟨cx,hcx⟩:∃ c,cmpS x.dig s=c:=⟨_,rfl⟩;rw[hcx]at R;obtain⟨hxH,hbH,hcxH,RH⟩:=hq2 hx (hq2 hb (hq2 hcx (Lib.hid R)));clear hx hb hcx R;go_wp2_with (go_at_fn 66;refine(done1_any x s _).mono ?_;rintro e w' ⟨rfl,hb'⟩;rw[hcxH.out];have hb'H:=Lib.hid hb';clear hb');exact RH.out _ (hbH.out.trans (hb'H.out.mono hbH.out.size))
   ·have R:=(hRH.out wr hb).1 (by omega);obtain⟨hbH,RH⟩:=hq2 hb (Lib.hid R);clear hb R;go_wp2_with fail;exact RH.out
theorem part1_any (x:PaT) (s:ByteArray) (w:World) :
  Calls Tryz.prog 135 #[.agg #[.string x.dig,.int .i64 x.size,.slice x.bytes.A x.bytes.n x.bytes.cap],.string s] w fun e w'=>e = .returned (.int .i64 (cmpS x.dig s))∧Below w.heap.size w w':=by
 have hba:=(Below.refl w.heap.size w).alloc (Nat.le_refl _) (.cells #[.string x.dig,.int .i64 x.size,.slice x.bytes.A x.bytes.n x.bytes.cap] 125);have hbaH:=Lib.hid hba;clear hba;go_enter Tryz.func135,Tryz.ntmps135;go_wp2_with (go_at_call 16;refine(Tryz.strings_Compare _ _ _).mono ?_;rintro e w1 ⟨rfl,rfl⟩);go_ret;exact⟨rfl,hbaH.out⟩
theorem part_bsf (A:Option Addr) (n c:Nat) (l:List PaT) (s:ByteArray) (w:World) (hn:n≤100000) (hl:SlAt RPv w A n l) (hr:l.Pairwise fun a b=>cmpS a.dig b.dig = -1) :
  Calls Tryz.prog 134 #[.slice A n c,.string s,.func (.func 135) #[] #[]] w (BsAns (fun x:PaT=>x.dig) l s w):=by
 obtain⟨Z,hZ⟩:∃ Z,BsAns (fun x:PaT=>x.dig) l s w=Z:=⟨_,rfl⟩;have hZ':∀ e W,BsAns (fun x:PaT=>x.dig) l s w e W→Z e W:=fun e W h=>by rw[← hZ];exact h
 rw[hZ];clear hZ;have hll:=hl.1;have eg:∀ args w,(callFunc 135 args).run Tryz.prog w = .ok (.enter 135 args) w:=enters_of Tryz.func135 (by kernel_rfl) rfl;obtain⟨k0,hk0,hlo,hhi⟩:=split_key (fun x:PaT=>x.dig) s l hr;have hR:∀ W,Below w.heap.size w W→(k0=n→Z (.returned (.tuple #[.int .i64 k0,.bool false])) W)∧(∀ x,l[k0]? = some x→Z (.returned (.tuple #[.int .i64 k0,.bool (cmpS x.dig s==0)])) W):=by
  intro W hW;refine⟨fun hk=>hZ' _ _ ⟨k0,false,rfl,hW,⟨hk0,hlo,hhi,fun h=>(by cases h),fun _ x hx e=>?_⟩⟩,fun x hx=>hZ' _ _ ⟨k0,_,rfl,hW,⟨hk0,hlo,hhi,fun h=>⟨x,hx,(cmpS_zero _ _).1 (by simpa using h)⟩,fun h y hy e=>?_⟩⟩⟩
  ·obtain⟨t,ht,rfl⟩:=List.getElem_of_mem hx;have:=hlo t _ (List.getElem?_eq_getElem ht) (by omega);rw[show (l[t]).dig=s from e,(cmpS_zero _ _).2 rfl]at this;cases this
  ·obtain⟨t,ht,rfl⟩:=List.getElem_of_mem hy;have e:(l[t]).dig=s:=e
   rcases Nat.lt_trichotomy t k0 with h1 | h1 | h1
   ·have:=hlo t _ (List.getElem?_eq_getElem ht) h1;rw[show (l[t]).dig=s from e,(cmpS_zero _ _).2 rfl]at this;cases this
   ·subst h1;rw[List.getElem?_eq_getElem ht]at hx;injection hx with hx;rw[← hx,e,(cmpS_zero _ _).2 rfl]at h;simp at h
   ·obtain⟨h2,e2⟩:=List.getElem?_eq_some_iff.1 hx;have:=List.pairwise_iff_getElem.1 hr k0 t h2 ht h1;rw[e2,e]at this;exact hhi k0 x hx (Nat.le_refl _) this
 obtain⟨hlH,hllH,hrH,hloH,hhiH,hZ'H,hRH⟩:=hq2 hl (hq2 hll (hqb hr hlo hhi hZ' (Lib.hid hR)));clear hl hll hr hlo hhi hZ' hR;go_enter Tryz.func134,Tryz.ntmps134;go_wp2
 go_loopw [9,10] (fun vi vj wr=>BsRelT k0 n w vi vj wr) (fun vi vj _=>(intOf vj).toNat-(intOf vi).toNat)
 case atStart=>exact⟨0,n,rfl,rfl,Nat.zero_le _,by have:=hllH.out;omega,Nat.le_refl _,Below.refl _ _⟩
 case round =>
  obtain⟨i,j,rfl,rfl,hi,hj,hjn,hb⟩:=hrel;have hbs:=hb.size
  by_cases hlt:i<j
  ·obtain⟨b,off,hA,_⟩:=hlH.out.2.1 (by omega);subst hA;obtain⟨x,hx⟩:∃ x,l[(i+j) / 2]? = some x:=⟨l[(i+j) / 2]'(by have:=hllH.out;omega),List.getElem?_eq_getElem _⟩;have hcs:=cells_PaT (hlH.out.below hb) hx;obtain⟨c0,c1,c2⟩:=hcs;have e1:((i:Int)+(j:Int)) / 2=(((i+j) / 2:Nat):Int):=by omega
   by_cases hc:cmpS x.dig s = -1
   ·have hik:(i+j) / 2<k0:=by
     rcases Nat.lt_or_ge ((i+j) / 2) k0 with h | h
     ·exact h
     ·exact absurd hc (hhiH.out _ x hx h)
    have R:∀ w',Below wr.heap.size wr w'→BsRelT k0 n w (.int .i64 (((i:Int)+(j:Int)) / 2+1)) (.int .i64 j) w':=fun w' h=>⟨(i+j) / 2+1,j,by rw[e1];rfl,rfl,by omega,hj,hjn,hb.trans (h.mono hbs)⟩;obtain⟨cx,hcx⟩:∃ c,cmpS x.dig s=c:=⟨_,rfl⟩;rw[hcx]at hc;subst hc;obtain⟨hxH,hbH,e1H,RH,hikH,hcxH⟩:=hq2 hx (hqb hb e1 R hik (Lib.hid hcx));clear hx hb e1 R hik hcx;go_wp2_with (go_at_fn 135;refine(part1_any x s _).mono ?_;rintro e w' ⟨rfl,hb'⟩;rw[hcxH.out];have hb'H:=Lib.hid hb';clear hb');refine⟨?rel,?measure⟩
    case measure=>simp[intOf];omega
    case rel=>exact RH.out _ hb'H.out
   ·have hik:k0≤(i+j) / 2:=by
     rcases Nat.lt_or_ge ((i+j) / 2) k0 with h | h
     ·exact absurd (hloH.out _ x hx h) hc
     ·exact h
    obtain⟨cx,hcx⟩:∃ c,cmpS x.dig s=c:=⟨_,rfl⟩;have hcr:=cmpS_range x.dig s;rw[hcx]at hc hcr;have hnn:decide (cx<0)=false:=decide_eq_false (by omega);have R:∀ w',Below wr.heap.size wr w'→BsRelT k0 n w (.int .i64 i) (.int .i64 (((i:Int)+(j:Int)) / 2)) w':=fun w' h=>⟨i,(i+j) / 2,rfl,by rw[e1],hi,hik,by omega,hb.trans (h.mono hbs)⟩;clear hcr hc;obtain⟨hxH,hbH,e1H,RH,hikH,hcxH⟩:=hq2 hx (hqb hb e1 R hik (Lib.hid hcx));clear hx hb e1 R hik hcx;go_wp2_with (go_at_fn 135;refine(part1_any x s _).mono ?_;rintro e w' ⟨rfl,hb'⟩;rw[hcxH.out];have hb'H:=Lib.hid hb';clear hb');refine⟨?rel,?measure⟩
    case measure=>simp[intOf];omega
    case rel=>exact RH.out _ hb'H.out
  ·have hij:i=k0:=by omega
   have hjk:j=k0:=by omega
   subst hij;subst hjk
   by_cases hkn:j<n
   ·obtain⟨b,off,hA,_⟩:=hlH.out.2.1 (by omega);subst hA;obtain⟨x,hx⟩:∃ x,l[j]? = some x:=⟨l[j]'(by have:=hllH.out;omega),List.getElem?_eq_getElem _⟩;have hcs:=cells_PaT (hlH.out.below hb) hx;obtain⟨c0,c1,c2⟩:=hcs;have R:=fun W h=>(hRH.out W h).2 x hx;obtain⟨cx,hcx⟩:∃ c,cmpS x.dig s=c:=⟨_,rfl⟩;rw[hcx]at R;obtain⟨hxH,hbH,hcxH,RH⟩:=hq2 hx (hq2 hb (hq2 hcx (Lib.hid R)));clear hx hb hcx R;go_wp2_with (go_at_fn 135;refine(part1_any x s _).mono ?_;rintro e w' ⟨rfl,hb'⟩;rw[hcxH.out];have hb'H:=Lib.hid hb';clear hb');exact RH.out _ (hbH.out.trans (hb'H.out.mono hbH.out.size))
   ·have R:=(hRH.out wr hb).1 (by omega);obtain⟨hbH,RH⟩:=hq2 hb (Lib.hid R);clear hb R;go_wp2_with fail;exact RH.out
def wch (b:UInt8):Bool:=decide ((97≤b.toNat∧b.toNat≤122)∨(48≤b.toNat∧b.toNat≤57)∨b.toNat=45∨b.toNat=95)
def wordL:List UInt8→Bool
 | []=>false
 | c::r=>decide (97≤c.toNat∧c.toNat≤122)&&decide (r.length<40)&&(c::r).all wch
def wordB (s:ByteArray):Bool:=wordL s.data.toList
theorem str_get {s:ByteArray} {k:Nat} (h:k<s.size):s.data.toList[k]? = some s[k]:=by
 rw[List.getElem?_eq_getElem (by simpa using h)];rfl
theorem all_step {p:UInt8→Bool} {s:ByteArray} {k:Nat} {b:Bool} (h:k<s.size) (hb:b=(s.data.toList.drop k).all p):b=(p s[k]&&(s.data.toList.drop (k+1)).all p):=by
 rw[hb,List.drop_eq_getElem_cons (by simpa using h),List.all_cons];rfl
theorem ret_bool {a b:Bool} (h:a=b):Ending.returned (.bool a) = .returned (.bool b):=by rw[h]
theorem word_of {s:ByteArray} (h:1≤s.size):wordB s=(decide (97≤(s[0]'(by omega)).toNat∧(s[0]'(by omega)).toNat≤122)&&decide (s.size≤40)&&s.data.toList.all wch):=by
 unfold wordB;have h0:=str_get (s:=s) (k:=0) (by omega);have hl:s.data.toList.length=s.size:=by simp
 cases hd:s.data.toList with
 | nil=>rw[hd]at hl;simp at hl;omega
 | cons c r =>
  rw[hd]at h0 hl;simp only[List.getElem?_cons_zero,Option.some.injEq]at h0;simp only[List.length_cons]at hl;have e:decide (r.length<40)=decide (s.size≤40):=decide_eq_decide.2 (by omega);rw[← h0];show (decide (97≤c.toNat∧c.toNat≤122)&&decide (r.length<40)&&(c::r).all wch)=_;rw[e]
theorem word_empty {s:ByteArray} (h:¬ 1≤s.size):wordB s=false:=by
 unfold wordB;have hl:s.data.toList.length=s.size:=by simp
 cases hd:s.data.toList with
 | nil=>rfl
 | cons c r=>rw[hd]at hl;simp only[List.length_cons]at hl;omega
end Go.Proofs.YtpdjjjiknijpkaaGreatDoor.C10
namespace Go.Proofs.YtpdjjjiknijpkaaGreatDoor.C10
open Go.RowKit Go.Shelf
def wcut:List UInt8:=[97,98,99,100,101,102,103,104,105,106,107,108,109,110,111,112,113,114,115,116,117,118,119,120,121,122,48,49,50,51,52,53,54,55,56,57,95,45]
theorem wcut_wch (b:UInt8):wcut.contains b=wch b:=by
 have:=byte_all (p:=fun b=>wcut.contains b==wch b) (by decide +kernel) b
 simpa using this
theorem wcut_all (l:List UInt8):l.all (wcut.contains ·)=l.all wch:=by
 congr 1
 funext b
 exact wcut_wch b
theorem trim_word (s:ByteArray) (w:World) (hs:s.size≤9223372036854775807) :
  Calls Tryz.prog 86 #[.string s,.string ⟨#[97,98,99,100,101,102,103,104,105,106,107,108,109,110,111,112,113,114,115,116,117,118,119,120,121,122,48,49,50,51,52,53,54,55,56,57,95,45]⟩] w fun e w' =>
   e = .returned (.string ⟨(Lib.trimS s.data.toList wcut).toArray⟩)∧Below w.heap.size w w' :=
 Any.strings_Trim_laid Tryz.lays160 (by kernel_rfl) s ⟨#[97,98,99,100,101,102,103,104,105,106,107,108,109,110,111,112,113,114,115,116,117,118,119,120,121,122,48,49,50,51,52,53,54,55,56,57,95,45]⟩ w hs (by decide) (ascii_of_all (by decide))
theorem trim_nil {s:ByteArray} {cs:List UInt8} (h:s.data.toList.all (cs.contains ·)=true):(⟨(Lib.trimS s.data.toList cs).toArray⟩:ByteArray)=⟨#[]⟩:=by
 rw[(trimS_nil _ _).2 h]
theorem trim_some {s:ByteArray} {cs:List UInt8} (h:s.data.toList.all (cs.contains ·)=false):∃ c r,(⟨(Lib.trimS s.data.toList cs).toArray⟩:ByteArray)=⟨(c::r).toArray⟩:=by
 cases hd:Lib.trimS s.data.toList cs with
 | nil=>rw[trimS_nil]at hd;rw[hd]at h;cases h
 | cons c r=>exact⟨c,r,rfl⟩
theorem word_any (s:ByteArray) (b:Bool) (w:World) (hs:s.size≤maxLen) (hb:wordB s=b) :
  Calls Tryz.prog 117 #[.string s] w fun e w'=>e = .returned (.bool b)∧Below w.heap.size w w':=by
 unfold maxLen at hs
 by_cases h0:1≤s.size
 ·by_cases h1:s.size≤40
  ·rw[word_of h0,decide_eq_true h1,Bool.and_true]at hb
   by_cases c0:97≤(s[0]'(by omega)).toNat
   ·by_cases c1:(s[0]'(by omega)).toNat≤122
    ·rw[decide_eq_true ⟨c0,c1⟩,Bool.true_and,← wcut_all]at hb
     cases b
     ·obtain⟨c,r,hcr⟩:=trim_some hb;obtain⟨hbH,hcrH⟩:=hq2 hb (Lib.hid hcr);clear hb hcr;go_enter Tryz.func117,Tryz.ntmps117;go_wp2_with fail;refine(trim_word s _ hs).mono ?_;rw[hcrH.out];rintro e w1 ⟨rfl,hb1⟩;have hb1H:=Lib.hid hb1;clear hb1;go_wp2;go_ret;exact⟨rfl,hb1H.out⟩
     ·have hcr:=trim_nil hb;obtain⟨hbH,hcrH⟩:=hq2 hb (Lib.hid hcr);clear hb hcr;go_enter Tryz.func117,Tryz.ntmps117;go_wp2_with fail;refine(trim_word s _ hs).mono ?_;rw[hcrH.out];rintro e w1 ⟨rfl,hb1⟩;have hb1H:=Lib.hid hb1;clear hb1;go_wp2;go_ret;exact⟨rfl,hb1H.out⟩
    ·rw[decide_eq_false (fun h=>c1 h.2),Bool.false_and]at hb;subst hb;go_enter Tryz.func117,Tryz.ntmps117;go_wp2;go_ret;exact⟨rfl,Below.refl _ _⟩
   ·rw[decide_eq_false (fun h=>c0 h.1),Bool.false_and]at hb;subst hb;go_enter Tryz.func117,Tryz.ntmps117;go_wp2;go_ret;exact⟨rfl,Below.refl _ _⟩
  ·rw[word_of h0,decide_eq_false h1,Bool.and_false,Bool.false_and]at hb;subst hb;go_enter Tryz.func117,Tryz.ntmps117;go_wp2;go_ret;exact⟨rfl,Below.refl _ _⟩
 ·rw[word_empty h0]at hb;subst hb;go_enter Tryz.func117,Tryz.ntmps117;go_wp2;go_ret;exact⟨rfl,Below.refl _ _⟩
def hexcut:List UInt8:=[48,49,50,51,52,53,54,55,56,57,97,98,99,100,101,102]
def digB (s:ByteArray):Bool:=decide (s.size=16)&&s.data.toList.all (hexcut.contains ·)
theorem digB_size {s:ByteArray} (h:digB s=true):s.size=16:=by
 unfold digB at h;rw[Bool.and_eq_true]at h;exact of_decide_eq_true h.1
theorem trim_hex (s:ByteArray) (w:World) (hs:s.size≤9223372036854775807) :
  Calls Tryz.prog 86 #[.string s,.string ⟨#[48,49,50,51,52,53,54,55,56,57,97,98,99,100,101,102]⟩] w fun e w' =>
   e = .returned (.string ⟨(Lib.trimS s.data.toList hexcut).toArray⟩)∧Below w.heap.size w w' :=
 Any.strings_Trim_laid Tryz.lays160 (by kernel_rfl) s ⟨#[48,49,50,51,52,53,54,55,56,57,97,98,99,100,101,102]⟩ w hs (by decide) (ascii_of_all (by decide))
theorem dig_any (s:ByteArray) (w:World) (b:Bool) (hb:digB s=b) :
  Calls Tryz.prog 54 #[.string s] w fun e w'=>e = .returned (.bool b)∧Below w.heap.size w w':=by
 unfold digB at hb
 by_cases h:s.size=16
 ·rw[decide_eq_true h,Bool.true_and]at hb;have h9:s.size≤9223372036854775807:=by omega
  have hI:(s.size:Int)=16:=by omega
  cases b
  ·obtain⟨c,r,hcr⟩:=trim_some hb;obtain⟨hbH,hcrH,hH⟩:=hq2 hb (hq2 hcr (Lib.hid h));clear hb hcr h;go_enter Tryz.func54,Tryz.ntmps54;go_wp2_with fail;refine(trim_hex s _ h9).mono ?_;rw[hcrH.out];rintro e w1 ⟨rfl,hb1⟩;have hb1H:=Lib.hid hb1;clear hb1;go_wp2;go_ret;exact⟨rfl,hb1H.out⟩
  ·have hcr:=trim_nil hb;obtain⟨hbH,hcrH,hH⟩:=hq2 hb (hq2 hcr (Lib.hid h));clear hb hcr h;go_enter Tryz.func54,Tryz.ntmps54;go_wp2_with fail;refine(trim_hex s _ h9).mono ?_;rw[hcrH.out];rintro e w1 ⟨rfl,hb1⟩;have hb1H:=Lib.hid hb1;clear hb1;go_wp2;go_ret;exact⟨rfl,hb1H.out⟩
 ·rw[decide_eq_false h,Bool.false_and]at hb;subst hb;have hI:((s.size:Int)==16)=false:=by rw[beq_eq_false_iff_ne];omega
  have hI2:¬ (s.size:Int)=16:=by omega
  have hH:=Lib.hid h;clear h;go_enter Tryz.func54,Tryz.ntmps54;go_wp2_with fail;go_ret;exact⟨rfl,Below.refl _ _⟩
end Go.Proofs.YtpdjjjiknijpkaaGreatDoor.C10
namespace Go.Proofs.YtpdjjjiknijpkaaGreatDoor.C10
open Go.ChangeShapes Go.WideShapes Go.Deep Go.RowKit Go.Maps
def Blk (w:World) (b:Nat) (vs:List Value):Prop:=∀ j v,vs[j]? = some v→w.cell? ⟨b,j,none⟩=some v∧w.frozen? ⟨b,j,none⟩=false
theorem Blk.keep {w w':World} {b:Nat} {vs:List Value} (h:Blk w b vs) (hb:w'.heap[b]? = w.heap[b]?):Blk w' b vs:=fun j v hj =>
 ⟨(World.cell?_of_block (a:=⟨b,j,none⟩) hb).trans (h j v hj).1,(World.frozen?_of_block (a:=⟨b,j,none⟩) hb).trans (h j v hj).2⟩
theorem Blk.lt {w:World} {b:Nat} {vs:List Value} (h:Blk w b vs) (hv:vs≠[]):b<w.heap.size:=by
 cases vs with
 | nil=>exact absurd rfl hv
 | cons v vs=>exact cell?_lt (h 0 v rfl).1
theorem Blk.set {w:World} {b k:Nat} {vs:List Value} (h:Blk w b vs) (hk:k<vs.length) (u:Value):Blk (w.setCell ⟨b,k,none⟩ u) b (vs.set k u):=by
 intro j v hj;rw[List.getElem?_set]at hj
 by_cases e:k=j
 ·subst e;rw[if_pos rfl,if_pos hk]at hj;injection hj with hj;subst hj;obtain⟨c,f⟩:=h k vs[k] (List.getElem?_eq_getElem hk);exact⟨World.cell?_setCell_same' _ _ _ (by rw[c];rfl),by rw[World.frozen?_setCell];exact f⟩
 ·rw[if_neg e]at hj;obtain⟨c,f⟩:=h j v hj;exact⟨by rw[World.cell?_setCell_other _ _ _ _ (by simp <;> omega)];exact c,by rw[World.frozen?_setCell];exact f⟩
theorem keepC {W w':World} {a:Addr} {v:Value} (hb:Below W.heap.size W w') (h:W.cell? a=some v):w'.cell? a=some v:=(hb.cell (cell?_lt h)).trans h
theorem blk_new (w:World) (vs:List Value) (T:TypeId):Blk (w.alloc (.cells vs.toArray T)) w.heap.size vs:=fun j v hj=>by
 have:(w.alloc (.cells vs.toArray T)).cell? ⟨w.heap.size,j,none⟩=vs.toArray[j]?:=by simp[go_sem]
 rw[this];exact⟨by simpa using hj,by simp[go_sem]⟩
theorem blk_below {w w':World} {b:Nat} {vs:List Value} (h:Blk w b vs) (hv:vs≠[]) (hb:Below w.heap.size w w'):Blk w' b vs:=h.keep (hb.block b (h.lt hv))
theorem grown_trans {a b c:World} {row:Option Nat} (h:a.grownBy b row) (h2:b.grownBy c row):a.grownBy c row :=
 ⟨h2.os.trans h.os,h2.tape.trans h.tape,h2.output.trans h.output,Nat.le_trans h.size h2.size,fun k hk hne=>(h2.block k (Nat.lt_of_lt_of_le hk h.size) hne).trans (h.block k hk hne)⟩
end Go.Proofs.YtpdjjjiknijpkaaGreatDoor.C10