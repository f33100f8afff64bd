/-
 Several texts of mine as one, without what is not wanted here: XRead, XSets, XOrd, XStr, XTypesM, XQs, XOwn.
-/
import Derived.Test.YtcdpdaloceengaaGreatDoorRows
import Derived.WalkKit
import Derived.WalkLawsBesides
import Derived.ProofKit
import Derived.Deep.Slices
import Derived.Deep.Fields
import Derived.ChangeSame
import Derived.SizedLaws
import Derived.Lib.Hide
import Derived.Lib.SlTrimSet
import Derived.Lib.Bytealg
import Derived.Lib.Small
import Derived.Lib.SplitLaws
import Init
import Derived.Maps.AppendAt
import Derived.Laws.AppendOwnNone
set_option linter.unusedVariables false
set_option linter.unusedSimpArgs false
set_option maxRecDepth 100000
set_option maxHeartbeats 8000000
namespace Go.Proofs.YtcdpdaloceengaaGreatDoor
open Go.ChangeShapes Go.WideShapes Go.Deep Go.RowKit
theorem ret1_int {k:IntKind} {a b:Int} (h:a=b):Ending.returned (.int k a) = .returned (.int k b):=by rw[h]
theorem ret3_int {k0 k1 k2:IntKind} {a b c a' b' c':Int} (h0:a=a') (h1:b=b') (h2:c=c') :
  Ending.returned (.tuple #[.int k0 a,.int k1 b,.int k2 c]) = .returned (.tuple #[.int k0 a',.int k1 b',.int k2 c']):=by rw[h0,h1,h2]
theorem hq2 {p q:Prop} (h:p) (k:q):Hid p∧q:=⟨h,k⟩
theorem hqb {p1 p2 p3 p4 q:Prop} (h1:p1) (h2:p2) (h3:p3) (h4:p4) (k:q):Hid p1∧Hid p2∧Hid p3∧Hid p4∧q:=⟨h1,h2,h3,h4,k⟩
theorem hqc {p1 p2 p3 p4 p5 p6 p7 p8 q:Prop} (h1:p1) (h2:p2) (h3:p3) (h4:p4) (h5:p5) (h6:p6) (h7:p7) (h8:p8) (k:q):Hid p1∧Hid p2∧Hid p3∧Hid p4∧Hid p5∧Hid p6∧Hid p7∧Hid p8∧q:=⟨h1,h2,h3,h4,h5,h6,h7,h8,k⟩
theorem drop_cons {α:Type} {l:List α} {k:Nat} {x:α} (h:l[k]? = some x):l.drop k=x::l.drop (k+1):=by
 obtain⟨hk,rfl⟩:=List.getElem?_eq_some_iff.1 h;exact List.drop_eq_getElem_cons hk
structure Rd (α:Type) where
 size:Nat
 vals:α→List Value
 ok:World→α→Prop
 bulk:α→Nat
 len:∀ a,(vals a).length=size
 one:∀ a u,u∈vals a→u.oneCell'=true
 mono:∀ w w' a,Below w.heap.size w w'→ok w a→ok w' a
def Opens (P:Program) (t:TypeId) {α:Type} (R:Rd α):Prop :=
 P.cellsOf t=R.size∧∀ (H:Type) (enc:TypeId × Value→H) (w:World) (fuel:Nat) (cs:List Value) (x:DataW H × List MemPlace),
  DataW.trod enc P w 0 (fun _=>true) true fuel t cs=some x→∃ a,cs=R.vals a∧R.ok w a∧R.bulk a≤Rows.uptoBulk x.1
theorem bulk_one {H:Type} (d:DataW H):1≤Rows.uptoBulk d:=by
 cases d with
 | lit l=>cases l <;> simp[Rows.uptoBulk]
 | nil=>simp[Rows.uptoBulk]
 | ptr d=>simp[Rows.uptoBulk]
 | slice elems spare=>simp[Rows.uptoBulk]
 | agg parts=>simp[Rows.uptoBulk]
 | iface t d=>simp[Rows.uptoBulk]
 | map entries=>simp[Rows.uptoBulk]
 | held h=>simp[Rows.uptoBulk]
def I64 (n:Int):Prop:=-9223372036854775808≤n∧n≤9223372036854775807
def RInt:Rd Int:=⟨1,fun n=>[.int .i64 n],fun _ n=>I64 n,fun _=>1,fun _=>rfl,fun _ u h=>by simp only[List.mem_singleton]at h;subst h;rfl,fun _ _ _ _ h=>h⟩
def RBool:Rd Bool:=⟨1,fun b=>[.bool b],fun _ _=>True,fun _=>1,fun _=>rfl,fun _ u h=>by simp only[List.mem_singleton]at h;subst h;rfl,fun _ _ _ _ h=>h⟩
def RStr:Rd ByteArray:=⟨1,fun s=>[.string s],fun _ s=>s.size≤maxLen,fun s=>s.size+1,fun _=>rfl,fun _ u h=>by simp only[List.mem_singleton]at h;subst h;rfl,fun _ _ _ _ h=>h⟩
theorem opens_int {P:Program} {t:TypeId} (h:P.underlying t=some (.int .i64)) (hc:P.cellsOf t=1):Opens P t RInt:=by
 refine⟨hc,fun H enc w fuel cs x hx=>?_⟩;obtain⟨n,rfl,rfl,hw⟩:=DataW.trod_int h hx;refine⟨n,rfl,?_,bulk_one _⟩;show I64 n
 simpa[I64,Lit.wf,IntKind.min,IntKind.max,IntKind.signed,IntKind.bits]using hw
theorem opens_bool {P:Program} {t:TypeId} (h:P.underlying t=some .bool) (hc:P.cellsOf t=1):Opens P t RBool:=by
 refine⟨hc,fun H enc w fuel cs x hx=>?_⟩;obtain⟨n,rfl,rfl⟩:=DataW.trod_bool h hx;exact⟨n,rfl,trivial,bulk_one _⟩
theorem opens_str {P:Program} {t:TypeId} (h:P.underlying t=some .string) (hc:P.cellsOf t=1):Opens P t RStr:=by
 refine⟨hc,fun H enc w fuel cs x hx=>?_⟩;obtain⟨n,rfl,rfl,hw⟩:=DataW.trod_string h hx;exact⟨n,rfl,hw,by simp[RStr,Rows.uptoBulk]⟩
def SlAt {α:Type} (R:Rd α) (w:World) (A:Option Addr) (n:Nat) (l:List α):Prop :=
 l.length=n∧(0<n→∃ b off,A=some ⟨b,off,none⟩∧∀ i x,l[i]? = some x→∀ j v,(R.vals x)[j]? = some v→w.cell? ⟨b,off+i*R.size+j,none⟩=some v)∧∀ x∈l,R.ok w x
theorem cell?_lt {w:World} {a:Addr} {v:Value} (h:w.cell? a=some v):a.block<w.heap.size:=by
 unfold World.cell? at h
 rcases Nat.lt_or_ge a.block w.heap.size with hl | hg
 ·exact hl
 ·rw[Array.getElem?_eq_none hg]at h;cases h
theorem SlAt.below {α:Type} {R:Rd α} {w w':World} {A:Option Addr} {n:Nat} {l:List α} (h:SlAt R w A n l) (hb:Below w.heap.size w w'):SlAt R w' A n l:=by
 obtain⟨h1,h2,h3⟩:=h;refine⟨h1,fun hn=>?_,fun x hx=>R.mono _ _ _ hb (h3 x hx)⟩;obtain⟨b,off,rfl,hc⟩:=h2 hn;exact⟨b,off,rfl,fun i x hx j v hv=>(hb.cell (cell?_lt (hc i x hx j v hv))).trans (hc i x hx j v hv)⟩
structure SlD (α:Type) where
 A:Option Addr
 n:Nat
 cap:Nat
 l:List α
def sumBulk {α:Type} (f:α→Nat):List α→Nat
 | []=>0
 | x::r=>f x+sumBulk f r
def RSl {α:Type} (R:Rd α):Rd (SlD α) :=
 ⟨1,fun d=>[.slice d.A d.n d.cap],fun w d=>SlAt R w d.A d.n d.l∧d.n≤d.cap∧d.cap≤maxLen∧(d.A=none→d.cap=0),fun d=>sumBulk R.bulk d.l+1,fun _=>rfl,fun _ u h=>by simp only[List.mem_singleton]at h;subst h;rfl,fun _ _ _ hb h=>⟨h.1.below hb,h.2⟩⟩
theorem bulkAll_ge {α H:Type} (f:α→Nat):∀ (l:List α) (ds:List (DataW H)),l.length=ds.length→(∀ (i:Nat) (a:α) (d:DataW H),l[i]? = some a→ds[i]? = some d→f a≤Rows.uptoBulk d)→sumBulk f l≤Rows.uptoBulkAll ds
 | [],[],_,_=>by simp[sumBulk]
 | a::l,d::ds,hl,h=>by
  have h0:=h 0 a d rfl rfl;have:=bulkAll_ge f l ds (by simpa using hl) (fun i x y hx hy=>h (i+1) x y (by simpa using hx) (by simpa using hy));simp only[sumBulk,Rows.uptoBulkAll];omega
theorem opens_slice {P:Program} {t e:TypeId} {α:Type} [Inhabited α] {R:Rd α} (h:P.underlying t=some (.slice e)) (hc:P.cellsOf t=1) (hs:0<R.size) (he:Opens P e R):Opens P t (RSl R):=by
 refine⟨hc,fun H enc w fuel cs x hx=>?_⟩
 rcases open_slice h hx with ⟨rfl,rfl⟩ | ⟨a,len,cap,m,n,D,Pl,rfl,_,hl,hm,hmm,rfl,hi⟩
 ·exact⟨⟨none,0,0,[]⟩,rfl,⟨⟨rfl,fun h=>absurd h (Nat.lt_irrefl 0),fun x hx=>by cases hx⟩,Nat.le_refl _,Nat.zero_le _,fun _=>rfl⟩,bulk_one _⟩
 ·have hmc:m=cap:=hmm;obtain⟨f,hf⟩:=choose_lt (α:=α) (n:=len) (p:=fun i a'=>∃ cs',w.cells? 0 (a.add (i*P.cellsOf e)) (P.cellsOf e)=some cs'∧cs'=R.vals a'∧R.ok w a'∧R.bulk a'≤Rows.uptoBulk (D i)) (fun i hil=>by
   obtain⟨cs',h1,h2⟩:=hi i (by omega);obtain⟨a',ha,hok,hbk⟩:=he.2 H enc w n cs' _ h2;exact⟨a',cs',h1,ha,hok,hbk⟩)
  refine⟨⟨some a,len,cap,(List.range len).map f⟩,rfl,⟨⟨by simp,fun hn=>?_,fun x hx=>?_⟩,hl,hm,fun h=>by cases h⟩,?_⟩
  ·have hcell:∀ i,i<len→∀ j v,(R.vals (f i))[j]? = some v→w.cell? (a.add (i*R.size+j))=some v:=by
    intro i hil j v hv;obtain⟨cs',h1,h2,_⟩:=hf i hil;rw[he.1]at h1;obtain⟨_,hcl,hat⟩:=World.cells?_some h1;have hj:j<R.size:=by rw[← R.len (f i)];exact(List.getElem?_eq_some_iff.1 hv).1
    have:=hat j hj;rw[h2,hv,add_add]at this;exact this
   have h0:=hcell 0 hn 0 ((R.vals (f 0))[0]'(by rw[R.len];exact hs)) (by simp);have hsp:a.spot=none:=by
    simp only[Nat.zero_mul,Nat.add_zero]at h0;have:a.add 0=a:=by simp[Addr.add]
    rw[this]at h0;unfold World.cell? at h0
    split at h0
    ·split at h0
     ·cases h0
     ·rename_i hz
      cases hz2:a.spot
      ·rfl
      ·simp[hz2]at hz
    ·cases h0
   obtain⟨b,off,sp⟩:=a;simp only at hsp;subst hsp;refine⟨b,off,rfl,fun i x hx j v hv=>?_⟩;obtain⟨hil,rfl⟩:i<len∧f i=x:=by
    rw[List.getElem?_map]at hx;obtain⟨k,hk,rfl⟩:=Option.map_eq_some_iff.1 hx;obtain⟨hk1,hk2⟩:=List.getElem?_eq_some_iff.1 hk;simp at hk1 hk2;subst hk2;exact⟨hk1,rfl⟩
   have:=hcell i hil j v hv;rw[Addr.add_lit]at this;rw[Nat.add_assoc];exact this
  ·obtain⟨i,hi',rfl⟩:=List.mem_map.1 hx;obtain⟨_,_,_,hok,_⟩:=hf i (by simpa using hi');exact hok
  ·show sumBulk R.bulk _+1≤_;simp only[Rows.uptoBulk];have:=bulkAll_ge R.bulk ((List.range len).map f) ((List.range len).map D) (by simp) (fun i x y hx hy=>by
    rw[List.getElem?_map]at hx hy;obtain⟨k,hk,rfl⟩:=Option.map_eq_some_iff.1 hx;obtain⟨k',hk',rfl⟩:=Option.map_eq_some_iff.1 hy;rw[hk]at hk';obtain rfl:=Option.some.inj hk';obtain⟨hk1,hk2⟩:=List.getElem?_eq_some_iff.1 hk;simp at hk1 hk2;subst hk2;obtain⟨_,_,_,_,hbk⟩:=hf i hk1;exact hbk)
   omega
theorem param_slice {P:Program} {t e:TypeId} {α:Type} {R:Rd α} {H:Type} {enc:TypeId × Value→H} {W:World} {base:Nat} {v:Value} {d:DataW H} {p:List MemPlace} (ht:P.underlying t=some (.slice e)) (ho:Opens P t (RSl R))
  (hv:Value.okWide P W .any base t v) (h:DataW.Trod enc P W 0 (fun _=>true) true t v d p):∃ a:SlD α,v = .slice a.A a.n a.cap∧(RSl R).ok W a∧(RSl R).bulk a≤Rows.uptoBulk d:=by
 obtain⟨A,len,cap,rfl⟩:=okWide_slice ht hv;obtain⟨fuel,hf⟩:=h;obtain⟨a,ha,hok,hb⟩:=ho.2 H enc W fuel _ _ hf;simp[Value.cells,RSl]at ha;obtain⟨rfl,rfl,rfl⟩:=ha;exact⟨a,rfl,hok,hb⟩
end Go.Proofs.YtcdpdaloceengaaGreatDoor
namespace Go.Proofs.YtcdpdaloceengaaGreatDoor
theorem dropWhile_nil_iff {α:Type} (p:α→Bool):∀ l:List α,(l.dropWhile p = [])↔l.all p=true
 | []=>by simp
 | x::r=>by
  have ih:=dropWhile_nil_iff p r
  cases hx:p x
  ·simp[hx]
  ·simp[hx,ih]
theorem dropWhile_head {α:Type} (p:α→Bool):∀ (l:List α) (x:α) (r:List α),l.dropWhile p=x::r→p x=false
 | [],x,r,h=>by cases h
 | y::l,x,r,h=>by
  rw[List.dropWhile_cons]at h
  split at h
  ·exact dropWhile_head p l x r h
  ·rename_i hy
   simp only[List.cons.injEq]at h;rw[← h.1]
   simpa using hy
theorem trimS_nil (l cs:List UInt8):(Lib.trimS l cs = [])↔l.all (cs.contains ·)=true:=by
 unfold Lib.trimS Lib.trimLeftS Lib.trimRightS;rw[dropWhile_nil_iff]
 constructor
 ·intro h;rw[List.all_reverse]at h;have:l.reverse.dropWhile (cs.contains ·) = []:=by
   cases hd:l.reverse.dropWhile (cs.contains ·) with
   | nil=>rfl
   | cons x r =>
    have hx:=dropWhile_head _ _ _ _ hd;rw[hd]at h;simp only[List.all_cons,Bool.and_eq_true]at h;rw[h.1]at hx
    cases hx
  rw[dropWhile_nil_iff,List.all_reverse]at this;exact this
 ·intro h;rw[← List.all_reverse,← dropWhile_nil_iff]at h;rw[h];rfl
theorem byte_all {p:UInt8→Bool} (h:(List.range 256).all (fun n=>p (UInt8.ofNat n))=true) (b:UInt8):p b=true:=by
 have hb:b.toNat<256:=b.toNat_lt;have:=List.all_eq_true.1 h b.toNat (List.mem_range.2 hb)
 rwa [UInt8.ofNat_toNat]at this
end Go.Proofs.YtcdpdaloceengaaGreatDoor
namespace Go.Proofs.YtcdpdaloceengaaGreatDoor
open Go.RowKit
def cmpB:List UInt8→List UInt8→Int:=Lib.compareBytes
theorem cmpB_zero:∀ a b:List UInt8,cmpB a b=0↔a=b
 | [],[]=>by simp[cmpB,Lib.compareBytes]
 | [],_::_=>by simp[cmpB,Lib.compareBytes]
 | _::_,[]=>by simp[cmpB,Lib.compareBytes]
 | x::r,y::s=>by
  have ih:=cmpB_zero r s;unfold cmpB at ih ⊢;unfold Lib.compareBytes
  by_cases h:x<y
  ·simp only[if_pos h,List.cons.injEq];exact⟨fun h=>(by cases h),fun h'=>by rw[h'.1]at h;exact absurd h (by simp)⟩
  ·by_cases h2:y<x
   ·simp only[if_neg h,if_pos h2,List.cons.injEq];exact⟨fun h=>(by cases h),fun h'=>by rw[h'.1]at h2;exact absurd h2 (by simp)⟩
   ·rw[if_neg h,if_neg h2,ih];have:x=y:=by
     have h1:y≤x:=UInt8.not_lt.1 h;have h3:x≤y:=UInt8.not_lt.1 h2;exact UInt8.le_antisymm h3 h1
    simp[this]
theorem cmpB_swap:∀ a b:List UInt8,cmpB b a = - cmpB a b
 | [],[]=>by simp[cmpB,Lib.compareBytes]
 | [],_::_=>by simp[cmpB,Lib.compareBytes]
 | _::_,[]=>by simp[cmpB,Lib.compareBytes]
 | x::r,y::s=>by
  have ih:=cmpB_swap r s;unfold cmpB at ih ⊢;unfold Lib.compareBytes
  by_cases h:x<y
  ·have h2:¬ y<x:=fun h2=>by have:=UInt8.lt_trans h h2;simp at this
   rw[if_pos h,if_neg h2,if_pos h];rfl
  ·by_cases h2:y<x
   ·rw[if_pos h2,if_neg h,if_pos h2]
   ·rw[if_neg h2,if_neg h,if_neg h,if_neg h2,ih]
theorem cmpB_range:∀ a b:List UInt8,cmpB a b = -1∨cmpB a b=0∨cmpB a b=1
 | [],[]=>by simp[cmpB,Lib.compareBytes]
 | [],_::_=>by simp[cmpB,Lib.compareBytes]
 | _::_,[]=>by simp[cmpB,Lib.compareBytes]
 | x::r,y::s=>by
  have ih:=cmpB_range r s;unfold cmpB at ih ⊢;unfold Lib.compareBytes
  split
  ·exact Or.inl rfl
  ·split
   ·exact Or.inr (Or.inr rfl)
   ·exact ih
theorem cmpB_trans:∀ a b c:List UInt8,cmpB a b = -1→cmpB b c = -1→cmpB a c = -1
 | [],[],c,h,_=>by simp[cmpB,Lib.compareBytes]at h
 | [],_::_,[],_,h=>by simp[cmpB,Lib.compareBytes]at h
 | [],_::_,_::_,_,_=>by simp[cmpB,Lib.compareBytes]
 | _::_,[],_,h,_=>by simp[cmpB,Lib.compareBytes]at h
 | _::_,_::_,[],_,h=>by simp[cmpB,Lib.compareBytes]at h
 | x::r,y::s,z::t,h1,h2=>by
  have ih:=cmpB_trans r s t;unfold cmpB at ih h1 h2 ⊢;unfold Lib.compareBytes at h1 h2 ⊢
  by_cases a:x<y
  ·by_cases b:y<z
   ·rw[if_pos (UInt8.lt_trans a b)]
   ·rw[if_neg b]at h2
    by_cases b2:z<y
    ·rw[if_pos b2]at h2;cases h2
    ·have:y=z:=UInt8.le_antisymm (UInt8.not_lt.1 b2) (UInt8.not_lt.1 b);subst this;rw[if_pos a]
  ·rw[if_neg a]at h1
   by_cases a2:y<x
   ·rw[if_pos a2]at h1;cases h1
   ·have:x=y:=UInt8.le_antisymm (UInt8.not_lt.1 a2) (UInt8.not_lt.1 a);subst this;rw[if_neg a2]at h1
    by_cases b:x<z
    ·rw[if_pos b]
    ·rw[if_neg b]at h2 ⊢
     by_cases b2:z<x
     ·rw[if_pos b2]at h2;cases h2
     ·rw[if_neg b2]at h2 ⊢;exact ih h1 h2
theorem less_cmpB:∀ a b:List UInt8,Op.bytesLess a b=decide (cmpB a b = -1)
 | [],[]=>by simp[cmpB,Lib.compareBytes,Op.bytesLess]
 | [],_::_=>by simp[cmpB,Lib.compareBytes,Op.bytesLess]
 | _::_,[]=>by simp[cmpB,Lib.compareBytes,Op.bytesLess]
 | x::r,y::s=>by
  have ih:=less_cmpB r s;unfold cmpB at ih ⊢;unfold Lib.compareBytes;rw[Op.bytesLess,ih]
  by_cases h:x<y
  ·simp[h]
  ·by_cases h2:y<x
   ·have hne:(x==y)=false:=by
     rw[beq_eq_false_iff_ne];intro e;rw[e]at h2;simp at h2
    simp[h,h2,hne]
   ·have:x=y:=UInt8.le_antisymm (UInt8.not_lt.1 h2) (UInt8.not_lt.1 h);subst this;simp
def sle (a b:ByteArray):Bool:=Op.bytesLess a.toList b.toList||a.toList==b.toList
theorem cell_new (w:World) (cs:Array Value) (t:TypeId) (j:Nat):(w.alloc (.cells cs t)).cell? ⟨w.heap.size,j,none⟩=cs[j]?:=by
 simp[go_sem]
def cmpS (a b:ByteArray):Int:=cmpB a.data.toList b.data.toList
def ltS (a b:ByteArray):Bool:=Op.bytesLess a.toList b.toList
theorem ltS_cmp (a b:ByteArray):ltS a b=decide (cmpS a b = -1):=by rw[ltS,Lib.toList_data,Lib.toList_data,less_cmpB];rfl
theorem cmpS_zero (a b:ByteArray):cmpS a b=0↔a=b:=by
 rw[cmpS,cmpB_zero]
 constructor
 ·intro h
  cases a;cases b
  simpa using h
 ·rintro rfl;rfl
theorem cmpS_swap (a b:ByteArray):cmpS b a = - cmpS a b:=cmpB_swap _ _
theorem cmpS_range (a b:ByteArray):cmpS a b = -1∨cmpS a b=0∨cmpS a b=1:=cmpB_range _ _
theorem cmpS_trans {a b c:ByteArray}:cmpS a b = -1→cmpS b c = -1→cmpS a c = -1:=cmpB_trans _ _ _
theorem sle_cmp (a b:ByteArray):sle a b=decide (cmpS a b≤0):=by
 have h1:(a.toList==b.toList)=decide (cmpS a b=0):=by
  rw[Bool.eq_iff_iff,beq_iff_eq,decide_eq_true_iff,Lib.toList_data,Lib.toList_data,cmpS,cmpB_zero]
 have h2:=ltS_cmp a b;unfold ltS at h2;rw[sle,h1,h2]
 rcases cmpS_range a b with h | h | h <;> rw[h] <;> decide
theorem beq_data (a b:ByteArray):(a.toList==b.toList)=decide (a=b):=by
 rw[Bool.eq_iff_iff,beq_iff_eq,decide_eq_true_iff,Lib.toList_data,Lib.toList_data]
 constructor
 ·intro h
  cases a;cases b
  simpa using h
 ·rintro rfl;rfl
def MaxLenAt (w:World):Prop:=∃ m:Int,w.cell? ⟨0,0,none⟩=some (.int .i64 m)
theorem MaxLenAt.below {w w':World} (h:MaxLenAt w) (hb:Below w.heap.size w w'):MaxLenAt w':=by
 obtain⟨m,hm⟩:=h;exact⟨m,(hb.cell (cell?_lt hm)).trans hm⟩
theorem splitB_size (sep:ByteArray):∀ (k:Nat) (s x:ByteArray),x∈Lib.splitB sep 0 k s→x.size≤s.size
 | 0,s,x,h=>by
  rw[Lib.splitB_zero]at h;simp only[List.mem_singleton]at h;subst h;exact Nat.le_refl _
 | k+1,s,x,h=>by
  unfold Lib.splitB at h
  split at h
  ·simp only[List.mem_singleton]at h;subst h;exact Nat.le_refl _
  ·rcases List.mem_cons.1 h with rfl | h
   ·simp only[ByteArray.size_extract];omega
   ·have:=splitB_size sep k _ x h;simp only[ByteArray.size_extract]at this;omega
theorem cell_Str {w:World} {b off m k:Nat} {l:List ByteArray} {x:ByteArray} (h:SlAt RStr w (some ⟨b,off,none⟩) m l) (hx:l[k]? = some x):w.cell? ⟨b,off+k,none⟩=some (.string x):=by
 have hk:=(List.getElem?_eq_some_iff.1 hx).1;obtain⟨b',off',hA,hc⟩:=h.2.1 (by have:=h.1;omega);obtain⟨rfl,rfl⟩:b=b'∧off=off':=by simpa using hA
 have:=hc k x hx 0 _ rfl
 simpa[RStr]using this
end Go.Proofs.YtcdpdaloceengaaGreatDoor
namespace Go.Proofs.YtcdpdaloceengaaGreatDoor
open Go.ChangeShapes Go.WideShapes Go.Deep Go.RowKit
theorem opens_t_int:Opens Tryz.prog 3 RInt:=opens_int Tryz.underlying3 (by kernel_rfl)
theorem opens_t_bool:Opens Tryz.prog 4 RBool:=opens_bool Tryz.underlying4 (by kernel_rfl)
theorem opens_t_str:Opens Tryz.prog 9 RStr:=opens_str Tryz.underlying9 (by kernel_rfl)
/-! ### api.TestRun -/
structure TestRun where
 test:ByteArray
 key:ByteArray
 at_:Int
 pass:Bool
 seconds:Int
deriving DecidableEq
instance:Inhabited TestRun:=⟨⟨ByteArray.empty,ByteArray.empty,0,false,0⟩⟩
def RTestRun:Rd TestRun :=
 ⟨5,fun x=>[.string x.test,.string x.key,.int .i64 x.at_,.bool x.pass,.int .i64 x.seconds],
  fun w x=>RStr.ok w x.test∧RStr.ok w x.key∧RInt.ok w x.at_∧RBool.ok w x.pass∧RInt.ok w x.seconds,
  fun x=>RStr.bulk x.test+RStr.bulk x.key+RInt.bulk x.at_+RBool.bulk x.pass+RInt.bulk x.seconds,fun _=>rfl,fun _ u h=>by simp only[List.mem_cons,List.not_mem_nil,or_false]at h;rcases h with rfl | rfl | rfl | rfl | rfl <;> rfl,
  fun _ _ _ hb h=>⟨RStr.mono _ _ _ hb (h.1),RStr.mono _ _ _ hb (h.2.1),RInt.mono _ _ _ hb (h.2.2.1),RBool.mono _ _ _ hb (h.2.2.2.1),RInt.mono _ _ _ hb (h.2.2.2.2)⟩⟩
theorem opens_TestRun:Opens Tryz.prog 39 RTestRun:=by
 refine⟨by kernel_rfl,fun H enc w fuel cs x hx=>?_⟩;obtain⟨xs,n,_,hxe,hlen,hxl,hf⟩:=DataW.trod_struct Tryz.underlying39 hx;rw[show Tryz.prog.cellsOf 39 = 5 by kernel_rfl]at hlen
 match cs,hlen,xs,hxl with
 | [c0,c1,c2,c3,c4],_,[y0,y1,y2,y3,y4],_ =>
  have g0:DataW.trod enc Tryz.prog w 0 (fun _=>true) true n 9 [c0]=some y0:=by
   have this:DataW.trod enc Tryz.prog w 0 (fun _=>true) true n 9 (([c0,c1,c2,c3,c4].drop 0).take (Tryz.prog.cellsOf 9))=some y0:=hf 0 _ rfl
   rwa [show ([c0,c1,c2,c3,c4].drop 0).take (Tryz.prog.cellsOf 9) = [c0] by rw[show Tryz.prog.cellsOf 9 = 1 by kernel_rfl];rfl]at this
  obtain⟨a0,e0,k0,b0⟩:=opens_t_str.2 H enc w n _ _ g0;have g1:DataW.trod enc Tryz.prog w 0 (fun _=>true) true n 9 [c1]=some y1:=by
   have this:DataW.trod enc Tryz.prog w 0 (fun _=>true) true n 9 (([c0,c1,c2,c3,c4].drop 1).take (Tryz.prog.cellsOf 9))=some y1:=hf 1 _ rfl
   rwa [show ([c0,c1,c2,c3,c4].drop 1).take (Tryz.prog.cellsOf 9) = [c1] by rw[show Tryz.prog.cellsOf 9 = 1 by kernel_rfl];rfl]at this
  obtain⟨a1,e1,k1,b1⟩:=opens_t_str.2 H enc w n _ _ g1;have g2:DataW.trod enc Tryz.prog w 0 (fun _=>true) true n 3 [c2]=some y2:=by
   have this:DataW.trod enc Tryz.prog w 0 (fun _=>true) true n 3 (([c0,c1,c2,c3,c4].drop 2).take (Tryz.prog.cellsOf 3))=some y2:=hf 2 _ rfl
   rwa [show ([c0,c1,c2,c3,c4].drop 2).take (Tryz.prog.cellsOf 3) = [c2] by rw[show Tryz.prog.cellsOf 3 = 1 by kernel_rfl];rfl]at this
  obtain⟨a2,e2,k2,b2⟩:=opens_t_int.2 H enc w n _ _ g2;have g3:DataW.trod enc Tryz.prog w 0 (fun _=>true) true n 4 [c3]=some y3:=by
   have this:DataW.trod enc Tryz.prog w 0 (fun _=>true) true n 4 (([c0,c1,c2,c3,c4].drop 3).take (Tryz.prog.cellsOf 4))=some y3:=hf 3 _ rfl
   rwa [show ([c0,c1,c2,c3,c4].drop 3).take (Tryz.prog.cellsOf 4) = [c3] by rw[show Tryz.prog.cellsOf 4 = 1 by kernel_rfl];rfl]at this
  obtain⟨a3,e3,k3,b3⟩:=opens_t_bool.2 H enc w n _ _ g3;have g4:DataW.trod enc Tryz.prog w 0 (fun _=>true) true n 3 [c4]=some y4:=by
   have this:DataW.trod enc Tryz.prog w 0 (fun _=>true) true n 3 (([c0,c1,c2,c3,c4].drop 4).take (Tryz.prog.cellsOf 3))=some y4:=hf 4 _ rfl
   rwa [show ([c0,c1,c2,c3,c4].drop 4).take (Tryz.prog.cellsOf 3) = [c4] by rw[show Tryz.prog.cellsOf 3 = 1 by kernel_rfl];rfl]at this
  obtain⟨a4,e4,k4,b4⟩:=opens_t_int.2 H enc w n _ _ g4;refine⟨⟨a0,a1,a2,a3,a4⟩,?_,⟨k0,k1,k2,k3,k4⟩,?_⟩
  ·obtain rfl:c0 = .string a0:=by have:=List.cons.inj e0;exact this.1
   obtain rfl:c1 = .string a1:=by have:=List.cons.inj e1;exact this.1
   obtain rfl:c2 = .int .i64 a2:=by have:=List.cons.inj e2;exact this.1
   obtain rfl:c3 = .bool a3:=by have:=List.cons.inj e3;exact this.1
   obtain rfl:c4 = .int .i64 a4:=by have:=List.cons.inj e4;exact this.1
   rfl
  ·subst hxe;simp only[RTestRun,Rows.uptoBulk,Rows.uptoBulkAll,List.map_cons,List.map_nil];omega
theorem cells_TestRun {w:World} {b off m k:Nat} {l:List TestRun} {x:TestRun} (h:SlAt RTestRun w (some ⟨b,off,none⟩) m l) (hx:l[k]? = some x) :
  w.cell? ⟨b,off+k*5,none⟩=some (.string x.test)∧w.cell? ⟨b,off+k*5+1,none⟩=some (.string x.key)∧w.cell? ⟨b,off+k*5+2,none⟩=some (.int .i64 x.at_)∧w.cell? ⟨b,off+k*5+3,none⟩=some (.bool x.pass)∧w.cell? ⟨b,off+k*5+4,none⟩=some (.int .i64 x.seconds):=by
 have hk:=(List.getElem?_eq_some_iff.1 hx).1;obtain⟨b',off',hA,hc⟩:=h.2.1 (by have:=h.1;omega);obtain⟨rfl,rfl⟩:b=b'∧off=off':=by simpa using hA
 exact⟨hc k x hx 0 _ rfl,hc k x hx 1 _ rfl,hc k x hx 2 _ rfl,hc k x hx 3 _ rfl,hc k x hx 4 _ rfl⟩
/-! ### api.TestCase -/
structure TestCase where
 name:ByteArray
 seconds:Int
deriving DecidableEq
instance:Inhabited TestCase:=⟨⟨ByteArray.empty,0⟩⟩
/-! ### api.Test -/
structure Test where
 name:ByteArray
 cases:SlD TestCase
instance:Inhabited Test:=⟨⟨ByteArray.empty,⟨none,0,0,[]⟩⟩⟩
/-! ### api.Pair -/
structure Pair where
 name:ByteArray
 value:ByteArray
deriving DecidableEq
instance:Inhabited Pair:=⟨⟨ByteArray.empty,ByteArray.empty⟩⟩
/-! ### api.Span -/
structure Span where
 from_:Int
 to_:Int
deriving DecidableEq
instance:Inhabited Span:=⟨⟨0,0⟩⟩
/-! ### api.Worker -/
structure Worker where
 name:ByteArray
 has:SlD Pair
 slots:Int
 speed:Int
 from_:Int
 to_:Int
 stands:SlD Span
instance:Inhabited Worker:=⟨⟨ByteArray.empty,⟨none,0,0,[]⟩,0,0,0,0,⟨none,0,0,[]⟩⟩⟩
theorem opens_t_sl_Str:Opens Tryz.prog 23 (RSl RStr):=opens_slice Tryz.underlying23 (by kernel_rfl) (by decide) opens_t_str
/-! ### api.Work -/
structure Work where
 id_:ByteArray
 needs:SlD Pair
 size:Int
 after:SlD ByteArray
instance:Inhabited Work:=⟨⟨ByteArray.empty,⟨none,0,0,[]⟩,0,⟨none,0,0,[]⟩⟩⟩
/-! ### api.Writer -/
structure Writer where
 name:ByteArray
 secret:ByteArray
 prefixes:SlD ByteArray
 from_:Int
 to_:Int
instance:Inhabited Writer:=⟨⟨ByteArray.empty,ByteArray.empty,⟨none,0,0,[]⟩,0,0⟩⟩
/-! ### api.Claimed -/
structure Claimed where
 key:ByteArray
 label:ByteArray
 result:ByteArray
 writer:ByteArray
 at_:Int
 uses:SlD ByteArray
 sign:ByteArray
instance:Inhabited Claimed:=⟨⟨ByteArray.empty,ByteArray.empty,ByteArray.empty,ByteArray.empty,0,⟨none,0,0,[]⟩,ByteArray.empty⟩⟩
/-! ### api.Audit -/
structure Audit where
 number:Int
 result:ByteArray
 at_:Int
deriving DecidableEq
instance:Inhabited Audit:=⟨⟨0,ByteArray.empty,0⟩⟩
/-! ### api.Score -/
structure Score where
 writer:ByteArray
 audited:Int
 wrong:Int
deriving DecidableEq
instance:Inhabited Score:=⟨⟨ByteArray.empty,0,0⟩⟩
/-! ### api.Run -/
structure Run where
 id_:ByteArray
 worker:ByteArray
 from_:Int
 to_:Int
 end_:Int
deriving DecidableEq
instance:Inhabited Run:=⟨⟨ByteArray.empty,ByteArray.empty,0,0,0⟩⟩
theorem opens_t_sl_TestRun:Opens Tryz.prog 22 (RSl RTestRun):=opens_slice Tryz.underlying22 (by kernel_rfl) (by decide) opens_TestRun
end Go.Proofs.YtcdpdaloceengaaGreatDoor
namespace Go.Proofs.YtcdpdaloceengaaGreatDoor
theorem strict_uniq {α:Type} {lt:α→α→Prop} (asym:∀ a b,lt a b→lt b a→False):∀ {l m:List α},l.Perm m→l.Pairwise lt→m.Pairwise lt→l=m
 | [],m,h,_,_=>(List.nil_perm.1 h).symm
 | a::l,[],h,_,_=>absurd h.length_eq (by simp)
 | a::l,b::m,h,h1,h2=>by
  have ha:a∈b::m:=h.mem_iff.1 List.mem_cons_self;have hb:b∈a::l:=h.mem_iff.2 List.mem_cons_self;rw[List.pairwise_cons]at h1 h2;have e:a=b:=by
   rcases List.mem_cons.1 ha with e | ha
   ·exact e
   ·rcases List.mem_cons.1 hb with e | hb
    ·exact e.symm
    ·exact absurd (h1.1 b hb) (fun x=>asym a b x (h2.1 a ha))
  subst e;rw[strict_uniq asym (List.Perm.cons_inv h) h1.2 h2.2]
theorem ins_sortedQ {α:Type} {lt:α→α→Prop} (trans:∀ a b c,lt a b→lt b c→lt a c) {L:List α} {x:α} {k:Nat} (hs:L.Pairwise lt) (hk:k≤L.length)
  (h1:∀ y∈L.drop k,lt x y) (h2:∀ y,0<k→L[k-1]? = some y→lt y x):(L.take k++x::L.drop k).Pairwise lt:=by
 have h3:∀ y∈L.take k,lt y x:=by
  intro y hy;obtain⟨j,hj⟩:=List.getElem?_of_mem hy;have hjk:j<k:=by
   have:=(List.getElem?_eq_some_iff.1 hj).1;rw[List.length_take]at this;omega
  rw[List.getElem?_take]at hj;rw[if_pos hjk]at hj;have hz:=List.getElem?_eq_getElem (l:=L) (i:=k-1) (by omega);have hzx:=h2 _ (by omega) hz
  by_cases e:j=k-1
  ·subst e;rw[hj]at hz;injection hz with hz;rw[hz];exact hzx
  ·rw[List.pairwise_iff_getElem]at hs;obtain⟨j1,j2⟩:=List.getElem?_eq_some_iff.1 hj;have:=hs j (k-1) j1 (by omega) (by omega);rw[j2]at this;exact trans _ _ _ this hzx
 have hs':=hs;rw[← List.take_append_drop k L,List.pairwise_append]at hs';rw[List.pairwise_append,List.pairwise_cons];refine⟨hs'.1,⟨h1,hs'.2.1⟩,fun a ha b hb=>?_⟩
 rcases List.mem_cons.1 hb with rfl | hb
 ·exact h3 a ha
 ·exact hs'.2.2 a ha b hb
theorem ins_permQ {α:Type} {L M:List α} {x:α} {k:Nat} (h:L.Perm M):(L.take k++x::L.drop k).Perm (M ++ [x]):=by
 have h1:(L.take k++x::L.drop k).Perm (x::(L.take k++L.drop k)):=List.perm_middle;rw[List.take_append_drop]at h1;exact h1.trans ((List.Perm.cons x h).trans (List.perm_append_singleton x M).symm)
end Go.Proofs.YtcdpdaloceengaaGreatDoor
namespace Go.Proofs.YtcdpdaloceengaaGreatDoor
open Go.ChangeShapes Go.WideShapes Go.Deep Go.RowKit
def Elem (P:Program) (e:TypeId) (size bytes:Nat):Prop:=∃ i z,P.info? e=some i∧i.zero=some z∧i.size=size∧i.bytes=bytes∧z.cells.size=size
theorem elem_of {P:Program} {e:TypeId} {z:Value} {size bytes:Nat} (h:(P.info? e).map (fun i=>(i.zero,i.size,i.bytes))=some (some z,size,bytes)) (hz:z.cells.size=size):Elem P e size bytes:=by
 obtain⟨i,h1,h2,h3,h4⟩:=info_parts h;exact⟨i,z,h1,h2,h3,h4,hz⟩
def Own {α:Type} (R:Rd α) (e:TypeId) (w:World) (base:Nat) (v:Value) (l:List α):Prop :=
 w.ownsRow base e R.size v l.length (l.flatMap R.vals)∧∀ x∈l,R.ok w x
section
variable {α:Type} {R:Rd α} {e:TypeId} {w w':World} {base:Nat} {v:Value} {l:List α}
theorem Own.nil (w:World) (base:Nat):Own R e w base (.slice none 0 0) []:=⟨World.ownsRow_nil w base e R.size,fun _ h=>by cases h⟩
theorem flatMap_vals_length (l:List α):(l.flatMap R.vals).length=l.length*R.size:=by
 induction l with
 | nil=>simp
 | cons x l ih=>rw[List.flatMap_cons,List.length_append,ih,R.len,List.length_cons,Nat.add_mul,Nat.one_mul,Nat.add_comm]
theorem flatMap_vals_get (l:List α) (i j:Nat) (x:α) (u:Value) (hx:l[i]? = some x) (hu:(R.vals x)[j]? = some u):(l.flatMap R.vals)[i*R.size+j]? = some u:=by
 induction l generalizing i with
 | nil=>cases hx
 | cons y l ih =>
  rw[List.flatMap_cons]
  cases i with
  | zero =>
   simp at hx;subst hx;rw[Nat.zero_mul,Nat.zero_add,List.getElem?_append_left (List.getElem?_eq_some_iff.1 hu).1];exact hu
  | succ i =>
   rw[List.getElem?_append_right (by rw[R.len,Nat.add_mul];omega),R.len,show (i+1)*R.size+j-R.size=i*R.size+j by rw[Nat.add_mul];omega];exact ih i (by simpa using hx)
theorem Own.form (h:Own R e w base v l):∃ A cap,v = .slice A l.length cap:=by
 rcases h.1.2 with ⟨rfl,hn⟩ | ⟨g,cap,cur,rfl,_⟩
 ·exact⟨none,0,by rw[hn]⟩
 ·exact⟨_,cap,rfl⟩
theorem Own.len {A:Option Addr} {n cap:Nat} (h:Own R e w base (.slice A n cap) l):l.length=n:=by
 obtain⟨A',cap',hv⟩:=h.form;injection hv with _ h2 _;exact h2.symm
theorem Own.cap_le {A:Option Addr} {n cap:Nat} (h:Own R e w base (.slice A n cap) l):n≤cap:=by
 have hl:=h.len
 rcases h.1.2 with ⟨hv,_⟩ | ⟨g,cap',cur,hv,_,_,hle,_⟩
 ·injection hv with _ h2 h3;omega
 ·injection hv with _ _ h3;omega
theorem Own.slAt {A:Option Addr} {n cap:Nat} (h:Own R e w base (.slice A n cap) l):SlAt R w A n l:=by
 refine⟨h.len,fun hn=>?_,h.2⟩
 rcases h.1.2 with ⟨hv,_⟩ | ⟨g,cap',cur,hv,_⟩
 ·injection hv with _ h2 _;omega
 ·injection hv with h1 h2 h3;subst h1;refine⟨g,0,rfl,fun i x hx j u hu=>?_⟩;have:=h.1.cells (g:=g) rfl (i*R.size+j) u (flatMap_vals_get l i j x u hx hu);rw[Addr.add_lit,← Nat.add_assoc]at this;exact this
theorem Own.kept {row:Option Nat} (h:Own R e w base v l) (hg:w.grownBy w' row) (hne:v.ownBlock=none∨v.ownBlock≠row) (hok:∀ x∈l,R.ok w x→R.ok w' x):Own R e w' base v l :=
 ⟨h.1.kept hg hne,fun x hx=>hok x hx (h.2 x hx)⟩
theorem Own.below (h:Own R e w base v l) (hb:Below w.heap.size w w'):Own R e w' base v l :=
 ⟨h.1.kept (row:=none) ⟨hb.os,hb.tape,hb.output,hb.size,fun k hk _=>hb.block k hk⟩ (by
  cases hv:v.ownBlock
  ·exact .inl rfl
  ·exact .inr (by simp)),fun x hx=>R.mono _ _ _ hb (h.2 x hx)⟩
theorem Own.alloc (h:Own R e w base v l) (o:Obj):Own R e (w.alloc o) base v l:=h.below ((Below.refl _ _).alloc (Nat.le_refl _) o)
theorem slAt_new (w:World) (e:TypeId) (x:α) (hok:R.ok w x):SlAt R (w.alloc (.cells (R.vals x).toArray e)) (some ⟨w.heap.size,0,none⟩) 1 [x]:=by
 refine⟨rfl,fun _=>⟨_,_,rfl,fun i y hy j u hu=>?_⟩,fun y hy=>?_⟩
 ·cases i with
  | zero =>
   simp at hy;subst hy
   simpa[go_sem]using hu
  | succ i=>simp at hy
 ·simp at hy;subst hy;exact R.mono _ _ _ ((Below.refl _ _).alloc (Nat.le_refl _) _) hok
theorem wpList_app {P:Program} {ops:Array Oper} {rest:List Oper} {o:Oper} {a:Act} {Q:Exit→Act→World→Prop} (hgd:o.guard=none) (s x:Operand) (t:TypeId)
  (ho:o.op = .call { callee:=.builtin .append,args:=#[s,x],argTypes:=#[t,t] })
  {bytes:Nat} (ht:P.underlying t=some (.slice e)) (hE:Elem P e R.size bytes) (hsz:0<R.size)
  (hs:a.eval s=v) (hown:Own R e w base v l) (A:Option Addr) (m c:Nat) (l2:List α) (hx:a.eval x = .slice A m c) (h2:SlAt R w A m l2) (hn:m=0→A=none→c=0)
  (hok:∀ w',w.grownBy w' v.ownBlock→∀ y,y∈l++l2→R.ok w y→R.ok w' y)
  (h63:l.length+m≤maxLen) (hbytes:(l.length+m)*bytes≤140737488355328) (hbase:base≤w.heap.size)
  (N:Nat) (hN:l.length+m=N)
  (h:∀ A' c' w',Own R e w' base (.slice A' N c') (l++l2)→w.grownBy w' v.ownBlock→(Value.ownBlock (.slice A' N c')=v.ownBlock∨Value.ownBlock (.slice A' N c')=some w.heap.size) →
   Below base w w'→wpList P ops Q rest (a.put o.dst (.slice A' N c')) w') :
  wpList P ops Q (o::rest) a w:=by
 subst hN;obtain⟨i,z,hi,hz,hz1,hz2,hz3⟩:=hE;have below_of:∀ w',w.grownBy w' v.ownBlock→Below base w w':=fun w' hg=>(Below.refl _ _).grown hg hbase fun k hk=>(hown.1.lt k hk).1
 cases A with
 | none =>
  have hm:m=0:=by
   rcases Nat.eq_zero_or_pos m with h0 | h0
   ·exact h0
   ·obtain⟨_,_,h,_⟩:=h2.2.1 h0
    cases h
  subst hm;obtain rfl:=hn rfl rfl;obtain rfl:l2 = []:=List.eq_nil_of_length_eq_zero h2.1;obtain⟨A',c',rfl⟩:=hown.form;refine wpList_append_own_none hgd s x t ho base e i R.size ht hi (.slice A' l.length c') l.length (l.flatMap R.vals) hs hown.1 hx ?_;exact h A' c' w (by rw[List.append_nil];exact hown) (World.grownBy.refl _ _) (.inl rfl) (below_of _ (World.grownBy.refl _ _))
 | some ad =>
  have hcells:∀ j u,(l2.flatMap R.vals)[j]? = some u→w.cell? (ad.add j)=some u:=by
   intro j u hu;have hj:j<l2.length*R.size:=by rw[← flatMap_vals_length];exact(List.getElem?_eq_some_iff.1 hu).1
   have hm:0<m:=by
    rcases Nat.eq_zero_or_pos m with h0 | h0
    ·rw[h2.1,h0]at hj;simp at hj
    ·exact h0
   obtain⟨b,off,hA,hc⟩:=h2.2.1 hm;injection hA with hA;subst hA;have hi':j / R.size<l2.length:=Nat.div_lt_of_lt_mul (by rw[Nat.mul_comm];exact hj);have hjr:j % R.size<R.size:=Nat.mod_lt _ hsz;have hje:j=j / R.size*R.size+j % R.size:=by rw[Nat.mul_comm];exact(Nat.div_add_mod j R.size).symm
   have hget:(R.vals l2[j / R.size])[j % R.size]? = some u:=by
    have hv:∃ u',(R.vals l2[j / R.size])[j % R.size]? = some u':=⟨_,List.getElem?_eq_getElem (by rw[R.len];exact hjr)⟩;obtain⟨u',hu'⟩:=hv;have:=flatMap_vals_get l2 (j / R.size) (j % R.size) _ u' (List.getElem?_eq_getElem hi') hu';rw[← hje,hu]at this;rw[hu',this]
   have:=hc (j / R.size) _ (List.getElem?_eq_getElem hi') (j % R.size) u hget;rw[Nat.add_assoc,← hje]at this;rw[Addr.add_lit];exact this
  refine wpList_append_own_at w hgd s x t ho base e i z R.size bytes ht hi hz hz1 hz2 hz3 hsz v l.length (l.flatMap R.vals) hs hown.1 ad m c (l2.flatMap R.vals) hx (by rw[flatMap_vals_length,h2.1]) hcells
   (fun u hu=>by obtain⟨y,_,hy⟩:=List.mem_flatMap.1 hu;exact R.one y u hy) h63 hbytes hbase ?_
  intro v' w' h3 hg _ hat;have hbw:=below_of _ hg;obtain⟨A',c',hv'⟩:∃ A' c',v' = .slice A' (l.length+m) c':=by
   rcases h3.2 with ⟨rfl,hn'⟩ | ⟨g,cap,cur,rfl,_⟩
   ·exact⟨none,0,by rw[hn']⟩
   ·exact⟨_,cap,rfl⟩
  subst hv';refine h A' c' w' ⟨?_,fun y hy=>?_⟩ hg hat hbw
  ·rw[List.length_append,h2.1,List.flatMap_append];exact h3
  ·rcases List.mem_append.1 hy with hy | hy
   ·exact hok w' hg y (List.mem_append.2 (.inl hy)) (hown.2 y hy)
   ·exact hok w' hg y (List.mem_append.2 (.inr hy)) (h2.2.2 y hy)
theorem Own.empty (w:World):Own R e (w.alloc (.cells #[] e)) w.heap.size (.slice (some ⟨w.heap.size,0,none⟩) 0 0) []:=by
 refine⟨?_,fun _ h=>by cases h⟩;have:=World.ownsRow_made w #[] 0 (base:=w.heap.size) (e:=e) (size:=R.size) (Nat.le_refl _) (Nat.zero_le _) (by simp)
 simpa using this
end
end Go.Proofs.YtcdpdaloceengaaGreatDoor