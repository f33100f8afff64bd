/-
 Several texts of mine as one, without what is not wanted here: XRead, XU8, XTypesX, XSets, XTyT, XOrd, XDigP, XMap, XBRow.
-/
import Derived.Test.YtpdjjjiknijpkaaGreatDoorRows
import Derived.WalkKit
import Derived.WalkLawsBesides
import Derived.ProofKit
import Derived.Deep.Slices
import Derived.Deep.Fields
import Derived.ChangeSame
import Derived.SizedLaws
import Derived.Lib.Hide
import Derived.Lib.SlTrimSet
import Derived.Lib.Bytealg
import Derived.Lib.Small
import Derived.Laws.Bits64b
import Derived.Maps.OwnSet
import Derived.Maps.RangeWalk
import Derived.Laws.MakeOwn
set_option linter.unusedVariables false
set_option linter.unusedSimpArgs false
set_option maxRecDepth 100000
set_option maxHeartbeats 8000000
namespace Go.Proofs.YtpdjjjiknijpkaaGreatDoor
open Go.ChangeShapes Go.WideShapes Go.Deep Go.RowKit
theorem hq2 {p q:Prop} (h:p) (k:q):Hid p∧q:=⟨h,k⟩
theorem hqb {p1 p2 p3 p4 q:Prop} (h1:p1) (h2:p2) (h3:p3) (h4:p4) (k:q):Hid p1∧Hid p2∧Hid p3∧Hid p4∧q:=⟨h1,h2,h3,h4,k⟩
theorem hqc {p1 p2 p3 p4 p5 p6 p7 p8 q:Prop} (h1:p1) (h2:p2) (h3:p3) (h4:p4) (h5:p5) (h6:p6) (h7:p7) (h8:p8) (k:q):Hid p1∧Hid p2∧Hid p3∧Hid p4∧Hid p5∧Hid p6∧Hid p7∧Hid p8∧q:=⟨h1,h2,h3,h4,h5,h6,h7,h8,k⟩
theorem drop_cons {α:Type} {l:List α} {k:Nat} {x:α} (h:l[k]? = some x):l.drop k=x::l.drop (k+1):=by
 obtain⟨hk,rfl⟩:=List.getElem?_eq_some_iff.1 h;exact List.drop_eq_getElem_cons hk
structure Rd (α:Type) where
 size:Nat
 vals:α→List Value
 ok:World→α→Prop
 bulk:α→Nat
 len:∀ a,(vals a).length=size
 one:∀ a u,u∈vals a→u.oneCell'=true
 mono:∀ w w' a,Below w.heap.size w w'→ok w a→ok w' a
def Opens (P:Program) (t:TypeId) {α:Type} (R:Rd α):Prop :=
 P.cellsOf t=R.size∧∀ (H:Type) (enc:TypeId × Value→H) (w:World) (fuel:Nat) (cs:List Value) (x:DataW H × List MemPlace),
  DataW.trod enc P w 0 (fun _=>true) true fuel t cs=some x→∃ a,cs=R.vals a∧R.ok w a∧R.bulk a≤Rows.uptoBulk x.1
theorem bulk_one {H:Type} (d:DataW H):1≤Rows.uptoBulk d:=by
 cases d with
 | lit l=>cases l <;> simp[Rows.uptoBulk]
 | nil=>simp[Rows.uptoBulk]
 | ptr d=>simp[Rows.uptoBulk]
 | slice elems spare=>simp[Rows.uptoBulk]
 | agg parts=>simp[Rows.uptoBulk]
 | iface t d=>simp[Rows.uptoBulk]
 | map entries=>simp[Rows.uptoBulk]
 | held h=>simp[Rows.uptoBulk]
def I64 (n:Int):Prop:=-9223372036854775808≤n∧n≤9223372036854775807
def RInt:Rd Int:=⟨1,fun n=>[.int .i64 n],fun _ n=>I64 n,fun _=>1,fun _=>rfl,fun _ u h=>by simp only[List.mem_singleton]at h;subst h;rfl,fun _ _ _ _ h=>h⟩
def RBool:Rd Bool:=⟨1,fun b=>[.bool b],fun _ _=>True,fun _=>1,fun _=>rfl,fun _ u h=>by simp only[List.mem_singleton]at h;subst h;rfl,fun _ _ _ _ h=>h⟩
def RStr:Rd ByteArray:=⟨1,fun s=>[.string s],fun _ s=>s.size≤maxLen,fun s=>s.size+1,fun _=>rfl,fun _ u h=>by simp only[List.mem_singleton]at h;subst h;rfl,fun _ _ _ _ h=>h⟩
theorem opens_int {P:Program} {t:TypeId} (h:P.underlying t=some (.int .i64)) (hc:P.cellsOf t=1):Opens P t RInt:=by
 refine⟨hc,fun H enc w fuel cs x hx=>?_⟩;obtain⟨n,rfl,rfl,hw⟩:=DataW.trod_int h hx;refine⟨n,rfl,?_,bulk_one _⟩;show I64 n
 simpa[I64,Lit.wf,IntKind.min,IntKind.max,IntKind.signed,IntKind.bits]using hw
theorem opens_bool {P:Program} {t:TypeId} (h:P.underlying t=some .bool) (hc:P.cellsOf t=1):Opens P t RBool:=by
 refine⟨hc,fun H enc w fuel cs x hx=>?_⟩;obtain⟨n,rfl,rfl⟩:=DataW.trod_bool h hx;exact⟨n,rfl,trivial,bulk_one _⟩
theorem opens_str {P:Program} {t:TypeId} (h:P.underlying t=some .string) (hc:P.cellsOf t=1):Opens P t RStr:=by
 refine⟨hc,fun H enc w fuel cs x hx=>?_⟩;obtain⟨n,rfl,rfl,hw⟩:=DataW.trod_string h hx;exact⟨n,rfl,hw,by simp[RStr,Rows.uptoBulk]⟩
def SlAt {α:Type} (R:Rd α) (w:World) (A:Option Addr) (n:Nat) (l:List α):Prop :=
 l.length=n∧(0<n→∃ b off,A=some ⟨b,off,none⟩∧∀ i x,l[i]? = some x→∀ j v,(R.vals x)[j]? = some v→w.cell? ⟨b,off+i*R.size+j,none⟩=some v)∧∀ x∈l,R.ok w x
theorem cell?_lt {w:World} {a:Addr} {v:Value} (h:w.cell? a=some v):a.block<w.heap.size:=by
 unfold World.cell? at h
 rcases Nat.lt_or_ge a.block w.heap.size with hl | hg
 ·exact hl
 ·rw[Array.getElem?_eq_none hg]at h;cases h
theorem SlAt.below {α:Type} {R:Rd α} {w w':World} {A:Option Addr} {n:Nat} {l:List α} (h:SlAt R w A n l) (hb:Below w.heap.size w w'):SlAt R w' A n l:=by
 obtain⟨h1,h2,h3⟩:=h;refine⟨h1,fun hn=>?_,fun x hx=>R.mono _ _ _ hb (h3 x hx)⟩;obtain⟨b,off,rfl,hc⟩:=h2 hn;exact⟨b,off,rfl,fun i x hx j v hv=>(hb.cell (cell?_lt (hc i x hx j v hv))).trans (hc i x hx j v hv)⟩
structure SlD (α:Type) where
 A:Option Addr
 n:Nat
 cap:Nat
 l:List α
def sumBulk {α:Type} (f:α→Nat):List α→Nat
 | []=>0
 | x::r=>f x+sumBulk f r
def RSl {α:Type} (R:Rd α):Rd (SlD α) :=
 ⟨1,fun d=>[.slice d.A d.n d.cap],fun w d=>SlAt R w d.A d.n d.l∧d.n≤d.cap∧d.cap≤maxLen∧(d.A=none→d.cap=0),fun d=>sumBulk R.bulk d.l+1,fun _=>rfl,fun _ u h=>by simp only[List.mem_singleton]at h;subst h;rfl,fun _ _ _ hb h=>⟨h.1.below hb,h.2⟩⟩
theorem bulkAll_ge {α H:Type} (f:α→Nat):∀ (l:List α) (ds:List (DataW H)),l.length=ds.length→(∀ (i:Nat) (a:α) (d:DataW H),l[i]? = some a→ds[i]? = some d→f a≤Rows.uptoBulk d)→sumBulk f l≤Rows.uptoBulkAll ds
 | [],[],_,_=>by simp[sumBulk]
 | a::l,d::ds,hl,h=>by
  have h0:=h 0 a d rfl rfl;have:=bulkAll_ge f l ds (by simpa using hl) (fun i x y hx hy=>h (i+1) x y (by simpa using hx) (by simpa using hy));simp only[sumBulk,Rows.uptoBulkAll];omega
theorem opens_slice {P:Program} {t e:TypeId} {α:Type} [Inhabited α] {R:Rd α} (h:P.underlying t=some (.slice e)) (hc:P.cellsOf t=1) (hs:0<R.size) (he:Opens P e R):Opens P t (RSl R):=by
 refine⟨hc,fun H enc w fuel cs x hx=>?_⟩
 rcases open_slice h hx with ⟨rfl,rfl⟩ | ⟨a,len,cap,m,n,D,Pl,rfl,_,hl,hm,hmm,rfl,hi⟩
 ·exact⟨⟨none,0,0,[]⟩,rfl,⟨⟨rfl,fun h=>absurd h (Nat.lt_irrefl 0),fun x hx=>by cases hx⟩,Nat.le_refl _,Nat.zero_le _,fun _=>rfl⟩,bulk_one _⟩
 ·have hmc:m=cap:=hmm;obtain⟨f,hf⟩:=choose_lt (α:=α) (n:=len) (p:=fun i a'=>∃ cs',w.cells? 0 (a.add (i*P.cellsOf e)) (P.cellsOf e)=some cs'∧cs'=R.vals a'∧R.ok w a'∧R.bulk a'≤Rows.uptoBulk (D i)) (fun i hil=>by
   obtain⟨cs',h1,h2⟩:=hi i (by omega);obtain⟨a',ha,hok,hbk⟩:=he.2 H enc w n cs' _ h2;exact⟨a',cs',h1,ha,hok,hbk⟩)
  refine⟨⟨some a,len,cap,(List.range len).map f⟩,rfl,⟨⟨by simp,fun hn=>?_,fun x hx=>?_⟩,hl,hm,fun h=>by cases h⟩,?_⟩
  ·have hcell:∀ i,i<len→∀ j v,(R.vals (f i))[j]? = some v→w.cell? (a.add (i*R.size+j))=some v:=by
    intro i hil j v hv;obtain⟨cs',h1,h2,_⟩:=hf i hil;rw[he.1]at h1;obtain⟨_,hcl,hat⟩:=World.cells?_some h1;have hj:j<R.size:=by rw[← R.len (f i)];exact(List.getElem?_eq_some_iff.1 hv).1
    have:=hat j hj;rw[h2,hv,add_add]at this;exact this
   have h0:=hcell 0 hn 0 ((R.vals (f 0))[0]'(by rw[R.len];exact hs)) (by simp);have hsp:a.spot=none:=by
    simp only[Nat.zero_mul,Nat.add_zero]at h0;have:a.add 0=a:=by simp[Addr.add]
    rw[this]at h0;unfold World.cell? at h0
    split at h0
    ·split at h0
     ·cases h0
     ·rename_i hz
      cases hz2:a.spot
      ·rfl
      ·simp[hz2]at hz
    ·cases h0
   obtain⟨b,off,sp⟩:=a;simp only at hsp;subst hsp;refine⟨b,off,rfl,fun i x hx j v hv=>?_⟩;obtain⟨hil,rfl⟩:i<len∧f i=x:=by
    rw[List.getElem?_map]at hx;obtain⟨k,hk,rfl⟩:=Option.map_eq_some_iff.1 hx;obtain⟨hk1,hk2⟩:=List.getElem?_eq_some_iff.1 hk;simp at hk1 hk2;subst hk2;exact⟨hk1,rfl⟩
   have:=hcell i hil j v hv;rw[Addr.add_lit]at this;rw[Nat.add_assoc];exact this
  ·obtain⟨i,hi',rfl⟩:=List.mem_map.1 hx;obtain⟨_,_,_,hok,_⟩:=hf i (by simpa using hi');exact hok
  ·show sumBulk R.bulk _+1≤_;simp only[Rows.uptoBulk];have:=bulkAll_ge R.bulk ((List.range len).map f) ((List.range len).map D) (by simp) (fun i x y hx hy=>by
    rw[List.getElem?_map]at hx hy;obtain⟨k,hk,rfl⟩:=Option.map_eq_some_iff.1 hx;obtain⟨k',hk',rfl⟩:=Option.map_eq_some_iff.1 hy;rw[hk]at hk';obtain rfl:=Option.some.inj hk';obtain⟨hk1,hk2⟩:=List.getElem?_eq_some_iff.1 hk;simp at hk1 hk2;subst hk2;obtain⟨_,_,_,_,hbk⟩:=hf i hk1;exact hbk)
   omega
theorem param_slice {P:Program} {t e:TypeId} {α:Type} {R:Rd α} {H:Type} {enc:TypeId × Value→H} {W:World} {base:Nat} {v:Value} {d:DataW H} {p:List MemPlace} (ht:P.underlying t=some (.slice e)) (ho:Opens P t (RSl R))
  (hv:Value.okWide P W .any base t v) (h:DataW.Trod enc P W 0 (fun _=>true) true t v d p):∃ a:SlD α,v = .slice a.A a.n a.cap∧(RSl R).ok W a∧(RSl R).bulk a≤Rows.uptoBulk d:=by
 obtain⟨A,len,cap,rfl⟩:=okWide_slice ht hv;obtain⟨fuel,hf⟩:=h;obtain⟨a,ha,hok,hb⟩:=ho.2 H enc W fuel _ _ hf;simp[Value.cells,RSl]at ha;obtain⟨rfl,rfl,rfl⟩:=ha;exact⟨a,rfl,hok,hb⟩
def RU8:Rd UInt8:=⟨1,fun c=>[.int .u8 (c.toNat:Nat)],fun _ _=>True,fun _=>1,fun _=>rfl,fun _ u h=>by simp only[List.mem_singleton]at h;subst h;rfl,fun _ _ _ _ h=>h⟩
theorem cell_U8 {w:World} {b off m k:Nat} {l:List UInt8} {x:UInt8} (h:SlAt RU8 w (some ⟨b,off,none⟩) m l) (hx:l[k]? = some x):w.cell? ⟨b,off+k,none⟩=some (.int .u8 (x.toNat:Nat)):=by
 have hk:=(List.getElem?_eq_some_iff.1 hx).1;obtain⟨b',off',hA,hc⟩:=h.2.1 (by have:=h.1;omega);obtain⟨rfl,rfl⟩:b=b'∧off=off':=by simpa using hA
 have:=hc k x hx 0 _ rfl
 simpa[RU8]using this
theorem opens_U8:Opens Tryz.prog 5 RU8:=by
 refine⟨by kernel_rfl,fun H enc w fuel cs x hx=>?_⟩;obtain⟨n,rfl,rfl,hw⟩:=DataW.trod_int Tryz.underlying5 hx;have hb:0≤n∧n≤255:=by simpa[Lit.wf,IntKind.min,IntKind.max,IntKind.signed,IntKind.bits]using hw
 refine⟨UInt8.ofNat n.toNat,?_,trivial,bulk_one _⟩;show [Value.int .u8 n] = [Value.int .u8 (((UInt8.ofNat n.toNat).toNat:Nat):Int)];rw[UInt8.toNat_ofNat',show ((n.toNat % 2 ^ 8:Nat):Int)=n by omega]
theorem opens_t_bool:Opens Tryz.prog 4 RBool:=opens_bool Tryz.underlying4 (by kernel_rfl)
theorem opens_t_str:Opens Tryz.prog 9 RStr:=opens_str Tryz.underlying9 (by kernel_rfl)
abbrev U8:=UInt8
abbrev Words:=SlD ByteArray
instance:Inhabited Words:=⟨⟨none,0,0,[]⟩⟩
theorem opens_t_sl_U8:Opens Tryz.prog 39 (RSl RU8):=opens_slice Tryz.underlying39 (by kernel_rfl) (by decide) opens_U8
/-! ### api.TestReads -/
structure TestReads where
 test:ByteArray
 paths:SlD ByteArray
 looked:SlD ByteArray
instance:Inhabited TestReads:=⟨⟨ByteArray.empty,⟨none,0,0,[]⟩,⟨none,0,0,[]⟩⟩⟩
def RTestReads:Rd TestReads :=
 ⟨3,fun x=>[.string x.test,.slice x.paths.A x.paths.n x.paths.cap,.slice x.looked.A x.looked.n x.looked.cap],
  fun w x=>RStr.ok w x.test∧(RSl RStr).ok w x.paths∧(RSl RStr).ok w x.looked,
  fun x=>RStr.bulk x.test+(RSl RStr).bulk x.paths+(RSl RStr).bulk x.looked,fun _=>rfl,fun _ u h=>by simp only[List.mem_cons,List.not_mem_nil,or_false]at h;rcases h with rfl | rfl | rfl <;> rfl,
  fun _ _ _ hb h=>⟨RStr.mono _ _ _ hb (h.1),(RSl RStr).mono _ _ _ hb (h.2.1),(RSl RStr).mono _ _ _ hb (h.2.2)⟩⟩
/-! ### api.TreeChange -/
structure TreeChange where
 path:ByteArray
 kind:Int
deriving DecidableEq
instance:Inhabited TreeChange:=⟨⟨ByteArray.empty,0⟩⟩
/-! ### api.Var -/
structure Var where
 name:ByteArray
 value:ByteArray
deriving DecidableEq
instance:Inhabited Var:=⟨⟨ByteArray.empty,ByteArray.empty⟩⟩
/-! ### api.File -/
structure File where
 path:ByteArray
 run:Bool
 bytes:SlD U8
instance:Inhabited File:=⟨⟨ByteArray.empty,false,⟨none,0,0,[]⟩⟩⟩
def RFile:Rd File :=
 ⟨3,fun x=>[.string x.path,.bool x.run,.slice x.bytes.A x.bytes.n x.bytes.cap],
  fun w x=>RStr.ok w x.path∧RBool.ok w x.run∧(RSl RU8).ok w x.bytes,
  fun x=>RStr.bulk x.path+RBool.bulk x.run+(RSl RU8).bulk x.bytes,fun _=>rfl,fun _ u h=>by simp only[List.mem_cons,List.not_mem_nil,or_false]at h;rcases h with rfl | rfl | rfl <;> rfl,
  fun _ _ _ hb h=>⟨RStr.mono _ _ _ hb (h.1),RBool.mono _ _ _ hb (h.2.1),(RSl RU8).mono _ _ _ hb (h.2.2)⟩⟩
theorem opens_File:Opens Tryz.prog 95 RFile:=by
 refine⟨by kernel_rfl,fun H enc w fuel cs x hx=>?_⟩;obtain⟨xs,n,_,hxe,hlen,hxl,hf⟩:=DataW.trod_struct Tryz.underlying95 hx;rw[show Tryz.prog.cellsOf 95 = 3 by kernel_rfl]at hlen
 match cs,hlen,xs,hxl with
 | [c0,c1,c2],_,[y0,y1,y2],_ =>
  have g0:DataW.trod enc Tryz.prog w 0 (fun _=>true) true n 9 [c0]=some y0:=by
   have this:DataW.trod enc Tryz.prog w 0 (fun _=>true) true n 9 (([c0,c1,c2].drop 0).take (Tryz.prog.cellsOf 9))=some y0:=hf 0 _ rfl
   rwa [show ([c0,c1,c2].drop 0).take (Tryz.prog.cellsOf 9) = [c0] by rw[show Tryz.prog.cellsOf 9 = 1 by kernel_rfl];rfl]at this
  obtain⟨a0,e0,k0,b0⟩:=opens_t_str.2 H enc w n _ _ g0;have g1:DataW.trod enc Tryz.prog w 0 (fun _=>true) true n 4 [c1]=some y1:=by
   have this:DataW.trod enc Tryz.prog w 0 (fun _=>true) true n 4 (([c0,c1,c2].drop 1).take (Tryz.prog.cellsOf 4))=some y1:=hf 1 _ rfl
   rwa [show ([c0,c1,c2].drop 1).take (Tryz.prog.cellsOf 4) = [c1] by rw[show Tryz.prog.cellsOf 4 = 1 by kernel_rfl];rfl]at this
  obtain⟨a1,e1,k1,b1⟩:=opens_t_bool.2 H enc w n _ _ g1;have g2:DataW.trod enc Tryz.prog w 0 (fun _=>true) true n 39 [c2]=some y2:=by
   have this:DataW.trod enc Tryz.prog w 0 (fun _=>true) true n 39 (([c0,c1,c2].drop 2).take (Tryz.prog.cellsOf 39))=some y2:=hf 2 _ rfl
   rwa [show ([c0,c1,c2].drop 2).take (Tryz.prog.cellsOf 39) = [c2] by rw[show Tryz.prog.cellsOf 39 = 1 by kernel_rfl];rfl]at this
  obtain⟨a2,e2,k2,b2⟩:=opens_t_sl_U8.2 H enc w n _ _ g2;refine⟨⟨a0,a1,a2⟩,?_,⟨k0,k1,k2⟩,?_⟩
  ·obtain rfl:c0 = .string a0:=by have:=List.cons.inj e0;exact this.1
   obtain rfl:c1 = .bool a1:=by have:=List.cons.inj e1;exact this.1
   obtain rfl:c2 = .slice a2.A a2.n a2.cap:=by have:=List.cons.inj e2;exact this.1
   rfl
  ·subst hxe;simp only[RFile,Rows.uptoBulk,Rows.uptoBulkAll,List.map_cons,List.map_nil];omega
theorem cells_File {w:World} {b off m k:Nat} {l:List File} {x:File} (h:SlAt RFile w (some ⟨b,off,none⟩) m l) (hx:l[k]? = some x) :
  w.cell? ⟨b,off+k*3,none⟩=some (.string x.path)∧w.cell? ⟨b,off+k*3+1,none⟩=some (.bool x.run)∧w.cell? ⟨b,off+k*3+2,none⟩=some (.slice x.bytes.A x.bytes.n x.bytes.cap):=by
 have hk:=(List.getElem?_eq_some_iff.1 hx).1;obtain⟨b',off',hA,hc⟩:=h.2.1 (by have:=h.1;omega);obtain⟨rfl,rfl⟩:b=b'∧off=off':=by simpa using hA
 exact⟨hc k x hx 0 _ rfl,hc k x hx 1 _ rfl,hc k x hx 2 _ rfl⟩
theorem opens_t_sl_File:Opens Tryz.prog 22 (RSl RFile):=opens_slice Tryz.underlying22 (by kernel_rfl) (by decide) opens_File
/-! ### api.Look -/
structure Look where
 path:ByteArray
 digest:ByteArray
 run:Bool
deriving DecidableEq
instance:Inhabited Look:=⟨⟨ByteArray.empty,ByteArray.empty,false⟩⟩
/-! ### api.Action -/
structure Action where
 tool:ByteArray
 commands:SlD Words
 vars:SlD Var
 outputs:SlD ByteArray
 needs:SlD Var
 time:Int
instance:Inhabited Action:=⟨⟨ByteArray.empty,⟨none,0,0,[]⟩,⟨none,0,0,[]⟩,⟨none,0,0,[]⟩,⟨none,0,0,[]⟩,0⟩⟩
end Go.Proofs.YtpdjjjiknijpkaaGreatDoor
namespace Go.Proofs.YtpdjjjiknijpkaaGreatDoor
theorem dropWhile_nil_iff {α:Type} (p:α→Bool):∀ l:List α,(l.dropWhile p = [])↔l.all p=true
 | []=>by simp
 | x::r=>by
  have ih:=dropWhile_nil_iff p r
  cases hx:p x
  ·simp[hx]
  ·simp[hx,ih]
theorem dropWhile_head {α:Type} (p:α→Bool):∀ (l:List α) (x:α) (r:List α),l.dropWhile p=x::r→p x=false
 | [],x,r,h=>by cases h
 | y::l,x,r,h=>by
  rw[List.dropWhile_cons]at h
  split at h
  ·exact dropWhile_head p l x r h
  ·rename_i hy
   simp only[List.cons.injEq]at h;rw[← h.1]
   simpa using hy
theorem trimS_nil (l cs:List UInt8):(Lib.trimS l cs = [])↔l.all (cs.contains ·)=true:=by
 unfold Lib.trimS Lib.trimLeftS Lib.trimRightS;rw[dropWhile_nil_iff]
 constructor
 ·intro h;rw[List.all_reverse]at h;have:l.reverse.dropWhile (cs.contains ·) = []:=by
   cases hd:l.reverse.dropWhile (cs.contains ·) with
   | nil=>rfl
   | cons x r =>
    have hx:=dropWhile_head _ _ _ _ hd;rw[hd]at h;simp only[List.all_cons,Bool.and_eq_true]at h;rw[h.1]at hx
    cases hx
  rw[dropWhile_nil_iff,List.all_reverse]at this;exact this
 ·intro h;rw[← List.all_reverse,← dropWhile_nil_iff]at h;rw[h];rfl
theorem byte_all {p:UInt8→Bool} (h:(List.range 256).all (fun n=>p (UInt8.ofNat n))=true) (b:UInt8):p b=true:=by
 have hb:b.toNat<256:=b.toNat_lt;have:=List.all_eq_true.1 h b.toNat (List.mem_range.2 hb)
 rwa [UInt8.ofNat_toNat]at this
end Go.Proofs.YtpdjjjiknijpkaaGreatDoor
namespace Go.Proofs.YtpdjjjiknijpkaaGreatDoor
open Go.RowKit
structure ObT where
 dig:ByteArray
 bytes:SlD UInt8
instance:Inhabited ObT:=⟨⟨ByteArray.empty,⟨none,0,0,[]⟩⟩⟩
def ROv:Rd ObT :=
 ⟨2,fun x=>[.string x.dig,.slice x.bytes.A x.bytes.n x.bytes.cap],fun _ _=>True,fun _=>0,fun _=>rfl,fun _ u h=>by simp only[List.mem_cons,List.not_mem_nil,or_false]at h;rcases h with rfl | rfl <;> rfl,fun _ _ _ _ _=>trivial⟩
def ROb:Rd ObT :=
 ⟨2,fun x=>[.string x.dig,.slice x.bytes.A x.bytes.n x.bytes.cap],fun w x=>(RSl RU8).ok w x.bytes,fun _=>0,fun _=>rfl,fun _ u h=>by simp only[List.mem_cons,List.not_mem_nil,or_false]at h;rcases h with rfl | rfl <;> rfl,fun _ _ _ hb h=>(RSl RU8).mono _ _ _ hb h⟩
def RFv:Rd File :=
 ⟨3,fun x=>[.string x.path,.bool x.run,.slice x.bytes.A x.bytes.n x.bytes.cap],fun _ _=>True,fun _=>0,fun _=>rfl,fun _ u h=>by simp only[List.mem_cons,List.not_mem_nil,or_false]at h;rcases h with rfl | rfl | rfl <;> rfl,fun _ _ _ _ _=>trivial⟩
theorem slAt_ob {w:World} {A:Option Addr} {n:Nat} {l:List ObT} (h:SlAt ROv w A n l) (hb:∀ x∈l,(RSl RU8).ok w x.bytes):SlAt ROb w A n l:=⟨h.1,h.2.1,hb⟩
theorem slAt_fv {w:World} {A:Option Addr} {n:Nat} {l:List File} (h:SlAt RFv w A n l) (hb:∀ x∈l,RFile.ok w x):SlAt RFile w A n l:=⟨h.1,h.2.1,hb⟩
theorem ob_v {w:World} {A:Option Addr} {n:Nat} {l:List ObT} (h:SlAt ROb w A n l):SlAt ROv w A n l:=⟨h.1,h.2.1,fun _ _=>trivial⟩
theorem cells_ObT {w:World} {b off n k:Nat} {l:List ObT} {x:ObT} (h:SlAt ROv w (some ⟨b,off,none⟩) n l) (hx:l[k]? = some x):w.cell? ⟨b,off+k*2,none⟩=some (.string x.dig)∧w.cell? ⟨b,off+k*2+1,none⟩=some (.slice x.bytes.A x.bytes.n x.bytes.cap):=by
 have hk:=(List.getElem?_eq_some_iff.1 hx).1;obtain⟨b',off',hA,hc⟩:=h.2.1 (by have:=h.1;omega);obtain⟨rfl,rfl⟩:b=b'∧off=off':=by simpa using hA
 exact⟨hc k x hx 0 _ rfl,hc k x hx 1 _ rfl⟩
structure PaT where
 dig:ByteArray
 size:Nat
 bytes:SlD UInt8
instance:Inhabited PaT:=⟨⟨ByteArray.empty,0,⟨none,0,0,[]⟩⟩⟩
def RPv:Rd PaT :=
 ⟨3,fun x=>[.string x.dig,.int .i64 x.size,.slice x.bytes.A x.bytes.n x.bytes.cap],fun _ _=>True,fun _=>0,fun _=>rfl,fun _ u h=>by simp only[List.mem_cons,List.not_mem_nil,or_false]at h;rcases h with rfl | rfl | rfl <;> rfl,fun _ _ _ _ _=>trivial⟩
theorem cells_PaT {w:World} {b off n k:Nat} {l:List PaT} {x:PaT} (h:SlAt RPv w (some ⟨b,off,none⟩) n l) (hx:l[k]? = some x):w.cell? ⟨b,off+k*3,none⟩=some (.string x.dig)∧w.cell? ⟨b,off+k*3+1,none⟩=some (.int .i64 x.size)∧w.cell? ⟨b,off+k*3+2,none⟩=some (.slice x.bytes.A x.bytes.n x.bytes.cap):=by
 have hk:=(List.getElem?_eq_some_iff.1 hx).1;obtain⟨b',off',hA,hc⟩:=h.2.1 (by have:=h.1;omega);obtain⟨rfl,rfl⟩:b=b'∧off=off':=by simpa using hA
 exact⟨hc k x hx 0 _ rfl,hc k x hx 1 _ rfl,hc k x hx 2 _ rfl⟩
def cmpB:List UInt8→List UInt8→Int:=Lib.compareBytes
theorem cmpB_zero:∀ a b:List UInt8,cmpB a b=0↔a=b
 | [],[]=>by simp[cmpB,Lib.compareBytes]
 | [],_::_=>by simp[cmpB,Lib.compareBytes]
 | _::_,[]=>by simp[cmpB,Lib.compareBytes]
 | x::r,y::s=>by
  have ih:=cmpB_zero r s;unfold cmpB at ih ⊢;unfold Lib.compareBytes
  by_cases h:x<y
  ·simp only[if_pos h,List.cons.injEq];exact⟨fun h=>(by cases h),fun h'=>by rw[h'.1]at h;exact absurd h (by simp)⟩
  ·by_cases h2:y<x
   ·simp only[if_neg h,if_pos h2,List.cons.injEq];exact⟨fun h=>(by cases h),fun h'=>by rw[h'.1]at h2;exact absurd h2 (by simp)⟩
   ·rw[if_neg h,if_neg h2,ih];have:x=y:=by
     have h1:y≤x:=UInt8.not_lt.1 h;have h3:x≤y:=UInt8.not_lt.1 h2;exact UInt8.le_antisymm h3 h1
    simp[this]
theorem cmpB_swap:∀ a b:List UInt8,cmpB b a = - cmpB a b
 | [],[]=>by simp[cmpB,Lib.compareBytes]
 | [],_::_=>by simp[cmpB,Lib.compareBytes]
 | _::_,[]=>by simp[cmpB,Lib.compareBytes]
 | x::r,y::s=>by
  have ih:=cmpB_swap r s;unfold cmpB at ih ⊢;unfold Lib.compareBytes
  by_cases h:x<y
  ·have h2:¬ y<x:=fun h2=>by have:=UInt8.lt_trans h h2;simp at this
   rw[if_pos h,if_neg h2,if_pos h];rfl
  ·by_cases h2:y<x
   ·rw[if_pos h2,if_neg h,if_pos h2]
   ·rw[if_neg h2,if_neg h,if_neg h,if_neg h2,ih]
theorem cmpB_range:∀ a b:List UInt8,cmpB a b = -1∨cmpB a b=0∨cmpB a b=1
 | [],[]=>by simp[cmpB,Lib.compareBytes]
 | [],_::_=>by simp[cmpB,Lib.compareBytes]
 | _::_,[]=>by simp[cmpB,Lib.compareBytes]
 | x::r,y::s=>by
  have ih:=cmpB_range r s;unfold cmpB at ih ⊢;unfold Lib.compareBytes
  split
  ·exact Or.inl rfl
  ·split
   ·exact Or.inr (Or.inr rfl)
   ·exact ih
theorem cmpB_trans:∀ a b c:List UInt8,cmpB a b = -1→cmpB b c = -1→cmpB a c = -1
 | [],[],c,h,_=>by simp[cmpB,Lib.compareBytes]at h
 | [],_::_,[],_,h=>by simp[cmpB,Lib.compareBytes]at h
 | [],_::_,_::_,_,_=>by simp[cmpB,Lib.compareBytes]
 | _::_,[],_,h,_=>by simp[cmpB,Lib.compareBytes]at h
 | _::_,_::_,[],_,h=>by simp[cmpB,Lib.compareBytes]at h
 | x::r,y::s,z::t,h1,h2=>by
  have ih:=cmpB_trans r s t;unfold cmpB at ih h1 h2 ⊢;unfold Lib.compareBytes at h1 h2 ⊢
  by_cases a:x<y
  ·by_cases b:y<z
   ·rw[if_pos (UInt8.lt_trans a b)]
   ·rw[if_neg b]at h2
    by_cases b2:z<y
    ·rw[if_pos b2]at h2;cases h2
    ·have:y=z:=UInt8.le_antisymm (UInt8.not_lt.1 b2) (UInt8.not_lt.1 b);subst this;rw[if_pos a]
  ·rw[if_neg a]at h1
   by_cases a2:y<x
   ·rw[if_pos a2]at h1;cases h1
   ·have:x=y:=UInt8.le_antisymm (UInt8.not_lt.1 a2) (UInt8.not_lt.1 a);subst this;rw[if_neg a2]at h1
    by_cases b:x<z
    ·rw[if_pos b]
    ·rw[if_neg b]at h2 ⊢
     by_cases b2:z<x
     ·rw[if_pos b2]at h2;cases h2
     ·rw[if_neg b2]at h2 ⊢;exact ih h1 h2
theorem less_cmpB:∀ a b:List UInt8,Op.bytesLess a b=decide (cmpB a b = -1)
 | [],[]=>by simp[cmpB,Lib.compareBytes,Op.bytesLess]
 | [],_::_=>by simp[cmpB,Lib.compareBytes,Op.bytesLess]
 | _::_,[]=>by simp[cmpB,Lib.compareBytes,Op.bytesLess]
 | x::r,y::s=>by
  have ih:=less_cmpB r s;unfold cmpB at ih ⊢;unfold Lib.compareBytes;rw[Op.bytesLess,ih]
  by_cases h:x<y
  ·simp[h]
  ·by_cases h2:y<x
   ·have hne:(x==y)=false:=by
     rw[beq_eq_false_iff_ne];intro e;rw[e]at h2;simp at h2
    simp[h,h2,hne]
   ·have:x=y:=UInt8.le_antisymm (UInt8.not_lt.1 h2) (UInt8.not_lt.1 h);subst this;simp
def sle (a b:ByteArray):Bool:=Op.bytesLess a.toList b.toList||a.toList==b.toList
theorem cell_new (w:World) (cs:Array Value) (t:TypeId) (j:Nat):(w.alloc (.cells cs t)).cell? ⟨w.heap.size,j,none⟩=cs[j]?:=by
 simp[go_sem]
def cmpS (a b:ByteArray):Int:=cmpB a.data.toList b.data.toList
def ltS (a b:ByteArray):Bool:=Op.bytesLess a.toList b.toList
theorem ltS_cmp (a b:ByteArray):ltS a b=decide (cmpS a b = -1):=by rw[ltS,Lib.toList_data,Lib.toList_data,less_cmpB];rfl
theorem cmpS_zero (a b:ByteArray):cmpS a b=0↔a=b:=by
 rw[cmpS,cmpB_zero]
 constructor
 ·intro h
  cases a;cases b
  simpa using h
 ·rintro rfl;rfl
theorem cmpS_swap (a b:ByteArray):cmpS b a = - cmpS a b:=cmpB_swap _ _
theorem cmpS_range (a b:ByteArray):cmpS a b = -1∨cmpS a b=0∨cmpS a b=1:=cmpB_range _ _
theorem cmpS_trans {a b c:ByteArray}:cmpS a b = -1→cmpS b c = -1→cmpS a c = -1:=cmpB_trans _ _ _
theorem sle_cmp (a b:ByteArray):sle a b=decide (cmpS a b≤0):=by
 have h1:(a.toList==b.toList)=decide (cmpS a b=0):=by
  rw[Bool.eq_iff_iff,beq_iff_eq,decide_eq_true_iff,Lib.toList_data,Lib.toList_data,cmpS,cmpB_zero]
 have h2:=ltS_cmp a b;unfold ltS at h2;rw[sle,h1,h2]
 rcases cmpS_range a b with h | h | h <;> rw[h] <;> decide
theorem beq_data (a b:ByteArray):(a.toList==b.toList)=decide (a=b):=by
 rw[Bool.eq_iff_iff,beq_iff_eq,decide_eq_true_iff,Lib.toList_data,Lib.toList_data]
 constructor
 ·intro h
  cases a;cases b
  simpa using h
 ·rintro rfl;rfl
theorem nbne_data {a b:ByteArray} (h:a=b):(!a.toList==b.toList)=false:=by rw[beq_data,decide_eq_true h];rfl
def fnvM:Nat:=18446744073709551616
def fnvStep (h:Nat) (c:UInt8):Nat:=(h ^^^ c.toNat)*1099511628211 % fnvM
def fnv0:Nat:=14695981039346656037
def fnv (l:List UInt8):Nat:=l.foldl fnvStep fnv0
theorem fnvStep_lt (h:Nat) (c:UInt8):fnvStep h c<fnvM:=Nat.mod_lt _ (by decide)
theorem fnv_lt (l:List UInt8):fnv l<fnvM:=by
 unfold fnv;have:∀ (l:List UInt8) (h:Nat),h<fnvM→l.foldl fnvStep h<fnvM:=by
  intro l
  induction l with
  | nil=>intro h hh;exact hh
  | cons c r ih=>intro h _;exact ih _ (fnvStep_lt h c)
 exact this l _ (by unfold fnv0 fnvM;omega)
theorem fnv_take {l:List UInt8} {k:Nat} {c:UInt8} (h:l[k]? = some c):fnv (l.take (k+1))=fnvStep (fnv (l.take k)) c:=by
 unfold fnv;rw[List.take_add_one,h,Option.toList,List.foldl_append,List.foldl_cons,List.foldl_nil]
def hexd:List UInt8:=[48,49,50,51,52,53,54,55,56,57,97,98,99,100,101,102]
def hexN (k:Nat):UInt8:=hexd.getD k 0
def digN (h j:Nat):UInt8:=hexN (h / 16 ^ (15-j) % 16)
def hex16 (h:Nat):List UInt8:=(List.range 16).map (digN h)
def digF (l:List UInt8):ByteArray:=⟨(hex16 (fnv l)).toArray⟩
theorem hex16_len (h:Nat):(hex16 h).length=16:=by simp[hex16]
theorem digF_size (l:List UInt8):(digF l).size=16:=by
 show (hex16 (fnv l)).toArray.size=16;rw[List.size_toArray,hex16_len]
theorem digF_data (l:List UInt8):(digF l).data.toList=hex16 (fnv l):=rfl
theorem fnv_xor (h:Nat) (c:UInt8) (hh:h<fnvM):bits .xor .u64 (h:Int) (c.toNat:Int)=((h ^^^ c.toNat:Nat):Int) :=
 bits_xor_u64_nat _ _ hh (by have:=c.toNat_lt;omega)
theorem fnv_mul (h:Nat) (c:UInt8):IntKind.u64.wrap (((h ^^^ c.toNat:Nat):Int)*1099511628211)=(fnvStep h c:Int):=by
 rw[IntKind.wrap_u64];unfold fnvStep fnvM;omega
theorem and15 (h:Nat) (hh:h<fnvM):bits .and .u64 (h:Int) 15=((h % 16:Nat):Int):=by
 have:=bits_and_u64_nat h 15 hh (by decide);rw[show h &&& 15=h % 16 from Nat.and_two_pow_sub_one_eq_mod h 4]at this;exact this
end Go.Proofs.YtpdjjjiknijpkaaGreatDoor
namespace Go.Proofs.YtpdjjjiknijpkaaGreatDoor
open Go.ChangeShapes Go.WideShapes Go.Deep Go.RowKit Go.Maps
structure KD (P:Program) (k:TypeId) (κ:Type) where
 val:κ→Value
 lit:κ→Lit
 good:κ→Prop
 keyed:Keyed P k
 of_:∀ x,good x→keyOf P k (val x)=some (lit x)
 inv:∀ v l,keyOf P k v=some l→∃ x,good x∧v=val x∧l=lit x
 inj:∀ x y,good x→good y→lit x=lit y→x=y
noncomputable def rdV {α:Type} (val:α→Value) (v:Value):Option (DataW α × List MemPlace) :=
 open Classical in if h:∃ a,v=val a then some (.held (Classical.choose h),[]) else none
def InjV {α:Type} (val:α→Value):Prop:=∀ a b,val a=val b→a=b
theorem rdV_of {α:Type} {val:α→Value} (hi:InjV val) (a:α):rdV val (val a)=some (.held a,[]):=by
 unfold rdV;have h:∃ a',val a=val a':=⟨a,rfl⟩;rw[dif_pos h,hi _ _ (Classical.choose_spec h).symm]
theorem rdV_inv {α:Type} {val:α→Value} {v:Value} {y:DataW α × List MemPlace} (h:rdV val v=some y):∃ a,v=val a∧y=(.held a,[]):=by
 unfold rdV at h
 split at h
 ·rename_i hx
  injection h with h;exact⟨_,Classical.choose_spec hx,h.symm⟩
 ·cases h
section
variable {P:Program} {k:TypeId} {κ α:Type}
def TMap (K:KD P k κ) (val:α→Value) (w:World) (b:Nat) (f:κ→Option α) (c:Nat):Prop :=
 ∃ D:DataW α,w.ownsMap P k (rdV val) b c D∧Maps.size D=c∧∀ x,K.good x→Maps.has D (K.lit x)=(f x).isSome∧∀ a,f x=some a→∀ zd,D.atKey (K.lit x) zd = .held a
variable {K:KD P k κ} {val:α→Value} {w w':World} {b c:Nat} {f:κ→Option α}
theorem TMap.made (w:World) (K:KD P k κ) (val:α→Value):TMap K val (w.alloc (.map #[] 0)) w.heap.size (fun _=>none) 0 :=
 ⟨.map [],World.ownsMap_made w P k (rdV val),rfl,fun x _=>⟨rfl,fun a h=>by cases h⟩⟩
theorem TMap.lt (h:TMap K val w b f c):b<w.heap.size:=by obtain⟨D,h,_⟩:=h;exact h.lt
theorem TMap.kept {row:Option Nat} (h:TMap K val w b f c) (hg:w.grownBy w' row) (hne:some b≠row):TMap K val w' b f c:=by
 obtain⟨D,h,r⟩:=h;exact⟨D,h.kept hg hne,r⟩
theorem TMap.alloc (h:TMap K val w b f c) (o:Obj):TMap K val (w.alloc o) b f c:=h.kept (World.grownBy_alloc w o none) (by simp)
theorem TMap.below {B:Nat} (h:TMap K val w b f c) (hb:Below B w w') (hlt:b<B):TMap K val w' b f c:=by
 obtain⟨D,⟨es,clock,he,r⟩,r2⟩:=h;exact⟨D,⟨es,clock,(hb.block b hlt).trans he,r⟩,r2⟩
def upd [DecidableEq κ] (f:κ→Option α) (x:κ) (a:α):κ→Option α:=fun y=>if y=x then some a else f y
theorem TMap.look [DecidableEq κ] {t e:TypeId} (h:TMap K val w b f c) (ht:P.underlying t=some (.map k e)) {z0:α} (hz:(zeroValue e).run P w = .ok (val z0) w) (hi:InjV val) {x:κ} (hx:K.good x) :
  (Instr.lookup t (.map (some b)) (K.val x) false).run P w = .ok (val ((f x).getD z0)) w∧(Instr.lookup t (.map (some b)) (K.val x) true).run P w = .ok (.tuple #[val ((f x).getD z0),.bool (f x).isSome]) w:=by
 obtain⟨D,h,hs,hv⟩:=h;obtain⟨v1,v2⟩:=hv x hx;have hat:D.atKey (K.lit x) (.held z0) = .held ((f x).getD z0):=by
  cases hf:f x with
  | none =>
   rw[hf]at v1;exact Maps.atKey_of_not_has v1 _
  | some a=>exact v2 a hf _
 obtain⟨v,ps,hr,hR⟩:=h.lookup K.keyed ht hz (rdV_of hi z0) (K.of_ x hx);obtain⟨v',ps',hr',hR'⟩:=h.look_ok K.keyed ht hz (rdV_of hi z0) (K.of_ x hx);rw[hat]at hR hR';obtain⟨a,rfl,ha⟩:=rdV_inv hR;obtain⟨a',rfl,ha'⟩:=rdV_inv hR';simp only[Prod.mk.injEq,DataW.held.injEq]at ha ha';obtain⟨rfl,_⟩:=ha;obtain⟨rfl,_⟩:=ha';rw[← v1];exact⟨hr,hr'⟩
theorem TMap.store [DecidableEq κ] {t e:TypeId} (h:TMap K val w b f c) (ht:P.underlying t=some (.map k e)) (hi:InjV val) (hc:c<maxLen) {x:κ} (hx:K.good x) (a:α) :
  ∃ w',(Instr.mapUpdate t (.map (some b)) (K.val x) (val a)).run P w = .ok () w'∧TMap K val w' b (upd f x a) (if (f x).isSome then c else c+1)∧w.mapTurned w' b:=by
 obtain⟨D,h,hs,hv⟩:=h;obtain⟨w',hr,h',ht'⟩:=h.store K.keyed ht hc (K.of_ x hx) (rdV_of hi a);refine⟨w',hr,⟨D.put (K.lit x) (.held a),?_,?_,fun y hy=>?_⟩,ht'⟩
 ·obtain⟨es,clock,he,F,hsz,hD⟩:=h';refine⟨es,clock,he,F,?_,hD⟩;have e1:Maps.size (D.put (K.lit x) (.held a))=es.size:=by rw[hD];simp[Maps.size,length_sorted]
  rw[← e1,Maps.size_put (h.tidy K.keyed),(hv x hx).1,hs];exact Nat.le_refl _
 ·rw[Maps.size_put (h.tidy K.keyed),(hv x hx).1,hs]
 ·have hk:=K.keyed.key (K.of_ x hx)
  by_cases hyx:y=x
  ·subst hyx;refine⟨?_,fun a' ha' zd=>?_⟩
   ·rw[Maps.has_put_same h.isMap hk];simp[upd]
   ·rw[Maps.atKey_put_same h.isMap hk];simp[upd]at ha';rw[ha']
  ·have hne:K.lit y≠K.lit x:=fun e=>hyx (K.inj _ _ hy hx e);refine⟨?_,fun a' ha' zd=>?_⟩
   ·rw[Maps.has_put_other hne,(hv y hy).1];simp[upd,hyx]
   ·rw[Maps.atKey_put_other hne];simp[upd,hyx]at ha';exact(hv y hy).2 a' ha' zd
variable {ops:Array Oper} {rest:List Oper} {o:Oper} {a:Act} {Q:Exit→Act→World→Prop}
theorem wpList_tstore [DecidableEq κ] (hg:o.guard=none) (m x v:Operand) (t:TypeId) (hop:o.op=Op.mapUpdate t m x v) {e:TypeId} (ht:P.underlying t=some (.map k e)) (hi:InjV val)
  (hm:a.eval m = .map (some b)) (h:TMap K val w b f c) (hc:c<maxLen) (kx:κ) (hx:a.eval x=K.val kx) (hgood:K.good kx) (y:α) (hv:a.eval v=val y)
  (hK:∀ w',TMap K val w' b (upd f kx y) (if (f kx).isSome then c else c+1)→w.grownBy w' (some b)→wpList P ops Q rest (a.put o.dst undef) w'):wpList P ops Q (o::rest) a w:=by
 refine wpList_plain hg fun K' hK'=>?_;obtain⟨w',hr,h',ht'⟩:=h.store ht hi hc hgood y;unfold Oper.wp;simp[execOp,hop,hm,hx,hv,hr,Result.andThen];exact hK' _ _ (hK w' h' ht'.grown)
theorem wpList_tlen (hg:o.guard=none) (m:Operand) (t:TypeId) (hop:o.op=Op.call { callee:=Callee.builtin Builtin.len,args:=#[m],argTypes:=#[t] }) {e:TypeId} (ht:P.underlying t=some (.map k e))
  (hm:a.eval m = .map (some b)) (h:TMap K val w b f c) (hK:wpList P ops Q rest (a.put o.dst (.int .i64 c)) w):wpList P ops Q (o::rest) a w:=by
 obtain⟨D,h,hs,_⟩:=h;exact wpList_len_own w hg m t hop k e ht (rdV val) b c D hm h (by rw[hs];exact hK)
end
/-! ### kinds of keys -/
theorem ite_le_succ (p:Prop) [Decidable p] (c:Nat):(if p then c else c+1)≤c+1:=by split <;> omega
theorem grown_below {w w':World} {b B:Nat} (hg:w.grownBy w' (some b)) (hb:B≤b) (hs:B≤w.heap.size):Below B w w' :=
 (Below.refl _ _).grown hg hs fun k hk=>by cases hk;exact hb
end Go.Proofs.YtpdjjjiknijpkaaGreatDoor
namespace Go.Proofs.YtpdjjjiknijpkaaGreatDoor
open Go.ChangeShapes Go.WideShapes Go.Deep Go.RowKit
theorem grown_setc (w:World) (a:Addr) (u:Value):w.grownBy (w.setCell a u) (some a.block) :=
 ⟨rfl,rfl,rfl,by simp,fun k _ hne=>heap_setCell_other w a k u (fun e=>hne (by rw[e]))⟩
end Go.Proofs.YtpdjjjiknijpkaaGreatDoor