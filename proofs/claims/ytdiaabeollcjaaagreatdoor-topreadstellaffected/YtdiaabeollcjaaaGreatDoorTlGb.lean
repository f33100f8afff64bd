/-
 Several texts of mine as one, without what is not wanted here: XU8, XRange, XTypesX, XOrd, XDigP, XSets, XStr.
-/
import Derived.Test.YtdiaabeollcjaaaGreatDoorTlGa
import Derived.Maps.Ext
import Derived.StringKeys
import Derived.Lib.Bytealg
import Derived.Lib.Small
import Derived.Laws.Bits64b
import Derived.Lib.SlTrimSet
import Derived.Lib.SplitLaws
set_option linter.unusedVariables false
set_option linter.unusedSimpArgs false
set_option maxRecDepth 100000
set_option maxHeartbeats 8000000
namespace Go.Proofs.YtdiaabeollcjaaaGreatDoor
open Go.ChangeShapes Go.WideShapes Go.Deep Go.RowKit
def RU8:Rd UInt8:=⟨1,fun c=>[.int .u8 (c.toNat:Nat)],fun _ _=>True,fun _=>1,fun _=>rfl,fun _ u h=>by simp only[List.mem_singleton]at h;subst h;rfl,fun _ _ _ _ h=>h⟩
theorem cell_U8 {w:World} {b off m k:Nat} {l:List UInt8} {x:UInt8} (h:SlAt RU8 w (some ⟨b,off,none⟩) m l) (hx:l[k]? = some x):w.cell? ⟨b,off+k,none⟩=some (.int .u8 (x.toNat:Nat)):=by
 have hk:=(List.getElem?_eq_some_iff.1 hx).1;obtain⟨b',off',hA,hc⟩:=h.2.1 (by have:=h.1;omega);obtain⟨rfl,rfl⟩:b=b'∧off=off':=by simpa using hA
 have:=hc k x hx 0 _ rfl
 simpa[RU8]using this
theorem opens_U8:Opens Tryz.prog 5 RU8:=by
 refine⟨by kernel_rfl,fun H enc w fuel cs x hx=>?_⟩;obtain⟨n,rfl,rfl,hw⟩:=DataW.trod_int Tryz.underlying5 hx;have hb:0≤n∧n≤255:=by simpa[Lit.wf,IntKind.min,IntKind.max,IntKind.signed,IntKind.bits]using hw
 refine⟨UInt8.ofNat n.toNat,?_,trivial,bulk_one _⟩;show [Value.int .u8 n] = [Value.int .u8 (((UInt8.ofNat n.toNat).toNat:Nat):Int)];rw[UInt8.toNat_ofNat',show ((n.toNat % 2 ^ 8:Nat):Int)=n by omega]
end Go.Proofs.YtdiaabeollcjaaaGreatDoor
namespace Go.Proofs.YtdiaabeollcjaaaGreatDoor
open Go.ChangeShapes Go.WideShapes Go.Deep Go.RowKit Go.Maps
section
variable {P:Program} {k:TypeId} {κ α:Type} {K:KD P k κ} {val:α→Value} {w w':World} {b r c cnt:Nat} {f:κ→Option α} {left:κ→Bool}
def TRange (K:KD P k κ) (val:α→Value) (w:World) (b r c:Nat) (f:κ→Option α) (left:κ→Bool) (cnt:Nat):Prop :=
 ∃ (D:DataW α) (lf:Lit→Bool),w.ranges P k (rdV val) b r c D lf cnt∧(∀ x,K.good x→Maps.has D (K.lit x)=(f x).isSome∧∀ a,f x=some a→∀ zd,D.atKey (K.lit x) zd = .held a)∧∀ x,K.good x→lf (K.lit x)=left x
theorem TRange.left_eq (h:TRange K val w b r c f left cnt):w.rangeLeft b r=cnt:=by obtain⟨_,_,h,_⟩:=h;exact h.left_eq
theorem TRange.kept {row:Option Nat} (h:TRange K val w b r c f left cnt) (hg:w.grownBy w' row) (hb:some b≠row) (hr:some r≠row):TRange K val w' b r c f left cnt:=by
 obtain⟨D,lf,h,q⟩:=h;exact⟨D,lf,h.kept hg hb hr,q⟩
theorem below_grown {B:Nat} (hb:Below B w w') (hB:B=w.heap.size):w.grownBy w' none:=by
 subst hB;exact⟨hb.os,hb.tape,hb.output,hb.size,fun k hk _=>hb.block k hk⟩
variable {ops:Array Oper} {rest:List Oper} {o:Oper} {a:Act} {Q:Exit→Act→World→Prop}
theorem wpList_trange (hg:o.guard=none) (m:Operand) (t:TypeId) (hop:o.op=Op.range t m) {e:TypeId} (ht:P.underlying t=some (.map k e)) (hm:a.eval m = .map (some b)) (h:TMap K val w b f c)
  (hK:∀ w',TRange K val w' b w.heap.size c f (fun x=>(f x).isSome) c→w.grownBy w' none→w'.heap.size=w.heap.size+1→wpList P ops Q rest (a.put o.dst (.pointer (some ⟨w.heap.size,0,none⟩))) w') :
  wpList P ops Q (o::rest) a w:=by
 obtain⟨D,h,hs,hv⟩:=h;refine wpList_range_own w hg m t hop k e K.keyed ht (rdV val) b c D hm h ?_;intro w' hr hgr hsz;rw[hs]at hr;exact hK w' ⟨D,_,hr,hv,fun x hx=>(hv x hx).1⟩ hgr hsz
theorem wpList_tnext [DecidableEq κ] (hg:o.guard=none) (it:Operand) (hop:o.op=Op.next it false) (hit:a.eval it = .pointer (some ⟨r,0,none⟩)) (hi:InjV val) (h:TRange K val w b r c f left cnt)
  (hDone:cnt=0→(∀ x,K.good x→left x=false)→wpList P ops Q rest (a.put o.dst (.tuple #[.bool false])) w)
  (hMore:∀ (x:κ) (y:α) (w':World) (cnt':Nat),K.good x→left x=true→f x=some y→TRange K val w' b r c f (fun z=>left z && !decide (z=x)) cnt'→cnt'<cnt →
   w.grownBy w' (some r)→w'.heap.size=w.heap.size→(Instr.entry (.pointer (some ⟨r,0,none⟩))).run P w' = .ok (.tuple #[K.val x,val y]) w'→wpList P ops Q rest (a.put o.dst (.tuple #[.bool true,K.val x,val y])) w') :
  wpList P ops Q (o::rest) a w:=by
 obtain⟨D,lf,h,hv,hl⟩:=h;refine wpList_next_ranges w hg it hop k K.keyed (rdV val) K.val val (fun key kl hk=>by obtain⟨x,_,rfl,_⟩:=K.inv _ _ hk;exact⟨x,rfl⟩) (fun v y hy=>by obtain⟨c,rfl,_⟩:=rdV_inv hy;exact⟨c,rfl⟩)
  b r c D lf cnt hit h (fun h0 hd=>hDone h0 fun x hx=>by rw[← hl x hx];exact hd _) ?_
 intro x0 y kl yy w' cnt' hkey hlk hR hat hrg hlt hgr hsz hen;obtain⟨x,hx,ex,rfl⟩:=K.inv _ _ hkey;rw[ex]at hen ⊢;rw[rdV_of hi]at hR;obtain rfl:yy=(.held y,[]):=(Option.some.inj hR).symm;have hhas:=Maps.has_true_of_atKey hat;have hf:f x=some y:=by
  rw[(hv x hx).1]at hhas;obtain⟨a,ha⟩:=Option.isSome_iff_exists.1 hhas;have h1:=(hv x hx).2 a ha .nil;rw[hat]at h1;injection h1 with h1;rw[ha,h1]
 refine hMore x y w' cnt' hx (by rw[← hl x hx];exact hlk) hf ⟨D,_,hrg,hv,fun z hz=>?_⟩ hlt hgr hsz hen;simp only;rw[hl z hz]
 by_cases e:z=x
 ·subst e;rw[WideAt.sameKey_self (K.keyed.key (K.of_ z hz)),decide_eq_true rfl]
 ·rw[Maps.sameKey_ne (fun h=>e (K.inj _ _ hz hx h)),decide_eq_false e]
end
def KStr {P:Program} {k:TypeId} (hk:P.underlying k=some .string):KD P k ByteArray :=
 ⟨fun s=>.string s,fun s=>.string s.data.toList,fun s=>s.size≤maxLen,string_keyed hk,fun _ h=>WideMaps.keyOf_string_mk hk h,fun v l h=>by obtain⟨s,e1,e2,e3⟩:=WideMaps.string_of_keyOf hk h;exact⟨s,e3,e1,e2⟩,fun x y _ _ h=>by
  cases x;cases y
  simpa using h⟩
end Go.Proofs.YtdiaabeollcjaaaGreatDoor
namespace Go.Proofs.YtdiaabeollcjaaaGreatDoor
open Go.ChangeShapes Go.WideShapes Go.Deep Go.RowKit
theorem opens_t_int:Opens Tryz.prog 3 RInt:=opens_int Tryz.underlying3 (by kernel_rfl)
theorem opens_t_bool:Opens Tryz.prog 4 RBool:=opens_bool Tryz.underlying4 (by kernel_rfl)
theorem opens_t_str:Opens Tryz.prog 9 RStr:=opens_str Tryz.underlying9 (by kernel_rfl)
theorem opens_t_sl_Str:Opens Tryz.prog 24 (RSl RStr):=opens_slice Tryz.underlying24 (by kernel_rfl) (by decide) opens_t_str
abbrev U8:=UInt8
abbrev Words:=SlD ByteArray
instance:Inhabited Words:=⟨⟨none,0,0,[]⟩⟩
def RWords:Rd Words:=RSl RStr
theorem opens_t_sl_U8:Opens Tryz.prog 56 (RSl RU8):=opens_slice Tryz.underlying56 (by kernel_rfl) (by decide) opens_U8
theorem opens_t_sl_Words:Opens Tryz.prog 22 (RSl RWords):=opens_slice Tryz.underlying22 (by kernel_rfl) (by decide) opens_t_sl_Str
/-! ### api.TestReads -/
structure TestReads where
 test:ByteArray
 paths:SlD ByteArray
 looked:SlD ByteArray
instance:Inhabited TestReads:=⟨⟨ByteArray.empty,⟨none,0,0,[]⟩,⟨none,0,0,[]⟩⟩⟩
def RTestReads:Rd TestReads :=
 ⟨3,fun x=>[.string x.test,.slice x.paths.A x.paths.n x.paths.cap,.slice x.looked.A x.looked.n x.looked.cap],
  fun w x=>RStr.ok w x.test∧(RSl RStr).ok w x.paths∧(RSl RStr).ok w x.looked,
  fun x=>RStr.bulk x.test+(RSl RStr).bulk x.paths+(RSl RStr).bulk x.looked,fun _=>rfl,fun _ u h=>by simp only[List.mem_cons,List.not_mem_nil,or_false]at h;rcases h with rfl | rfl | rfl <;> rfl,
  fun _ _ _ hb h=>⟨RStr.mono _ _ _ hb (h.1),(RSl RStr).mono _ _ _ hb (h.2.1),(RSl RStr).mono _ _ _ hb (h.2.2)⟩⟩
theorem cells_TestReads {w:World} {b off m k:Nat} {l:List TestReads} {x:TestReads} (h:SlAt RTestReads w (some ⟨b,off,none⟩) m l) (hx:l[k]? = some x) :
  w.cell? ⟨b,off+k*3,none⟩=some (.string x.test)∧w.cell? ⟨b,off+k*3+1,none⟩=some (.slice x.paths.A x.paths.n x.paths.cap)∧w.cell? ⟨b,off+k*3+2,none⟩=some (.slice x.looked.A x.looked.n x.looked.cap):=by
 have hk:=(List.getElem?_eq_some_iff.1 hx).1;obtain⟨b',off',hA,hc⟩:=h.2.1 (by have:=h.1;omega);obtain⟨rfl,rfl⟩:b=b'∧off=off':=by simpa using hA
 exact⟨hc k x hx 0 _ rfl,hc k x hx 1 _ rfl,hc k x hx 2 _ rfl⟩
/-! ### api.TreeChange -/
structure TreeChange where
 path:ByteArray
 kind:Int
deriving DecidableEq
instance:Inhabited TreeChange:=⟨⟨ByteArray.empty,0⟩⟩
def RTreeChange:Rd TreeChange :=
 ⟨2,fun x=>[.string x.path,.int .i64 x.kind],
  fun w x=>RStr.ok w x.path∧RInt.ok w x.kind,
  fun x=>RStr.bulk x.path+RInt.bulk x.kind,fun _=>rfl,fun _ u h=>by simp only[List.mem_cons,List.not_mem_nil,or_false]at h;rcases h with rfl | rfl <;> rfl,
  fun _ _ _ hb h=>⟨RStr.mono _ _ _ hb (h.1),RInt.mono _ _ _ hb (h.2)⟩⟩
theorem cells_TreeChange {w:World} {b off m k:Nat} {l:List TreeChange} {x:TreeChange} (h:SlAt RTreeChange w (some ⟨b,off,none⟩) m l) (hx:l[k]? = some x) :
  w.cell? ⟨b,off+k*2,none⟩=some (.string x.path)∧w.cell? ⟨b,off+k*2+1,none⟩=some (.int .i64 x.kind):=by
 have hk:=(List.getElem?_eq_some_iff.1 hx).1;obtain⟨b',off',hA,hc⟩:=h.2.1 (by have:=h.1;omega);obtain⟨rfl,rfl⟩:b=b'∧off=off':=by simpa using hA
 exact⟨hc k x hx 0 _ rfl,hc k x hx 1 _ rfl⟩
/-! ### api.Var -/
structure Var where
 name:ByteArray
 value:ByteArray
deriving DecidableEq
instance:Inhabited Var:=⟨⟨ByteArray.empty,ByteArray.empty⟩⟩
def RVar:Rd Var :=
 ⟨2,fun x=>[.string x.name,.string x.value],
  fun w x=>RStr.ok w x.name∧RStr.ok w x.value,
  fun x=>RStr.bulk x.name+RStr.bulk x.value,fun _=>rfl,fun _ u h=>by simp only[List.mem_cons,List.not_mem_nil,or_false]at h;rcases h with rfl | rfl <;> rfl,
  fun _ _ _ hb h=>⟨RStr.mono _ _ _ hb (h.1),RStr.mono _ _ _ hb (h.2)⟩⟩
theorem opens_Var:Opens Tryz.prog 128 RVar:=by
 refine⟨by kernel_rfl,fun H enc w fuel cs x hx=>?_⟩;obtain⟨xs,n,_,hxe,hlen,hxl,hf⟩:=DataW.trod_struct Tryz.underlying128 hx;rw[show Tryz.prog.cellsOf 128 = 2 by kernel_rfl]at hlen
 match cs,hlen,xs,hxl with
 | [c0,c1],_,[y0,y1],_ =>
  have g0:DataW.trod enc Tryz.prog w 0 (fun _=>true) true n 9 [c0]=some y0:=by
   have this:DataW.trod enc Tryz.prog w 0 (fun _=>true) true n 9 (([c0,c1].drop 0).take (Tryz.prog.cellsOf 9))=some y0:=hf 0 _ rfl
   rwa [show ([c0,c1].drop 0).take (Tryz.prog.cellsOf 9) = [c0] by rw[show Tryz.prog.cellsOf 9 = 1 by kernel_rfl];rfl]at this
  obtain⟨a0,e0,k0,b0⟩:=opens_t_str.2 H enc w n _ _ g0;have g1:DataW.trod enc Tryz.prog w 0 (fun _=>true) true n 9 [c1]=some y1:=by
   have this:DataW.trod enc Tryz.prog w 0 (fun _=>true) true n 9 (([c0,c1].drop 1).take (Tryz.prog.cellsOf 9))=some y1:=hf 1 _ rfl
   rwa [show ([c0,c1].drop 1).take (Tryz.prog.cellsOf 9) = [c1] by rw[show Tryz.prog.cellsOf 9 = 1 by kernel_rfl];rfl]at this
  obtain⟨a1,e1,k1,b1⟩:=opens_t_str.2 H enc w n _ _ g1;refine⟨⟨a0,a1⟩,?_,⟨k0,k1⟩,?_⟩
  ·obtain rfl:c0 = .string a0:=by have:=List.cons.inj e0;exact this.1
   obtain rfl:c1 = .string a1:=by have:=List.cons.inj e1;exact this.1
   rfl
  ·subst hxe;simp only[RVar,Rows.uptoBulk,Rows.uptoBulkAll,List.map_cons,List.map_nil];omega
theorem cells_Var {w:World} {b off m k:Nat} {l:List Var} {x:Var} (h:SlAt RVar w (some ⟨b,off,none⟩) m l) (hx:l[k]? = some x) :
  w.cell? ⟨b,off+k*2,none⟩=some (.string x.name)∧w.cell? ⟨b,off+k*2+1,none⟩=some (.string x.value):=by
 have hk:=(List.getElem?_eq_some_iff.1 hx).1;obtain⟨b',off',hA,hc⟩:=h.2.1 (by have:=h.1;omega);obtain⟨rfl,rfl⟩:b=b'∧off=off':=by simpa using hA
 exact⟨hc k x hx 0 _ rfl,hc k x hx 1 _ rfl⟩
theorem opens_t_sl_Var:Opens Tryz.prog 23 (RSl RVar):=opens_slice Tryz.underlying23 (by kernel_rfl) (by decide) opens_Var
/-! ### api.File -/
structure File where
 path:ByteArray
 run:Bool
 bytes:SlD U8
instance:Inhabited File:=⟨⟨ByteArray.empty,false,⟨none,0,0,[]⟩⟩⟩
def RFile:Rd File :=
 ⟨3,fun x=>[.string x.path,.bool x.run,.slice x.bytes.A x.bytes.n x.bytes.cap],
  fun w x=>RStr.ok w x.path∧RBool.ok w x.run∧(RSl RU8).ok w x.bytes,
  fun x=>RStr.bulk x.path+RBool.bulk x.run+(RSl RU8).bulk x.bytes,fun _=>rfl,fun _ u h=>by simp only[List.mem_cons,List.not_mem_nil,or_false]at h;rcases h with rfl | rfl | rfl <;> rfl,
  fun _ _ _ hb h=>⟨RStr.mono _ _ _ hb (h.1),RBool.mono _ _ _ hb (h.2.1),(RSl RU8).mono _ _ _ hb (h.2.2)⟩⟩
theorem opens_File:Opens Tryz.prog 58 RFile:=by
 refine⟨by kernel_rfl,fun H enc w fuel cs x hx=>?_⟩;obtain⟨xs,n,_,hxe,hlen,hxl,hf⟩:=DataW.trod_struct Tryz.underlying58 hx;rw[show Tryz.prog.cellsOf 58 = 3 by kernel_rfl]at hlen
 match cs,hlen,xs,hxl with
 | [c0,c1,c2],_,[y0,y1,y2],_ =>
  have g0:DataW.trod enc Tryz.prog w 0 (fun _=>true) true n 9 [c0]=some y0:=by
   have this:DataW.trod enc Tryz.prog w 0 (fun _=>true) true n 9 (([c0,c1,c2].drop 0).take (Tryz.prog.cellsOf 9))=some y0:=hf 0 _ rfl
   rwa [show ([c0,c1,c2].drop 0).take (Tryz.prog.cellsOf 9) = [c0] by rw[show Tryz.prog.cellsOf 9 = 1 by kernel_rfl];rfl]at this
  obtain⟨a0,e0,k0,b0⟩:=opens_t_str.2 H enc w n _ _ g0;have g1:DataW.trod enc Tryz.prog w 0 (fun _=>true) true n 4 [c1]=some y1:=by
   have this:DataW.trod enc Tryz.prog w 0 (fun _=>true) true n 4 (([c0,c1,c2].drop 1).take (Tryz.prog.cellsOf 4))=some y1:=hf 1 _ rfl
   rwa [show ([c0,c1,c2].drop 1).take (Tryz.prog.cellsOf 4) = [c1] by rw[show Tryz.prog.cellsOf 4 = 1 by kernel_rfl];rfl]at this
  obtain⟨a1,e1,k1,b1⟩:=opens_t_bool.2 H enc w n _ _ g1;have g2:DataW.trod enc Tryz.prog w 0 (fun _=>true) true n 56 [c2]=some y2:=by
   have this:DataW.trod enc Tryz.prog w 0 (fun _=>true) true n 56 (([c0,c1,c2].drop 2).take (Tryz.prog.cellsOf 56))=some y2:=hf 2 _ rfl
   rwa [show ([c0,c1,c2].drop 2).take (Tryz.prog.cellsOf 56) = [c2] by rw[show Tryz.prog.cellsOf 56 = 1 by kernel_rfl];rfl]at this
  obtain⟨a2,e2,k2,b2⟩:=opens_t_sl_U8.2 H enc w n _ _ g2;refine⟨⟨a0,a1,a2⟩,?_,⟨k0,k1,k2⟩,?_⟩
  ·obtain rfl:c0 = .string a0:=by have:=List.cons.inj e0;exact this.1
   obtain rfl:c1 = .bool a1:=by have:=List.cons.inj e1;exact this.1
   obtain rfl:c2 = .slice a2.A a2.n a2.cap:=by have:=List.cons.inj e2;exact this.1
   rfl
  ·subst hxe;simp only[RFile,Rows.uptoBulk,Rows.uptoBulkAll,List.map_cons,List.map_nil];omega
theorem cells_File {w:World} {b off m k:Nat} {l:List File} {x:File} (h:SlAt RFile w (some ⟨b,off,none⟩) m l) (hx:l[k]? = some x) :
  w.cell? ⟨b,off+k*3,none⟩=some (.string x.path)∧w.cell? ⟨b,off+k*3+1,none⟩=some (.bool x.run)∧w.cell? ⟨b,off+k*3+2,none⟩=some (.slice x.bytes.A x.bytes.n x.bytes.cap):=by
 have hk:=(List.getElem?_eq_some_iff.1 hx).1;obtain⟨b',off',hA,hc⟩:=h.2.1 (by have:=h.1;omega);obtain⟨rfl,rfl⟩:b=b'∧off=off':=by simpa using hA
 exact⟨hc k x hx 0 _ rfl,hc k x hx 1 _ rfl,hc k x hx 2 _ rfl⟩
theorem opens_t_sl_File:Opens Tryz.prog 27 (RSl RFile):=opens_slice Tryz.underlying27 (by kernel_rfl) (by decide) opens_File
/-! ### api.Look -/
structure Look where
 path:ByteArray
 digest:ByteArray
 run:Bool
deriving DecidableEq
instance:Inhabited Look:=⟨⟨ByteArray.empty,ByteArray.empty,false⟩⟩
/-! ### api.Action -/
structure Action where
 tool:ByteArray
 commands:SlD Words
 vars:SlD Var
 outputs:SlD ByteArray
 needs:SlD Var
 time:Int
instance:Inhabited Action:=⟨⟨ByteArray.empty,⟨none,0,0,[]⟩,⟨none,0,0,[]⟩,⟨none,0,0,[]⟩,⟨none,0,0,[]⟩,0⟩⟩
def RAction:Rd Action :=
 ⟨6,fun x=>[.string x.tool,.slice x.commands.A x.commands.n x.commands.cap,.slice x.vars.A x.vars.n x.vars.cap,.slice x.outputs.A x.outputs.n x.outputs.cap,.slice x.needs.A x.needs.n x.needs.cap,.int .i64 x.time],
  fun w x=>RStr.ok w x.tool∧(RSl RWords).ok w x.commands∧(RSl RVar).ok w x.vars∧(RSl RStr).ok w x.outputs∧(RSl RVar).ok w x.needs∧RInt.ok w x.time,
  fun x=>RStr.bulk x.tool+(RSl RWords).bulk x.commands+(RSl RVar).bulk x.vars+(RSl RStr).bulk x.outputs+(RSl RVar).bulk x.needs+RInt.bulk x.time,fun _=>rfl,fun _ u h=>by simp only[List.mem_cons,List.not_mem_nil,or_false]at h;rcases h with rfl | rfl | rfl | rfl | rfl | rfl <;> rfl,
  fun _ _ _ hb h=>⟨RStr.mono _ _ _ hb (h.1),(RSl RWords).mono _ _ _ hb (h.2.1),(RSl RVar).mono _ _ _ hb (h.2.2.1),(RSl RStr).mono _ _ _ hb (h.2.2.2.1),(RSl RVar).mono _ _ _ hb (h.2.2.2.2.1),RInt.mono _ _ _ hb (h.2.2.2.2.2)⟩⟩
theorem opens_Action:Opens Tryz.prog 26 RAction:=by
 refine⟨by kernel_rfl,fun H enc w fuel cs x hx=>?_⟩;obtain⟨xs,n,_,hxe,hlen,hxl,hf⟩:=DataW.trod_struct Tryz.underlying26 hx;rw[show Tryz.prog.cellsOf 26 = 6 by kernel_rfl]at hlen
 match cs,hlen,xs,hxl with
 | [c0,c1,c2,c3,c4,c5],_,[y0,y1,y2,y3,y4,y5],_ =>
  have g0:DataW.trod enc Tryz.prog w 0 (fun _=>true) true n 9 [c0]=some y0:=by
   have this:DataW.trod enc Tryz.prog w 0 (fun _=>true) true n 9 (([c0,c1,c2,c3,c4,c5].drop 0).take (Tryz.prog.cellsOf 9))=some y0:=hf 0 _ rfl
   rwa [show ([c0,c1,c2,c3,c4,c5].drop 0).take (Tryz.prog.cellsOf 9) = [c0] by rw[show Tryz.prog.cellsOf 9 = 1 by kernel_rfl];rfl]at this
  obtain⟨a0,e0,k0,b0⟩:=opens_t_str.2 H enc w n _ _ g0;have g1:DataW.trod enc Tryz.prog w 0 (fun _=>true) true n 22 [c1]=some y1:=by
   have this:DataW.trod enc Tryz.prog w 0 (fun _=>true) true n 22 (([c0,c1,c2,c3,c4,c5].drop 1).take (Tryz.prog.cellsOf 22))=some y1:=hf 1 _ rfl
   rwa [show ([c0,c1,c2,c3,c4,c5].drop 1).take (Tryz.prog.cellsOf 22) = [c1] by rw[show Tryz.prog.cellsOf 22 = 1 by kernel_rfl];rfl]at this
  obtain⟨a1,e1,k1,b1⟩:=opens_t_sl_Words.2 H enc w n _ _ g1;have g2:DataW.trod enc Tryz.prog w 0 (fun _=>true) true n 23 [c2]=some y2:=by
   have this:DataW.trod enc Tryz.prog w 0 (fun _=>true) true n 23 (([c0,c1,c2,c3,c4,c5].drop 2).take (Tryz.prog.cellsOf 23))=some y2:=hf 2 _ rfl
   rwa [show ([c0,c1,c2,c3,c4,c5].drop 2).take (Tryz.prog.cellsOf 23) = [c2] by rw[show Tryz.prog.cellsOf 23 = 1 by kernel_rfl];rfl]at this
  obtain⟨a2,e2,k2,b2⟩:=opens_t_sl_Var.2 H enc w n _ _ g2;have g3:DataW.trod enc Tryz.prog w 0 (fun _=>true) true n 24 [c3]=some y3:=by
   have this:DataW.trod enc Tryz.prog w 0 (fun _=>true) true n 24 (([c0,c1,c2,c3,c4,c5].drop 3).take (Tryz.prog.cellsOf 24))=some y3:=hf 3 _ rfl
   rwa [show ([c0,c1,c2,c3,c4,c5].drop 3).take (Tryz.prog.cellsOf 24) = [c3] by rw[show Tryz.prog.cellsOf 24 = 1 by kernel_rfl];rfl]at this
  obtain⟨a3,e3,k3,b3⟩:=opens_t_sl_Str.2 H enc w n _ _ g3;have g4:DataW.trod enc Tryz.prog w 0 (fun _=>true) true n 23 [c4]=some y4:=by
   have this:DataW.trod enc Tryz.prog w 0 (fun _=>true) true n 23 (([c0,c1,c2,c3,c4,c5].drop 4).take (Tryz.prog.cellsOf 23))=some y4:=hf 4 _ rfl
   rwa [show ([c0,c1,c2,c3,c4,c5].drop 4).take (Tryz.prog.cellsOf 23) = [c4] by rw[show Tryz.prog.cellsOf 23 = 1 by kernel_rfl];rfl]at this
  obtain⟨a4,e4,k4,b4⟩:=opens_t_sl_Var.2 H enc w n _ _ g4;have g5:DataW.trod enc Tryz.prog w 0 (fun _=>true) true n 3 [c5]=some y5:=by
   have this:DataW.trod enc Tryz.prog w 0 (fun _=>true) true n 3 (([c0,c1,c2,c3,c4,c5].drop 5).take (Tryz.prog.cellsOf 3))=some y5:=hf 5 _ rfl
   rwa [show ([c0,c1,c2,c3,c4,c5].drop 5).take (Tryz.prog.cellsOf 3) = [c5] by rw[show Tryz.prog.cellsOf 3 = 1 by kernel_rfl];rfl]at this
  obtain⟨a5,e5,k5,b5⟩:=opens_t_int.2 H enc w n _ _ g5;refine⟨⟨a0,a1,a2,a3,a4,a5⟩,?_,⟨k0,k1,k2,k3,k4,k5⟩,?_⟩
  ·obtain rfl:c0 = .string a0:=by have:=List.cons.inj e0;exact this.1
   obtain rfl:c1 = .slice a1.A a1.n a1.cap:=by have:=List.cons.inj e1;exact this.1
   obtain rfl:c2 = .slice a2.A a2.n a2.cap:=by have:=List.cons.inj e2;exact this.1
   obtain rfl:c3 = .slice a3.A a3.n a3.cap:=by have:=List.cons.inj e3;exact this.1
   obtain rfl:c4 = .slice a4.A a4.n a4.cap:=by have:=List.cons.inj e4;exact this.1
   obtain rfl:c5 = .int .i64 a5:=by have:=List.cons.inj e5;exact this.1
   rfl
  ·subst hxe;simp only[RAction,Rows.uptoBulk,Rows.uptoBulkAll,List.map_cons,List.map_nil];omega
end Go.Proofs.YtdiaabeollcjaaaGreatDoor
namespace Go.Proofs.YtdiaabeollcjaaaGreatDoor
open Go.RowKit
def cmpB:List UInt8→List UInt8→Int:=Lib.compareBytes
theorem cmpB_zero:∀ a b:List UInt8,cmpB a b=0↔a=b
 | [],[]=>by simp[cmpB,Lib.compareBytes]
 | [],_::_=>by simp[cmpB,Lib.compareBytes]
 | _::_,[]=>by simp[cmpB,Lib.compareBytes]
 | x::r,y::s=>by
  have ih:=cmpB_zero r s;unfold cmpB at ih ⊢;unfold Lib.compareBytes
  by_cases h:x<y
  ·simp only[if_pos h,List.cons.injEq];exact⟨fun h=>(by cases h),fun h'=>by rw[h'.1]at h;exact absurd h (by simp)⟩
  ·by_cases h2:y<x
   ·simp only[if_neg h,if_pos h2,List.cons.injEq];exact⟨fun h=>(by cases h),fun h'=>by rw[h'.1]at h2;exact absurd h2 (by simp)⟩
   ·rw[if_neg h,if_neg h2,ih];have:x=y:=by
     have h1:y≤x:=UInt8.not_lt.1 h;have h3:x≤y:=UInt8.not_lt.1 h2;exact UInt8.le_antisymm h3 h1
    simp[this]
theorem cmpB_swap:∀ a b:List UInt8,cmpB b a = - cmpB a b
 | [],[]=>by simp[cmpB,Lib.compareBytes]
 | [],_::_=>by simp[cmpB,Lib.compareBytes]
 | _::_,[]=>by simp[cmpB,Lib.compareBytes]
 | x::r,y::s=>by
  have ih:=cmpB_swap r s;unfold cmpB at ih ⊢;unfold Lib.compareBytes
  by_cases h:x<y
  ·have h2:¬ y<x:=fun h2=>by have:=UInt8.lt_trans h h2;simp at this
   rw[if_pos h,if_neg h2,if_pos h];rfl
  ·by_cases h2:y<x
   ·rw[if_pos h2,if_neg h,if_pos h2]
   ·rw[if_neg h2,if_neg h,if_neg h,if_neg h2,ih]
theorem cmpB_range:∀ a b:List UInt8,cmpB a b = -1∨cmpB a b=0∨cmpB a b=1
 | [],[]=>by simp[cmpB,Lib.compareBytes]
 | [],_::_=>by simp[cmpB,Lib.compareBytes]
 | _::_,[]=>by simp[cmpB,Lib.compareBytes]
 | x::r,y::s=>by
  have ih:=cmpB_range r s;unfold cmpB at ih ⊢;unfold Lib.compareBytes
  split
  ·exact Or.inl rfl
  ·split
   ·exact Or.inr (Or.inr rfl)
   ·exact ih
theorem cmpB_trans:∀ a b c:List UInt8,cmpB a b = -1→cmpB b c = -1→cmpB a c = -1
 | [],[],c,h,_=>by simp[cmpB,Lib.compareBytes]at h
 | [],_::_,[],_,h=>by simp[cmpB,Lib.compareBytes]at h
 | [],_::_,_::_,_,_=>by simp[cmpB,Lib.compareBytes]
 | _::_,[],_,h,_=>by simp[cmpB,Lib.compareBytes]at h
 | _::_,_::_,[],_,h=>by simp[cmpB,Lib.compareBytes]at h
 | x::r,y::s,z::t,h1,h2=>by
  have ih:=cmpB_trans r s t;unfold cmpB at ih h1 h2 ⊢;unfold Lib.compareBytes at h1 h2 ⊢
  by_cases a:x<y
  ·by_cases b:y<z
   ·rw[if_pos (UInt8.lt_trans a b)]
   ·rw[if_neg b]at h2
    by_cases b2:z<y
    ·rw[if_pos b2]at h2;cases h2
    ·have:y=z:=UInt8.le_antisymm (UInt8.not_lt.1 b2) (UInt8.not_lt.1 b);subst this;rw[if_pos a]
  ·rw[if_neg a]at h1
   by_cases a2:y<x
   ·rw[if_pos a2]at h1;cases h1
   ·have:x=y:=UInt8.le_antisymm (UInt8.not_lt.1 a2) (UInt8.not_lt.1 a);subst this;rw[if_neg a2]at h1
    by_cases b:x<z
    ·rw[if_pos b]
    ·rw[if_neg b]at h2 ⊢
     by_cases b2:z<x
     ·rw[if_pos b2]at h2;cases h2
     ·rw[if_neg b2]at h2 ⊢;exact ih h1 h2
theorem less_cmpB:∀ a b:List UInt8,Op.bytesLess a b=decide (cmpB a b = -1)
 | [],[]=>by simp[cmpB,Lib.compareBytes,Op.bytesLess]
 | [],_::_=>by simp[cmpB,Lib.compareBytes,Op.bytesLess]
 | _::_,[]=>by simp[cmpB,Lib.compareBytes,Op.bytesLess]
 | x::r,y::s=>by
  have ih:=less_cmpB r s;unfold cmpB at ih ⊢;unfold Lib.compareBytes;rw[Op.bytesLess,ih]
  by_cases h:x<y
  ·simp[h]
  ·by_cases h2:y<x
   ·have hne:(x==y)=false:=by
     rw[beq_eq_false_iff_ne];intro e;rw[e]at h2;simp at h2
    simp[h,h2,hne]
   ·have:x=y:=UInt8.le_antisymm (UInt8.not_lt.1 h2) (UInt8.not_lt.1 h);subst this;simp
def sle (a b:ByteArray):Bool:=Op.bytesLess a.toList b.toList||a.toList==b.toList
theorem cell_new (w:World) (cs:Array Value) (t:TypeId) (j:Nat):(w.alloc (.cells cs t)).cell? ⟨w.heap.size,j,none⟩=cs[j]?:=by
 simp[go_sem]
def cmpS (a b:ByteArray):Int:=cmpB a.data.toList b.data.toList
def ltS (a b:ByteArray):Bool:=Op.bytesLess a.toList b.toList
theorem ltS_cmp (a b:ByteArray):ltS a b=decide (cmpS a b = -1):=by rw[ltS,Lib.toList_data,Lib.toList_data,less_cmpB];rfl
theorem cmpS_zero (a b:ByteArray):cmpS a b=0↔a=b:=by
 rw[cmpS,cmpB_zero]
 constructor
 ·intro h
  cases a;cases b
  simpa using h
 ·rintro rfl;rfl
theorem cmpS_swap (a b:ByteArray):cmpS b a = - cmpS a b:=cmpB_swap _ _
theorem cmpS_range (a b:ByteArray):cmpS a b = -1∨cmpS a b=0∨cmpS a b=1:=cmpB_range _ _
theorem cmpS_trans {a b c:ByteArray}:cmpS a b = -1→cmpS b c = -1→cmpS a c = -1:=cmpB_trans _ _ _
theorem sle_cmp (a b:ByteArray):sle a b=decide (cmpS a b≤0):=by
 have h1:(a.toList==b.toList)=decide (cmpS a b=0):=by
  rw[Bool.eq_iff_iff,beq_iff_eq,decide_eq_true_iff,Lib.toList_data,Lib.toList_data,cmpS,cmpB_zero]
 have h2:=ltS_cmp a b;unfold ltS at h2;rw[sle,h1,h2]
 rcases cmpS_range a b with h | h | h <;> rw[h] <;> decide
theorem beq_data (a b:ByteArray):(a.toList==b.toList)=decide (a=b):=by
 rw[Bool.eq_iff_iff,beq_iff_eq,decide_eq_true_iff,Lib.toList_data,Lib.toList_data]
 constructor
 ·intro h
  cases a;cases b
  simpa using h
 ·rintro rfl;rfl
def fnvM:Nat:=18446744073709551616
def fnvStep (h:Nat) (c:UInt8):Nat:=(h ^^^ c.toNat)*1099511628211 % fnvM
def fnv0:Nat:=14695981039346656037
def fnv (l:List UInt8):Nat:=l.foldl fnvStep fnv0
theorem fnvStep_lt (h:Nat) (c:UInt8):fnvStep h c<fnvM:=Nat.mod_lt _ (by decide)
theorem fnv_lt (l:List UInt8):fnv l<fnvM:=by
 unfold fnv;have:∀ (l:List UInt8) (h:Nat),h<fnvM→l.foldl fnvStep h<fnvM:=by
  intro l
  induction l with
  | nil=>intro h hh;exact hh
  | cons c r ih=>intro h _;exact ih _ (fnvStep_lt h c)
 exact this l _ (by unfold fnv0 fnvM;omega)
theorem fnv_take {l:List UInt8} {k:Nat} {c:UInt8} (h:l[k]? = some c):fnv (l.take (k+1))=fnvStep (fnv (l.take k)) c:=by
 unfold fnv;rw[List.take_add_one,h,Option.toList,List.foldl_append,List.foldl_cons,List.foldl_nil]
def hexd:List UInt8:=[48,49,50,51,52,53,54,55,56,57,97,98,99,100,101,102]
def hexN (k:Nat):UInt8:=hexd.getD k 0
def digN (h j:Nat):UInt8:=hexN (h / 16 ^ (15-j) % 16)
def hex16 (h:Nat):List UInt8:=(List.range 16).map (digN h)
def digF (l:List UInt8):ByteArray:=⟨(hex16 (fnv l)).toArray⟩
theorem hex16_len (h:Nat):(hex16 h).length=16:=by simp[hex16]
theorem digF_size (l:List UInt8):(digF l).size=16:=by
 show (hex16 (fnv l)).toArray.size=16;rw[List.size_toArray,hex16_len]
theorem fnv_xor (h:Nat) (c:UInt8) (hh:h<fnvM):bits .xor .u64 (h:Int) (c.toNat:Int)=((h ^^^ c.toNat:Nat):Int) :=
 bits_xor_u64_nat _ _ hh (by have:=c.toNat_lt;omega)
theorem fnv_mul (h:Nat) (c:UInt8):IntKind.u64.wrap (((h ^^^ c.toNat:Nat):Int)*1099511628211)=(fnvStep h c:Int):=by
 rw[IntKind.wrap_u64];unfold fnvStep fnvM;omega
theorem and15 (h:Nat) (hh:h<fnvM):bits .and .u64 (h:Int) 15=((h % 16:Nat):Int):=by
 have:=bits_and_u64_nat h 15 hh (by decide);rw[show h &&& 15=h % 16 from Nat.and_two_pow_sub_one_eq_mod h 4]at this;exact this
end Go.Proofs.YtdiaabeollcjaaaGreatDoor
namespace Go.Proofs.YtdiaabeollcjaaaGreatDoor
theorem dropWhile_nil_iff {α:Type} (p:α→Bool):∀ l:List α,(l.dropWhile p = [])↔l.all p=true
 | []=>by simp
 | x::r=>by
  have ih:=dropWhile_nil_iff p r
  cases hx:p x
  ·simp[hx]
  ·simp[hx,ih]
theorem dropWhile_head {α:Type} (p:α→Bool):∀ (l:List α) (x:α) (r:List α),l.dropWhile p=x::r→p x=false
 | [],x,r,h=>by cases h
 | y::l,x,r,h=>by
  rw[List.dropWhile_cons]at h
  split at h
  ·exact dropWhile_head p l x r h
  ·rename_i hy
   simp only[List.cons.injEq]at h;rw[← h.1]
   simpa using hy
theorem trimS_nil (l cs:List UInt8):(Lib.trimS l cs = [])↔l.all (cs.contains ·)=true:=by
 unfold Lib.trimS Lib.trimLeftS Lib.trimRightS;rw[dropWhile_nil_iff]
 constructor
 ·intro h;rw[List.all_reverse]at h;have:l.reverse.dropWhile (cs.contains ·) = []:=by
   cases hd:l.reverse.dropWhile (cs.contains ·) with
   | nil=>rfl
   | cons x r =>
    have hx:=dropWhile_head _ _ _ _ hd;rw[hd]at h;simp only[List.all_cons,Bool.and_eq_true]at h;rw[h.1]at hx
    cases hx
  rw[dropWhile_nil_iff,List.all_reverse]at this;exact this
 ·intro h;rw[← List.all_reverse,← dropWhile_nil_iff]at h;rw[h];rfl
theorem byte_all {p:UInt8→Bool} (h:(List.range 256).all (fun n=>p (UInt8.ofNat n))=true) (b:UInt8):p b=true:=by
 have hb:b.toNat<256:=b.toNat_lt;have:=List.all_eq_true.1 h b.toNat (List.mem_range.2 hb)
 rwa [UInt8.ofNat_toNat]at this
end Go.Proofs.YtdiaabeollcjaaaGreatDoor
namespace Go.Proofs.YtdiaabeollcjaaaGreatDoor
open Go.RowKit
def MaxLenAt (w:World):Prop:=∃ m:Int,w.cell? ⟨2,0,none⟩=some (.int .i64 m)
theorem MaxLenAt.below {w w':World} (h:MaxLenAt w) (hb:Below w.heap.size w w'):MaxLenAt w':=by
 obtain⟨m,hm⟩:=h;exact⟨m,(hb.cell (cell?_lt hm)).trans hm⟩
theorem splitB_size (sep:ByteArray):∀ (k:Nat) (s x:ByteArray),x∈Lib.splitB sep 0 k s→x.size≤s.size
 | 0,s,x,h=>by
  rw[Lib.splitB_zero]at h;simp only[List.mem_singleton]at h;subst h;exact Nat.le_refl _
 | k+1,s,x,h=>by
  unfold Lib.splitB at h
  split at h
  ·simp only[List.mem_singleton]at h;subst h;exact Nat.le_refl _
  ·rcases List.mem_cons.1 h with rfl | h
   ·simp only[ByteArray.size_extract];omega
   ·have:=splitB_size sep k _ x h;simp only[ByteArray.size_extract]at this;omega
theorem cell_Str {w:World} {b off m k:Nat} {l:List ByteArray} {x:ByteArray} (h:SlAt RStr w (some ⟨b,off,none⟩) m l) (hx:l[k]? = some x):w.cell? ⟨b,off+k,none⟩=some (.string x):=by
 have hk:=(List.getElem?_eq_some_iff.1 hx).1;obtain⟨b',off',hA,hc⟩:=h.2.1 (by have:=h.1;omega);obtain⟨rfl,rfl⟩:b=b'∧off=off':=by simpa using hA
 have:=hc k x hx 0 _ rfl
 simpa[RStr]using this
end Go.Proofs.YtdiaabeollcjaaaGreatDoor