/-
 Several texts of mine as one, without what is not wanted here: XTelRow.
-/
import Derived.Test.YtdiaabeollcjaaaGreatDoorTlVC10
import Derived.Test.YtdiaabeollcjaaaGreatDoorTie
import Derived.OpenShut
import Derived.ShutString
import Derived.ChangeOld
import Derived.Deep.DeepHandedRow
import Derived.Lib.LaidU8
import Derived.JoinedCond
import Derived.Deep.CondSized
set_option linter.unusedVariables false
set_option linter.unusedSimpArgs false
set_option maxRecDepth 100000
set_option maxHeartbeats 8000000
namespace Go.Proofs.YtdiaabeollcjaaaGreatDoor.topReadsTellAffected
open Go.Proofs.YtdiaabeollcjaaaGreatDoor.C10
open Go.ChangeShapes Go.WideShapes Go.ChangeAt Go.RowKit
open Go.ChangeMaps (open_string shut_string)
theorem pow_row {W : World} (h : laidMetH Tryz.prog Rows.topReadsTellAffectedRow.laid W) : PowJ W := powJ_one (laidMetH.filter (fun x => x.1 == "internal/strconv.uint64pow10") h)
theorem own:ownKnob Tryz.prog.godebug=none:=by kernel_rfl
theorem laidOut:laidOutB Tryz.prog=true:=by kernel_rfl
theorem contract (H:Type) (enc:TypeId × Value→H) (W:World) (base:Nat) (args:Array Value) (ds gs:List (DataW H)) (before:List MemPlace)
  (hval0:∀ (j:Nat) t v,Tryz.f3.params[j]? = some t→args[j]? = some v→Value.okWide Tryz.prog W .any base t v)
  (hW:DataW.Whole enc Tryz.prog Tryz.f3.params.toList Rows.topReadsTellAffectedSpec.vars false W args.toList ds gs before) (hmx:MaxLenAt W) (hpw:PowJ W) :
  Calls Tryz.prog 3 args W fun e W'=>∃ v,e = .returned v∧Rows.topReadsTellAffectedSpec.post enc Tryz.prog Tryz.f3 false true false false W args v W':=by
 have hval:=hval0;have hW':=hW;obtain⟨p,q,hA0,hV,rfl,hfz,hnd⟩:=hW;have hA:DataW.TrodAll enc Tryz.prog W 0 (fun _=>true) true Tryz.f3.params.toList args.toList ds p:=hA0;rw[Tryz.params3]at hA hval;obtain⟨v0,vs0,d0,ds0,p0,q0,hargs,rfl,rfl,h0,r0⟩:=trodAll_cons hA;obtain⟨v1,vs1,d1,ds1,p1,q1,rfl,rfl,rfl,h1,r1⟩:=trodAll_cons r0;obtain⟨v2,vs2,d2,ds2,p2,q2,rfl,rfl,rfl,h2,r2⟩:=trodAll_cons r1;obtain⟨rfl,rfl,rfl⟩:=trodAll_nil r2;obtain rfl:args = #[v0,v1,v2]:=by cases args;simp_all
 obtain⟨rfl,rfl⟩:=trodVars_none hV;have m0:=h0;have lt0:∀ x∈p0,x.block<W.heap.size:=by obtain⟨m,hm⟩:=m0;exact DataW.trod_lt m _ _ _ hm
 obtain⟨a0,rfl,k0,b0⟩:=param_struct Tryz.underlying26 opens_Action (hval 0 26 v0 rfl rfl) h0;have m1:=h1;have lt1:∀ x∈p1,x.block<W.heap.size:=by obtain⟨m,hm⟩:=m1;exact DataW.trod_lt m _ _ _ hm
 obtain⟨a1,rfl,k1,b1⟩:=param_slice Tryz.underlying27 opens_t_sl_File (hval 1 27 v1 rfl rfl) h1;have m2:=h2;have lt2:∀ x∈p2,x.block<W.heap.size:=by obtain⟨m,hm⟩:=m2;exact DataW.trod_lt m _ _ _ hm
 obtain⟨a2,rfl,k2,b2⟩:=param_slice Tryz.underlying27 opens_t_sl_File (hval 2 27 v2 rfl rfl) h2;clear hA0 hval0;refine(law_tell_w a0 a1 a2 W k0 k1 k2 hmx hpw).mono fun e W' ⟨he,bel⟩=>?_;subst he;exact⟨_,rfl,_,_,_,[],_,[],hW',trodAll_mk1 (shut_bool Tryz.underlying4 _),(trodAll_cons_mk (Below.trod laidOut (by kernel_rfl) (of_decide_eq_true (by kernel_rfl)) m0 bel lt0) (trodAll_cons_mk (Below.trod laidOut (by kernel_rfl) (of_decide_eq_true (by kernel_rfl)) m1 bel lt1) (trodAll_cons_mk (Below.trod laidOut (by kernel_rfl) (of_decide_eq_true (by kernel_rfl)) m2 bel lt2) trodAll_mk0))),rfl,bel.frame _,fun h=>by cases h⟩
def litsOf:DataW Unit→List Value
 | .agg l=>l.map fun
  | .lit (.int k n)=>.int k n
  | _=>undef
 | _=>[]
noncomputable def low:Nat:=(World.holding Tryz.prog default ⟨#[],#[],[]⟩).heap.size
noncomputable def laidWorld (os:Os):World :=
 let put (h:Array Obj) (g:Nat) (cs:Array Value):Array Obj:=h.modify g fun
  | .cells _ t frozen=>.cells cs t frozen
  | o=>o
 { World.holding Tryz.prog os ⟨#[.cells #[.string ⟨#[118,97,108,117,101,32,111,117,116,32,111,102,32,114,97,110,103,101]⟩] 220,.cells #[.string ⟨#[105,110,118,97,108,105,100,32,115,121,110,116,97,120]⟩] 220],#[],[]⟩ with heap:=put (put (put (put (put (put (put (World.holding Tryz.prog os ⟨#[.cells #[.string ⟨#[118,97,108,117,101,32,111,117,116,32,111,102,32,114,97,110,103,101]⟩] 220,.cells #[.string ⟨#[105,110,118,97,108,105,100,32,115,121,110,116,97,120]⟩] 220],#[],[]⟩).heap 6 ((litsOf Rows.laid_math_bits_deBruijn32tab).toArray)) 7 ((litsOf Rows.laid_math_bits_deBruijn64tab).toArray)) 5 ((litsOf Rows.laid_internal_strconv_uint64pow10).toArray)) 4 (((List.range 16).flatMap fun i=>[Value.int .u8 (Lib.accLo i),Value.int .u8 (Lib.accHi i)]).toArray)) 1 (#[.iface 218 (.pointer (some ⟨low+0,0,none⟩))])) 0 (#[.iface 218 (.pointer (some ⟨low+1,0,none⟩))])) 3 ((Lib.firstTab.map fun z=>Value.int .u8 z).toArray) }
theorem laid_met (os:Os):laidMet Tryz.prog Rows.topReadsTellAffectedRow.laid ((laidWorld os).forCall (fun _ _=>0) ⟨#[],#[.agg #[.string ByteArray.empty,.slice none 0 0,.slice none 0 0,.slice none 0 0,.slice none 0 0,.int .i64 0],.slice none 0 0,.slice none 0 0],[]⟩).memory :=
 laidMet_of_run' 8 (by kernel_rfl) (by kernel_rfl)
theorem reads (os:Os) {H:Type} (enc:TypeId × Value→H):∃ places,DataW.whole enc Tryz.prog ((laidWorld os).forCall (fun _ _=>0) ⟨#[],#[.agg #[.string ByteArray.empty,.slice none 0 0,.slice none 0 0,.slice none 0 0,.slice none 0 0,.int .i64 0],.slice none 0 0,.slice none 0 0],[]⟩).memory Tryz.f3.params.toList Rows.topReadsTellAffectedSpec.vars false (#[.agg #[.string ByteArray.empty,.slice none 0 0,.slice none 0 0,.slice none 0 0,.slice none 0 0,.int .i64 0],.slice none 0 0,.slice none 0 0]:Array Value).toList 8=some ([.agg [.lit (.string []),.nil,.nil,.nil,.nil,.lit (.int .i64 0)],.nil,.nil],[],places) :=
 ⟨[],by kernel_rfl⟩
theorem lifted (os:Os) (started:os.Started) (H:Type) (enc:TypeId × Value→H) (F:Stop.Interp) :
  ReturnsInHanded {} Tryz.checked os 3 .any ((OpenSpec.ofChange Rows.topReadsTellAffectedSpec).preRow enc Tryz.prog Tryz.f3 Rows.topReadsTellAffectedRow.domain false Rows.topReadsTellAffectedRow.laid) (((OpenSpec.ofChange Rows.topReadsTellAffectedSpec).at F).post enc Tryz.prog Tryz.f3 false true false false):=by
 obtain⟨places,hx⟩:=reads os enc;refine returnsInHanded_of_row (C:=Tryz.checked) (s:=(OpenSpec.ofChange Rows.topReadsTellAffectedSpec)) own started (by kernel_rfl) Tryz.func3
  (witness_row_at (enc:=enc) (C:=Tryz.checked) false (laidWorld os) #[.agg #[.string ByteArray.empty,.slice none 0 0,.slice none 0 0,.slice none 0 0,.slice none 0 0,.int .i64 0],.slice none 0 0,.slice none 0 0] rfl (by kernel_rfl) (by kernel_rfl) (by kernel_rfl)
   (OpenSpec.preRow_of_cond 8 hx (by kernel_rfl) (fun k hk=>by cases hk) (by kernel_rfl) (laid_met os))) ?_
 intro W base args ds gs before hval hW _ hcond hsz hlaid hsh _;exact contract H enc W base args ds gs before hval hW (Tryz.laysM146.s1_3 W hsh) (pow_row hlaid)
theorem said:Rows.TopReadsTellAffectedSaid :=
 OpenClaim.holds_of_cond 3 Tryz.f3 rfl rfl rfl rfl rfl rfl rfl ⟨rfl,rfl,rfl,rfl,rfl⟩ rfl rfl rfl rfl rfl (by kernel_rfl) Tryz.func3 (by kernel_rfl)
  (of_decide_eq_true (by kernel_rfl)) (by unfold Func.isWrapper;first | (rw[if_pos (by decide +kernel)];kernel_rfl) | (rw[if_neg (by decide +kernel)];exact⟨rfl,rfl⟩))
  (fun os started H enc _ F=>by rw[OpenClaim.pre_eq_preRow];exact lifted os started H enc F)
theorem plain (f : FuncId) (fn : Func) (hf : Tryz.pinned.checked.prog.funcNamed "smithyard/smithyardtop.TopReadsTellAffected" = some f) (hfn : Tryz.pinned.checked.prog.funcs[f]? = some fn) :
  true = Tryz.pinned.checked.prog.looks []∧∀ (j:Nat) t,fn.params[j]? = some t→Tryz.pinned.checked.prog.wantsStandIn t=false:=by
 obtain rfl : f = 3 := Option.some.inj ((show Tryz.prog.funcNamed "smithyard/smithyardtop.TopReadsTellAffected" = some 3 by kernel_rfl).symm.trans hf) |>.symm;obtain rfl:fn = Tryz.f3:=(Option.some.inj (Tryz.func3.symm.trans hfn)).symm;refine⟨by kernel_rfl,fun j t ht=>?_⟩;rw[Tryz.params3]at ht;have hm:t = 26∨t = 27∨t = 27:=by have:=Array.mem_of_getElem? ht;simpa using this
 rcases hm with rfl | rfl | rfl
 ·exact(show Tryz.prog.wantsStandIn 26 = false by kernel_rfl)
 ·exact(show Tryz.prog.wantsStandIn 27 = false by kernel_rfl)
 ·exact(show Tryz.prog.wantsStandIn 27 = false by kernel_rfl)
theorem card:Rows.TopReadsTellAffectedCardSaid :=
 Claim7.holds_tied_plain_at .later [] _ _ _ _ said (fun _ h=>by cases h) (by kernel_rfl) (fun _ h=>by cases h) topReadsTellAffected_row_tie rfl ⟨rfl,rfl⟩ (by kernel_rfl) rfl plain (by kernel_rfl)
end Go.Proofs.YtdiaabeollcjaaaGreatDoor.topReadsTellAffected