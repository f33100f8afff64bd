/-
 Several texts of mine as one, without what is not wanted here: XLawPly, XPlyRow.
-/
import Derived.Test.YtbnkoefljcekbaaGreatDoorPyZcC9
import Derived.Test.YtbnkoefljcekbaaGreatDoorCards
import Derived.Test.YtbnkoefljcekbaaGreatDoorTie
import Derived.OpenShut
import Derived.ShutString
import Derived.ChangeOld
import Derived.Deep.DeepHandedRow
import Derived.Lib.LaidTab
import Derived.Lib.LaidU8
import Derived.JoinedCond
import Derived.Deep.CondSized
set_option linter.unusedVariables false
set_option linter.unusedSimpArgs false
set_option maxRecDepth 100000
set_option maxHeartbeats 8000000
namespace Go.Proofs.YtbnkoefljcekbaaGreatDoor.C9
open Go.ChangeShapes Go.WideShapes Go.Deep Go.RowKit Go.Maps
theorem both_play {x:Farm} {c:Int} {w1 w1':World} {e1:Ending} (h1:PlAns x c w1 e1 w1') :
  ∃ (A1:Option Addr) (n c1:Nat),e1 = .returned (.tuple #[.slice A1 n c1,.int .i64 c])∧n≤4000∧Below w1.heap.size w1 w1'∧∀ (w2 w2':World) (e2:Ending),RPlAns x c w2 e2 w2'→Below w1'.heap.size w1' w2 →
   ∃ (A2:Option Addr) (m c2:Nat) (L:List Run),e2 = .returned (.tuple #[.slice A2 m c2,.int .i64 c])∧SlAt RRun w2' A1 n L∧SlAt RRun w2' A2 m L∧Below w2.heap.size w2 w2':=by
 rcases h1 with ⟨hc,r1,b1⟩ | ⟨hc,A1,n,c1,q,L,r1,s1,t1,d1,b1⟩
 ·refine⟨none,0,0,r1,by omega,b1,fun w2 w2' e2 h2 h12=>?_⟩
  rcases h2 with ⟨_,r2,b2⟩ | ⟨h0,_⟩
  ·exact⟨none,0,0,[],r2,(Own.nil (R:=RRun) (e:=34) w2' 0).slAt,(Own.nil (R:=RRun) (e:=34) w2' 0).slAt,b2⟩
  ·exact absurd h0 hc
 ·subst hc;have hn:n≤4000:=by
   have h1:=d1.len;have h2:=s1.1;rw[List.length_map]at h2;omega
  refine⟨A1,n,c1,r1,hn,b1,fun w2 w2' e2 h2 h12=>?_⟩
  rcases h2 with ⟨h0,_⟩ | ⟨_,A2,m,c2,q',O,r2,s2,t2,i2,b2⟩
  ·exact absurd rfl h0
  ·obtain rfl:=t1.uniq t2;have e:=same_play d1 i2;rw[e]at s2;exact⟨A2,m,c2,L.map (toRun x),r2,s1.below (h12.trans (b2.mono h12.size)),s2,b2⟩
theorem keep5p {W5 W W':World} {a0 a1 a2 a3 a4:Addr} {v0 v1 v2 v3 v4:Value} (hb:Below W.heap.size W W') (h:Below W5.heap.size W5 W∧W.cell? a0=some v0∧W.cell? a1=some v1∧W.cell? a2=some v2∧W.cell? a3=some v3∧W.cell? a4=some v4) :
  Below W5.heap.size W5 W'∧W'.cell? a0=some v0∧W'.cell? a1=some v1∧W'.cell? a2=some v2∧W'.cell? a3=some v3∧W'.cell? a4=some v4:=by
 obtain⟨h,h0,h1,h2,h3,h4⟩:=h;exact⟨h.trans (hb.mono h.size),keepC hb h0,keepC hb h1,keepC hb h2,keepC hb h3,keepC hb h4⟩
theorem law_plays (x:Farm) (w:World) (hx:RFarm.ok w x) :
  Calls Tryz.prog 3 #[.agg (RFarm.vals x).toArray] w fun e w'=>e = .returned (.bool true)∧Below w.heap.size w w':=by
 simp only[RFarm];obtain⟨W1,hW1⟩:∃ Y,w.alloc (.cells #[.slice x.workers.A x.workers.n x.workers.cap,.slice x.works.A x.works.n x.works.cap,.slice x.lost.A x.lost.n x.lost.cap,.int .i64 x.tries,.bool x.doubles] 26)=Y:=⟨_,rfl⟩;obtain⟨xb,hxb⟩:∃ b,w.heap.size=b:=⟨_,rfl⟩;have hba:Below w.heap.size w W1:=by rw[← hW1];exact(Below.refl _ _).alloc (Nat.le_refl _) _
 have hx1:=RFarm.mono _ _ _ hba hx;have c0:W1.cell? ⟨xb,0,none⟩=some (.slice x.workers.A x.workers.n x.workers.cap):=by rw[← hW1,← hxb];exact cell_new _ _ _ 0
 have c1:W1.cell? ⟨xb,1,none⟩=some (.slice x.works.A x.works.n x.works.cap):=by rw[← hW1,← hxb];exact cell_new _ _ _ 1
 have c2:W1.cell? ⟨xb,2,none⟩=some (.slice x.lost.A x.lost.n x.lost.cap):=by rw[← hW1,← hxb];exact cell_new _ _ _ 2
 have c3:W1.cell? ⟨xb,3,none⟩=some (.int .i64 x.tries):=by rw[← hW1,← hxb];exact cell_new _ _ _ 3
 have c4:W1.cell? ⟨xb,4,none⟩=some (.bool x.doubles):=by rw[← hW1,← hxb];exact cell_new _ _ _ 4
 obtain⟨c,hF⟩:∃ c,farmF x=c:=⟨_,rfl⟩;obtain⟨Z,hZ⟩:∃ Z,(fun (e:Ending) (w':World)=>e = .returned (.bool true)∧Below w.heap.size w w')=Z:=⟨_,rfl⟩;rw[hZ];have RZ:∀ W,Below w.heap.size w W→Z (.returned (.bool true)) W:=fun W h=>by rw[← hZ];exact⟨rfl,h⟩
 obtain⟨hZH,RZH,hxH,hx1H,hW1H,hxbH,hbaH,hFH⟩:=hq2 hZ (hq2 RZ (hq2 hx (hqb hx1 hW1 hxb hba (Lib.hid hF))));clear hZ RZ hx hx1 hW1 hxb hba hF;go_enter Tryz.func3,Tryz.ntmps3;go_wp2_with fail;rw[hW1H.out,hxbH.out];refine(Play_any x _ hx1H.out c hFH.out).mono ?_;rintro e w1 hP;obtain⟨A1,n1,cap1,rfl,hn1,hb1,hP2⟩:=both_play hP;clear hP;have c0:=keepC hb1 c0;have c1:=keepC hb1 c1;have c2:=keepC hb1 c2;have c3:=keepC hb1 c3;have c4:=keepC hb1 c4;have hx2:=RFarm.mono _ _ _ hb1 hx1H.out;have hbb:=hbaH.out.trans (hb1.mono hbaH.out.size);obtain⟨hb1H,hx2H,hbbH,hP2H⟩:=hq2 hb1 (hq2 hx2 (hq2 hbb (Lib.hid hP2)));clear hb1 hx2 hbb hP2;go_wp2_with fail;refine(rPlay_any x _ hx2H.out c hFH.out).mono ?_;rintro e w2 hP;obtain⟨A2,n2,cap2,L,rfl,hs1,hs2,hb2⟩:=hP2H.out _ _ _ hP (Below.refl _ _);clear hP hP2H;have c0:=keepC hb2 c0;have c1:=keepC hb2 c1;have c2:=keepC hb2 c2;have c3:=keepC hb2 c3;have c4:=keepC hb2 c4;have hx3:=RFarm.mono _ _ _ hb2 hx2H.out;have hbb2:=hbbH.out.trans (hb2.mono hbbH.out.size);have hS0:Below w2.heap.size w2 w2∧w2.cell? ⟨xb,0,none⟩=some (.slice x.workers.A x.workers.n x.workers.cap)∧w2.cell? ⟨xb,1,none⟩=some (.slice x.works.A x.works.n x.works.cap)∧w2.cell? ⟨xb,2,none⟩=some (.slice x.lost.A x.lost.n x.lost.cap)∧w2.cell? ⟨xb,3,none⟩=some (.int .i64 x.tries)∧w2.cell? ⟨xb,4,none⟩=some (.bool x.doubles):=⟨Below.refl _ _,c0,c1,c2,c3,c4⟩;have hne:(c==c)=true:=beq_self_eq_true c;clear c0 c1 c2 c3 c4
 obtain⟨hb2H,hx3H,hbb2H,hs1H,hs2H,hS0H⟩:=hq2 hb2 (hqb hx3 hbb2 hs1 hs2 (Lib.hid hS0));clear hb2 hx3 hbb2 hs1 hs2 hS0;go_wp2_with fail;refine wp_region_held_drew (S:=fun V:World=>Below w2.heap.size w2 V∧V.cell? ⟨xb,0,none⟩=some (.slice x.workers.A x.workers.n x.workers.cap)∧V.cell? ⟨xb,1,none⟩=some (.slice x.works.A x.works.n x.works.cap)∧V.cell? ⟨xb,2,none⟩=some (.slice x.lost.A x.lost.n x.lost.cap)∧V.cell? ⟨xb,3,none⟩=some (.int .i64 x.tries)∧V.cell? ⟨xb,4,none⟩=some (.bool x.doubles)) (by kernel_rfl) (keep5p (Below.refl _ _).drew hS0H.out) (fun hHeld=>?_);refine tkS [(0,17)] ?_;(iterate 1 (refine tkL ?_ ?_ ?_;rotate_left;(· intro w hSw;(try dsimp only at hSw);go_simp;(try with_reducible rfl));(try simp only[Act.put,tkA,tkB,tkC])));refine tkE ?_;refine tkS [(2,19)] ?_;(iterate 1 (refine tkL ?_ ?_ ?_;rotate_left;(· intro w hSw;(try dsimp only at hSw);go_simp;(try with_reducible rfl));(try simp only[Act.put,tkA,tkB,tkC])));refine tkE ?_;refine wpAnyH_ready (rs:=[1]) (by kernel_rfl) (by simp) ?_;refine AllReadyH.cons (i:=1) rfl (fun K hK=>?_) AllReadyH.nil;go_simp;go_at_call 12;refine(farm_any x _ (RFarm.mono _ _ _ hHeld.1 hx3H.out) c hFH.out).mono ?_;rintro e w4 ⟨rfl,hb4⟩;have hHeld:=keep5p hb4 hHeld;clear hb4;refine hK.out _ _ hHeld (fun hHeld=>?_);clear hK K
 (try simp only[Act.put,tkA,tkB,tkC])
 refine wpAnyH_ready (rs:=[3]) (by kernel_rfl) (by simp) ?_;refine AllReadyH.cons (i:=3) rfl (fun K hK=>?_) AllReadyH.nil;go_simp;go_at_call 13;refine(rfarm_any x _ (RFarm.mono _ _ _ hHeld.1 hx3H.out) c hFH.out).mono ?_;rintro e w5 ⟨rfl,hb5⟩;have hHeld:=keep5p hb5 hHeld;clear hb5;refine hK.out _ _ hHeld (fun hHeld=>?_);clear hK K
 (try simp only[Act.put,tkA,tkB,tkC])
 refine tkS [(4,21),(5,22),(6,23),(7,24),(8,25),(9,26),(10,27),(11,28),(12,29)] ?_;(iterate 9 (refine tkL ?_ ?_ ?_;rotate_left;(· intro w hSw;(try dsimp only at hSw);go_simp;(try with_reducible rfl));(try simp only[Act.put,tkA,tkB,tkC])));refine tkE ?_;refine wpAnyH_ready (rs:=[13]) (by kernel_rfl) (by simp) ?_;refine AllReadyH.cons (i:=13) rfl (fun K hK=>?_) AllReadyH.nil;go_simp;go_at_call 14;refine(equal_runs A1 A2 n1 cap1 n2 cap2 L _ (hs1H.out.below hHeld.1) (hs2H.out.below hHeld.1) (by omega)).mono ?_;rintro e w6 ⟨rfl,hb6⟩;have hHeld:=keep5p hb6 hHeld;clear hb6;refine hK.out _ _ hHeld (fun hHeld=>?_);clear hK K
 (try simp only[Act.put,tkA,tkB,tkC])
 refine tkS [(14,31),(15,32)] ?_;(iterate 2 (refine tkL ?_ ?_ ?_;rotate_left;(· intro w hSw;(try dsimp only at hSw);go_simp;(try with_reducible rfl));(try simp only[Act.put,tkA,tkB,tkC])));refine tkE ?_;refine wpAnyH_ready (rs:=[16]) (by kernel_rfl) (by simp) ?_;refine AllReadyH.cons (i:=16) rfl (fun K hK=>?_) AllReadyH.nil;go_simp;go_at_call 15;refine(awake_any _).mono ?_;rintro e w7 ⟨rfl,hb7⟩;have hHeld:=keep5p hb7 hHeld;clear hb7;refine hK.out _ _ hHeld (fun hHeld=>?_);clear hK K
 (try simp only[Act.put,tkA,tkB,tkC])
 refine tkS [(17,34)] ?_;(iterate 1 (refine tkL ?_ ?_ ?_;rotate_left;(· intro w hSw;(try dsimp only at hSw);go_simp;(try with_reducible rfl));(try simp only[Act.put,tkA,tkB,tkC])));refine tkE ?_;refine tkS [(18,2)] ?_;(iterate 1 (refine tkL ?_ ?_ ?_;rotate_left;(· intro w hSw;(try dsimp only at hSw);go_simp;(try with_reducible rfl));(try simp only[Act.put,tkA,tkB,tkC])));refine tkE ?_;refine wpAnyH_done (by kernel_rfl) ?_ _;have hS7:=hHeld.1;have R:=RZH.out _ (hbb2H.out.trans (hS7.mono hbb2H.out.size));clear hHeld;have RH:=Lib.hid R;clear R;go_wp2;exact RH.out
end Go.Proofs.YtbnkoefljcekbaaGreatDoor.C9
namespace Go.Proofs.YtbnkoefljcekbaaGreatDoor.workersPlaysMatchSpec
open Go.Proofs.YtbnkoefljcekbaaGreatDoor.C9
open Go.ChangeShapes Go.WideShapes Go.ChangeAt Go.RowKit
open Go.ChangeMaps (open_string shut_string)
theorem own:ownKnob Tryz.prog.godebug=none:=by kernel_rfl
theorem laidOut:laidOutB Tryz.prog=true:=by kernel_rfl
theorem contract (H:Type) (enc:TypeId × Value→H) (W:World) (base:Nat) (args:Array Value) (ds gs:List (DataW H)) (before:List MemPlace)
  (hval0:∀ (j:Nat) t v,Tryz.f3.params[j]? = some t→args[j]? = some v→Value.okWide Tryz.prog W .any base t v)
  (hW:DataW.Whole enc Tryz.prog Tryz.f3.params.toList Rows.workersPlaysMatchSpecSpec.vars false W args.toList ds gs before) :
  Calls Tryz.prog 3 args W fun e W'=>∃ v,e = .returned v∧Rows.workersPlaysMatchSpecSpec.post enc Tryz.prog Tryz.f3 false true false false W args v W':=by
 have hval:=hval0;have hW':=hW;obtain⟨p,q,hA0,hV,rfl,hfz,hnd⟩:=hW;have hA:DataW.TrodAll enc Tryz.prog W 0 (fun _=>true) true Tryz.f3.params.toList args.toList ds p:=hA0;rw[Tryz.params3]at hA hval;obtain⟨v0,vs0,d0,ds0,p0,q0,hargs,rfl,rfl,h0,r0⟩:=trodAll_cons hA;obtain⟨rfl,rfl,rfl⟩:=trodAll_nil r0;obtain rfl:args = #[v0]:=by cases args;simp_all
 obtain⟨rfl,rfl⟩:=trodVars_none hV;have m0:=h0;have lt0:∀ x∈p0,x.block<W.heap.size:=by obtain⟨m,hm⟩:=m0;exact DataW.trod_lt m _ _ _ hm
 obtain⟨a0,rfl,k0,b0⟩:=param_struct Tryz.underlying26 opens_Farm (hval 0 26 v0 rfl rfl) h0;clear hA0 hval0;refine(law_plays a0 W k0).mono fun e W' ⟨he,bel⟩=>?_;subst he;exact⟨_,rfl,_,_,_,[],_,[],hW',trodAll_mk1 (shut_bool Tryz.underlying4 _),(trodAll_cons_mk (Below.trod laidOut (by kernel_rfl) (of_decide_eq_true (by kernel_rfl)) m0 bel lt0) trodAll_mk0),rfl,bel.frame _,fun h=>by cases h⟩
noncomputable def laidWorld (os:Os):World :=
 let put (h:Array Obj) (g:Nat) (cs:Array Value):Array Obj:=h.modify g fun
  | .cells _ t frozen=>.cells cs t frozen
  | o=>o
 { World.holding Tryz.prog os ⟨#[],#[],[]⟩ with heap:=put (put (World.holding Tryz.prog os ⟨#[],#[],[]⟩).heap 1 (Lib.firstTab.map fun z=>Value.int .u8 z).toArray) 2 ((List.range 16).flatMap fun i=>[Value.int .u8 (Lib.accLo i),Value.int .u8 (Lib.accHi i)]).toArray }
theorem laid_met (os:Os):laidMet Tryz.prog Rows.workersPlaysMatchSpecRow.laid ((laidWorld os).forCall (fun _ _=>0) ⟨#[],#[.agg #[.slice none 0 0,.slice none 0 0,.slice none 0 0,.int .i64 0,.bool false]],[]⟩).memory :=
 laidMet_of_run' 8 (by kernel_rfl) (by kernel_rfl)
theorem reads (os:Os) {H:Type} (enc:TypeId × Value→H):∃ places,DataW.whole enc Tryz.prog ((laidWorld os).forCall (fun _ _=>0) ⟨#[],#[.agg #[.slice none 0 0,.slice none 0 0,.slice none 0 0,.int .i64 0,.bool false]],[]⟩).memory Tryz.f3.params.toList Rows.workersPlaysMatchSpecSpec.vars false (#[.agg #[.slice none 0 0,.slice none 0 0,.slice none 0 0,.int .i64 0,.bool false]]:Array Value).toList 8=some ([.agg [.nil,.nil,.nil,.lit (.int .i64 0),.lit (.bool false)]],[],places) :=
 ⟨[],by kernel_rfl⟩
theorem lifted (os:Os) (started:os.Started) (H:Type) (enc:TypeId × Value→H) (F:Stop.Interp) :
  ReturnsInHanded {} Tryz.checked os 3 .any ((OpenSpec.ofChange Rows.workersPlaysMatchSpecSpec).preRow enc Tryz.prog Tryz.f3 Rows.workersPlaysMatchSpecRow.domain false Rows.workersPlaysMatchSpecRow.laid) (((OpenSpec.ofChange Rows.workersPlaysMatchSpecSpec).at F).post enc Tryz.prog Tryz.f3 false true false false):=by
 obtain⟨places,hx⟩:=reads os enc;refine returnsInHanded_of_row (C:=Tryz.checked) (s:=(OpenSpec.ofChange Rows.workersPlaysMatchSpecSpec)) own started (by kernel_rfl) Tryz.func3
  (witness_row_at (enc:=enc) (C:=Tryz.checked) false (laidWorld os) #[.agg #[.slice none 0 0,.slice none 0 0,.slice none 0 0,.int .i64 0,.bool false]] rfl (by kernel_rfl) (by kernel_rfl) (by kernel_rfl)
   (OpenSpec.preRow_of_cond 8 hx (by kernel_rfl) (fun k hk=>by cases hk) (by kernel_rfl) (laid_met os))) ?_
 intro W base args ds gs before hval hW _ hcond hsz hlaid hsh _;exact contract H enc W base args ds gs before hval hW
theorem said:Rows.WorkersPlaysMatchSpecSaid :=
 OpenClaim.holds_of_cond 3 Tryz.f3 rfl rfl rfl rfl rfl rfl rfl ⟨rfl,rfl,rfl,rfl,rfl⟩ rfl rfl rfl rfl rfl (by kernel_rfl) Tryz.func3 (by kernel_rfl)
  (of_decide_eq_true (by kernel_rfl)) (by unfold Func.isWrapper;first | (rw[if_pos (by decide +kernel)];kernel_rfl) | (rw[if_neg (by decide +kernel)];exact⟨rfl,rfl⟩))
  (fun os started H enc _ F=>by rw[OpenClaim.pre_eq_preRow];exact lifted os started H enc F)
theorem plain (f : FuncId) (fn : Func) (hf : Tryz.pinned.checked.prog.funcNamed "smithyard/smithyardlaw9.WorkersPlaysMatchSpec" = some f) (hfn : Tryz.pinned.checked.prog.funcs[f]? = some fn) :
  false = Tryz.pinned.checked.prog.looks []∧∀ (j:Nat) t,fn.params[j]? = some t→Tryz.pinned.checked.prog.wantsStandIn t=false:=by
 obtain rfl : f = 3 := Option.some.inj ((show Tryz.prog.funcNamed "smithyard/smithyardlaw9.WorkersPlaysMatchSpec" = some 3 by kernel_rfl).symm.trans hf) |>.symm;obtain rfl:fn = Tryz.f3:=(Option.some.inj (Tryz.func3.symm.trans hfn)).symm;refine⟨by kernel_rfl,fun j t ht=>?_⟩;rw[Tryz.params3]at ht;have hm:t = 26:=by have:=Array.mem_of_getElem? ht;simpa using this
 obtain rfl:=hm
 ·exact(show Tryz.prog.wantsStandIn 26 = false by kernel_rfl)
theorem card:Rows.WorkersPlaysMatchSpecCardSaid :=
 Claim7.holds_tied_plain_at .later [] _ _ _ _ said (fun _ h=>by cases h) (by kernel_rfl) (fun _ h=>by cases h) workersPlaysMatchSpec_row_tie rfl ⟨rfl,rfl⟩ (by kernel_rfl) rfl plain (by kernel_rfl)
end Go.Proofs.YtbnkoefljcekbaaGreatDoor.workersPlaysMatchSpec