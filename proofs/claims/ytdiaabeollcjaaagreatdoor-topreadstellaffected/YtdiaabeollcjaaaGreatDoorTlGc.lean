/-
 Several texts of mine as one, without what is not wanted here: XDigW, XDgA, XWkH, XStepApp, XEqB.
-/
import Derived.Test.YtdiaabeollcjaaaGreatDoorTlGb
import Derived.Laws.IdiomStrings
import Derived.IntWalk
import Derived.Deep.RegionHeld3
import Derived.Deep.AppendLies
import Derived.Test.YtdiaabeollcjaaaGreatDoorTlShelf
set_option linter.unusedVariables false
set_option linter.unusedSimpArgs false
set_option maxRecDepth 100000
set_option maxHeartbeats 8000000
namespace Go.Proofs.YtdiaabeollcjaaaGreatDoor
open Go.ChangeShapes Go.WideShapes Go.Deep Go.RowKit
def BytesAt (w:World) (b off:Nat) (l:List UInt8):Prop:=∀ (j:Nat) (c:UInt8),l[j]? = some c→w.cell? ⟨b,off+j,none⟩=some (.int .u8 c.toNat)
def DgRel (l:List UInt8) (h i:Value):Prop:=∃ k:Nat,k≤l.length∧i = .int .i64 k∧h = .int .u64 (fnv (l.take k):Nat)
def URow (w:World) (b:Nat) (n:Nat) (f:Nat→Nat):Prop:=∀ j,j<n→w.cell? ⟨b,j,none⟩=some (.int .u8 (f j:Nat))∧w.frozen? ⟨b,j,none⟩=false
def madeU (n:Nat):Array Value:=madeCells (Value.int .u8 0).cells (n*1)
theorem run_makeU (W:World):(Instr.makeSlice 56 (.int .i64 16) (.int .i64 16)).run Tryz.prog W = .ok (.slice (some ⟨W.heap.size,0,none⟩) 16 16) (W.alloc (.cells (madeU 16) 5)):=by
 obtain⟨i,z,hi,hz,hz1,hz2,hz3⟩:∃ i z,Tryz.prog.info? 5 = some i∧i.zero=some z∧i.size=1∧i.bytes=1∧z = .int .u8 0:=by
  obtain⟨i,h1,h2,h3,h4⟩:=info_parts (z:=.int .u8 0) (size:=1) (bytes:=1) (show (Tryz.prog.info? 5).map (fun i=>(i.zero,i.size,i.bytes))=some (some (.int .u8 0),1,1) by kernel_rfl);exact⟨i,_,h1,h2,h3,h4,rfl⟩
 subst hz3;have:=run_make (P:=Tryz.prog) W 56 5 i (.int .u8 0) Tryz.underlying56 hi hz .i64 .i64 (16:Int) (16:Int) (by omega) (Int.le_refl _) (by rw[hz2];omega) (by omega);rw[this,hz1];rfl
theorem madeU_get (j:Nat) (hj:j<16):(madeU 16)[j]? = some (.int .u8 0):=by
 unfold madeU madeCells;simp[Value.cells,hj,Nat.mod_one]
def dgF (H i j:Nat):Nat:=if 16-i≤j then (digN H j).toNat else 0
def Dg2 (H bo:Nat) (w0:World) (h i:Value) (wr:World):Prop :=
 ∃ t:Nat,t≤16∧i = .int .i64 t∧h = .int .u64 (H / 16 ^ t:Nat)∧URow wr bo 16 (dgF H t)∧Below w0.heap.size w0 wr∧bo<wr.heap.size∧w0.heap.size≤bo
theorem URow.put {w:World} {b k v:Nat} {f f':Nat→Nat} (h:URow w b 16 f) (hk:k<16) (hf:∀ j,j<16→f' j=if j=k then v else f j):URow (w.setCell ⟨b,k,none⟩ (.int .u8 (v:Nat))) b 16 f':=fun j hj=>by
 refine⟨?_,by rw[World.frozen?_setCell];exact(h j hj).2⟩;rw[hf j hj]
 by_cases e:j=k
 ·subst e;simp only[if_true];exact World.cell?_setCell_same' _ _ _ (by rw[(h j hj).1];rfl)
 ·simp only[if_neg e];rw[World.cell?_setCell_other _ _ _ _ (by simp <;> omega)];exact(h j hj).1
theorem dgF_step (H t:Nat) (ht:t<16):∀ j,j<16→dgF H (t+1) j=if j=15-t then (hexN (H / 16 ^ t % 16)).toNat else dgF H t j:=by
 intro j hj;unfold dgF
 by_cases h:j=15-t
 ·subst h;rw[if_pos (by omega),if_pos rfl];unfold digN;rw[show 15-(15-t)=t by omega]
 ·rw[if_neg h]
  by_cases h2:16-t≤j
  ·rw[if_pos h2,if_pos (by omega)]
  ·rw[if_neg h2,if_neg (by omega)]
theorem hexS_get (q:Nat) (h:q<(⟨#[48,49,50,51,52,53,54,55,56,57,97,98,99,100,101,102]⟩:ByteArray).size):(⟨#[48,49,50,51,52,53,54,55,56,57,97,98,99,100,101,102]⟩:ByteArray)[q]'h=hexN q:=by
 have hq:q<16:=h;have:∀ q:Fin 16,(⟨#[48,49,50,51,52,53,54,55,56,57,97,98,99,100,101,102]⟩:ByteArray)[q.val]'(q.isLt)=hexN q.val:=by decide
 exact this ⟨q,hq⟩
theorem hex16_at {h j:Nat} (hj:j<16):(hex16 h)[j]? = some (digN h j):=by
 unfold hex16;rw[List.getElem?_map,List.getElem?_range hj];rfl
theorem digest_bytes (b off n c:Nat) (l:List UInt8) (w:World) (hn:l.length=n) (hl:BytesAt w b off l) (hb:b<w.heap.size) (hn9:n≤4611686018427387904) :
  Calls Tryz.prog 19 #[.slice (some ⟨b,off,none⟩) n c] w fun e w'=>e = .returned (.string (digF l))∧Below w.heap.size w w':=by
 have hmk:=run_makeU;have f0:fnv (l.take 0)=14695981039346656037:=rfl;obtain⟨hnH,hlH,f0H⟩:=hq2 hn (hq2 hl (Lib.hid f0));clear hn hl f0;go_enter Tryz.func19,Tryz.ntmps19;go_wp2_with fail
 go_loop [3,10] (fun h i=>DgRel l h i) (fun _ i=>n-(intOf i).toNat)
 case atStart=>exact⟨0,Nat.zero_le _,rfl,by rw[f0H.out];rfl⟩
 case round =>
  obtain⟨k,hk,rfl,rfl⟩:=hrel;have hkn:k≤n:=by have:=hnH.out;omega
  by_cases hlt:k<n
  ·obtain⟨x,hx⟩:∃ x,l[k]? = some x:=⟨l[k]'(by have:=hnH.out;omega),List.getElem?_eq_getElem _⟩;have c0:=hlH.out k x hx;have hst:=fnv_take hx;have hkl2:k+1≤l.length:=by have:=hnH.out;omega
   have hvl:=fnv_lt (l.take k);obtain⟨hv,hhv⟩:∃ v,fnv (l.take k)=v:=⟨_,rfl⟩;rw[hhv]at hst hvl ⊢;have hx1:=fnv_xor hv x hvl;have hx2:=fnv_mul hv x;obtain⟨hw,hhw⟩:∃ v,fnvStep hv x=v:=⟨_,rfl⟩;rw[hhw]at hst hx2;have R:DgRel l (.int .u64 (hw:Nat)) (.int .i64 (k+1)):=⟨k+1,hkl2,by go_num,by rw[hst]⟩;have hxt:x.toNat<256:=x.toNat_lt;clear hst hhw;unfold fnvM at hvl;obtain⟨hxH,hhvH,RH,hkl2H⟩:=hq2 hx (hq2 hhv (hq2 R (Lib.hid hkl2)));clear hx hhv R hkl2;go_wp2;refine⟨?rel,?measure⟩
   case measure=>(simp[intOf];omega)
   case rel=>first | exact RH.out | exact⟨rfl,RH.out⟩
  ·obtain⟨H,hH⟩:∃ v,fnv l=v:=⟨_,rfl⟩;have hHl:=fnv_lt l;rw[show l.take k=l from List.take_of_length_le (by have:=hnH.out;omega),hH];rw[hH]at hHl;have hHH:=Lib.hid hH;clear hH;go_wp2_with fail
   go_loopw [3,23] (fun h i wr=>Dg2 H w.heap.size w h i wr) (fun _ i _=>16-(intOf i).toNat)
   case atStart =>
    refine⟨0,by omega,rfl,by simp,fun j hj=>⟨?_,by simp[go_sem]⟩,(Below.refl _ _).alloc (Nat.le_refl _) _,by simp,Nat.le_refl _⟩;have:(w.alloc (.cells (madeU 16) 5)).cell? ⟨w.heap.size,j,none⟩=(madeU 16)[j]?:=by simp[go_sem]
    rw[this,madeU_get j hj];unfold dgF;rw[if_neg (by omega)];rfl
   case round =>
    obtain⟨t,ht,rfl,rfl,hr,hb2,hlb,hbo⟩:=hrel
    by_cases hlt2:t<16
    ·have hdv:H / 16 ^ t<fnvM:=Nat.lt_of_le_of_lt (Nat.div_le_self _ _) hHl;have hst:=dgF_step H t hlt2;have hnx:H / 16 ^ (t+1)=H / 16 ^ t / 16:=by rw[Nat.pow_succ,Nat.div_div_eq_div_mul]
     have hpt:=hr.put (k:=15-t) (by omega) hst;obtain⟨g0,g1⟩:=hr (15-t) (by omega);obtain⟨v,hv⟩:∃ v,H / 16 ^ t=v:=⟨_,rfl⟩;rw[hv]at hdv hpt hnx ⊢;have ha:=and15 v hdv;have hm16:v % 16<16:=Nat.mod_lt _ (by omega);obtain⟨q,hq⟩:∃ q,v % 16=q:=⟨_,rfl⟩;rw[hq]at ha hpt hm16;have hsub:IntKind.i64.wrap (15-(t:Int))=((15-t:Nat):Int):=by rw[IntWalk.i64_in _ (by omega)];omega
     have hsub2:(15:Int)-(t:Int)=((15-t:Nat):Int):=by omega
     unfold fnvM at hdv;obtain⟨hrH,hvH,hstH,hptH,hb2H,hqH,hnxH⟩:=hq2 hr (hq2 hv (hqb hst hpt hb2 hq (Lib.hid hnx)));clear hr hv hst hpt hb2 hq hnx;go_wp2;rw[hexS_get q (by assumption)];refine⟨⟨t+1,by omega,by go_num,congrArg (Value.int .u64) (by rw[hnxH.out];omega),hptH.out,hb2H.out.setCell (Nat.le_refl _) _,by simpa using hlb,Nat.le_refl _⟩,by simp[intOf];omega⟩
    ·obtain rfl:t=16:=by omega
     have hcv:=run_convert_bytes_back (P:=Tryz.prog) wr 56 9 5 ⟨w.heap.size,0,none⟩ 16 (hex16 H) Tryz.underlying56 Tryz.underlying5 Tryz.underlying9 (fun j hj=>by
      rw[hex16_len]at hj;have:=(hr j hj).1;rw[Addr.add_lit,Nat.zero_add,this];have e:(hex16 H)[j]? = some (digN H j):=hex16_at hj;obtain⟨_,e2⟩:=List.getElem_of_getElem? e;rw[e2];unfold dgF;rw[if_pos (by omega)])
     rw[hex16_len]at hcv;have hres:(⟨(hex16 H).toArray⟩:ByteArray)=digF l:=by unfold digF;rw[hHH.out]
     rw[hres]at hcv;clear hr hres;have hb2H:=Lib.hid hb2;clear hb2;go_wp2;go_ret;exact⟨rfl,hb2H.out⟩
theorem digest_zero (A:Option Addr) (c:Nat) (w:World) :
  Calls Tryz.prog 19 #[.slice A 0 c] w fun e w'=>e = .returned (.string (digF []))∧Below w.heap.size w w':=by
 have hmk:=run_makeU;go_enter Tryz.func19,Tryz.ntmps19;go_wp2_with fail
 go_loop [3,10] (fun h i=>DgRel [] h i) (fun _ i=>0-(intOf i).toNat)
 case atStart=>exact⟨0,Nat.zero_le _,rfl,rfl⟩
 case round =>
  obtain⟨k,hk,rfl,rfl⟩:=hrel;obtain rfl:k=0:=by simpa using hk
  clear hk;obtain⟨H,hH⟩:∃ v,fnv []=v:=⟨_,rfl⟩;have hHl:=fnv_lt [];rw[show ([]:List UInt8).take 0 = [] from rfl,hH];rw[hH]at hHl;have hHH:=Lib.hid hH;clear hH;go_wp2_with fail
  go_loopw [3,23] (fun h i wr=>Dg2 H w.heap.size w h i wr) (fun _ i _=>16-(intOf i).toNat)
  case atStart =>
   refine⟨0,by omega,rfl,by simp,fun j hj=>⟨?_,by simp[go_sem]⟩,(Below.refl _ _).alloc (Nat.le_refl _) _,by simp,Nat.le_refl _⟩;have:(w.alloc (.cells (madeU 16) 5)).cell? ⟨w.heap.size,j,none⟩=(madeU 16)[j]?:=by simp[go_sem]
   rw[this,madeU_get j hj];unfold dgF;rw[if_neg (by omega)];rfl
  case round =>
   obtain⟨t,ht,rfl,rfl,hr,hb2,hlb,hbo⟩:=hrel
   by_cases hlt2:t<16
   ·have hdv:H / 16 ^ t<fnvM:=Nat.lt_of_le_of_lt (Nat.div_le_self _ _) hHl;have hst:=dgF_step H t hlt2;have hnx:H / 16 ^ (t+1)=H / 16 ^ t / 16:=by rw[Nat.pow_succ,Nat.div_div_eq_div_mul]
    have hpt:=hr.put (k:=15-t) (by omega) hst;obtain⟨g0,g1⟩:=hr (15-t) (by omega);obtain⟨v,hv⟩:∃ v,H / 16 ^ t=v:=⟨_,rfl⟩;rw[hv]at hdv hpt hnx ⊢;have ha:=and15 v hdv;have hm16:v % 16<16:=Nat.mod_lt _ (by omega);obtain⟨q,hq⟩:∃ q,v % 16=q:=⟨_,rfl⟩;rw[hq]at ha hpt hm16;have hsub:IntKind.i64.wrap (15-(t:Int))=((15-t:Nat):Int):=by rw[IntWalk.i64_in _ (by omega)];omega
    have hsub2:(15:Int)-(t:Int)=((15-t:Nat):Int):=by omega
    unfold fnvM at hdv;obtain⟨hrH,hvH,hstH,hptH,hb2H,hqH,hnxH⟩:=hq2 hr (hq2 hv (hqb hst hpt hb2 hq (Lib.hid hnx)));clear hr hv hst hpt hb2 hq hnx;go_wp2;rw[hexS_get q (by assumption)];refine⟨⟨t+1,by omega,by go_num,congrArg (Value.int .u64) (by rw[hnxH.out];omega),hptH.out,hb2H.out.setCell (Nat.le_refl _) _,by simpa using hlb,Nat.le_refl _⟩,by simp[intOf];omega⟩
   ·obtain rfl:t=16:=by omega
    have hcv:=run_convert_bytes_back (P:=Tryz.prog) wr 56 9 5 ⟨w.heap.size,0,none⟩ 16 (hex16 H) Tryz.underlying56 Tryz.underlying5 Tryz.underlying9 (fun j hj=>by
     rw[hex16_len]at hj;have:=(hr j hj).1;rw[Addr.add_lit,Nat.zero_add,this];have e:(hex16 H)[j]? = some (digN H j):=hex16_at hj;obtain⟨_,e2⟩:=List.getElem_of_getElem? e;rw[e2];unfold dgF;rw[if_pos (by omega)])
    rw[hex16_len]at hcv;have hres:(⟨(hex16 H).toArray⟩:ByteArray)=digF []:=by unfold digF;rw[hHH.out]
    rw[hres]at hcv;clear hr hres;have hb2H:=Lib.hid hb2;clear hb2;go_wp2;go_ret;exact⟨rfl,hb2H.out⟩
theorem digest_any (A:Option Addr) (n c:Nat) (l:List UInt8) (w:World) (h:SlAt RU8 w A n l) (hn:n≤1000000000000) :
  Calls Tryz.prog 19 #[.slice A n c] w fun e w'=>e = .returned (.string (digF l))∧Below w.heap.size w w':=by
 rcases Nat.eq_zero_or_pos n with h0 | h0
 ·subst h0;obtain rfl:l = []:=List.eq_nil_of_length_eq_zero h.1;exact digest_zero A c w
 ·obtain⟨b,off,rfl,hc⟩:=h.2.1 h0;have hl:=h.1;obtain⟨x,hx⟩:∃ x,l[0]? = some x:=⟨l[0]'(by omega),List.getElem?_eq_getElem _⟩;exact digest_bytes b off n c l w hl (fun j y hj=>cell_U8 h hj) (cell?_lt (cell_U8 h hx)) (by omega)
end Go.Proofs.YtdiaabeollcjaaaGreatDoor
namespace Go.Proofs.YtdiaabeollcjaaaGreatDoor
open Go.RowKit
section
variable {P:Program} {ops:Array Oper} {Q:Exit→Act→World→Prop} {md:Region.Mode}
def wpAnyR (P:Program) (md:Region.Mode) (ops:Array Oper) (Q:Exit→Act→World→Prop) (R:Nat→World→World→Prop):Nat→Array Bool→Act→World→Prop
 | 0,listed,a,w=>Region.ready md ops listed = []∧Q .normal a w
 | fuel+1,listed,a,w =>
  (Region.ready md ops listed = []→Q .normal a w) ∧
  ∀ i∈Region.ready md ops listed,wpOp P ops Q i (fun a' w'=>R i w w'∧wpAnyR P md ops Q R fuel (listed.setIfInBounds i true) a' w') a w
theorem wpAny_of_R {R:Nat→World→World→Prop}:∀ (fuel:Nat) (listed:Array Bool) (a:Act) (w:World),wpAnyR P md ops Q R fuel listed a w→wpAny P md ops Q fuel listed a w
 | 0,_,_,_,h=>h
 | fuel+1,_,_,_,h=>⟨h.1,fun i hi=>wpOp_mono (fun a' w' h'=>wpAny_of_R fuel _ a' w' h'.2) (h.2 i hi)⟩
theorem wpAnyR_first {R:Nat→World→World→Prop} {Si:World→Prop} {i:Nat} {oi:Oper} {v:Value} (hi:ops[i]? = some oi) (hsel:∀ (j:Nat) (o:Oper) cs b,ops[j]? = some o→o.op≠.select cs b)
  (hQ:∀ c a w,Q (.panic c) (a.put oi.dst v) w→Q (.panic c) a w) (hR:∀ w,R i w w)
  (hw:∀ j oj,ops[j]? = some oj→(∀ e∈oj.after,Region.binds md e=true→e.on≠i)→∀ w w',R j w w'→Si w→Si w') :
  ∀ (fuel:Nat) (listed:Array Bool) (a:Act) (w:World),
   (∀ j oj,ops[j]? = some oj→j≠i→listed.getD j true=false→(∀ e∈oj.after,Region.binds md e=true→e.on≠i)→oi.apart ops oj=true) →
   i∈Region.ready md ops listed→YieldsIf P ops Si oi v a→Si w →
   wpAnyR P md ops Q R fuel (listed.setIfInBounds i true) (a.put oi.dst v) w→wpAnyR P md ops Q R (fuel+1) listed a w:=by
 intro fuel
 induction fuel with
 | zero =>
  intro listed a w _ hr hy hS H;refine⟨fun h=>(by rw[h]at hr;cases hr),fun j hj=>?_⟩
  by_cases hji:j=i
  ·subst hji;exact hy.wpOp hi hS ⟨hR _,H⟩
  ·have:=ready_mono hj hji;rw[H.1]at this
   cases this
 | succ fuel ih =>
  intro listed a w hfree hr hy hS H;refine⟨fun h=>(by rw[h]at hr;cases hr),fun j hj=>?_⟩
  by_cases hji:j=i
  ·subst hji;exact hy.wpOp hi hS ⟨hR _,H⟩
  ·have h1:=H.2 j (ready_mono hj hji);obtain⟨hjun,oj,hoj,hall⟩:=mem_ready.1 hj;have hnot:∀ e∈oj.after,Region.binds md e=true→e.on≠i:=fun e he hb heq=>by
    have h1:=hall e he hb;have h0:=(mem_ready.1 hr).1;rw[heq]at h1
    rcases Nat.lt_or_ge i listed.size with h' | h'
    ·simp[h']at h0 h1;rw[h0]at h1;cases h1
    ·simp[Array.getElem?_eq_none h']at h1
   have h2:=wpOp_putIf hoj (hfree j oj hoj hji hjun hnot) (fun cs b=>hsel i oi cs b hi) (fun cs b=>hsel j oj cs b hoj) hQ hy h1;have hfree':∀ k ok,ops[k]? = some ok→k≠i→(listed.setIfInBounds j true).getD k true=false →
     (∀ e∈ok.after,Region.binds md e=true→e.on≠i)→oi.apart ops ok=true:=fun k ok hk hki hun hno=>by
    refine hfree k ok hk hki ?_ hno
    by_cases hjk:j=k
    ·subst hjk;exact hjun
    ·rw[getD_set_ne true hjk]at hun;exact hun
   refine wpOp_mono (fun a' w' h3=>⟨h3.2.1,ih (listed.setIfInBounds j true) a' w' hfree' (ready_mono hr (Ne.symm hji)) h3.1 (hw j oj hoj hnot _ _ h3.2.1 hS) ?_⟩) h2;rw[Array.setIfInBounds_comm _ _ hji];exact h3.2.2
def Rk (F C:World→Prop) (j1 j2:Nat) (j:Nat) (w w':World):Prop:=(j≠j2→j≠j1→F w→F w')∧(j≠j2→C w→C w')
theorem Rk.refl {F C:World→Prop} {j1 j2 j:Nat} (w:World):Rk F C j1 j2 j w w:=⟨fun _ _ h=>h,fun _ h=>h⟩
def waits (md:Region.Mode) (ops:Array Oper) (j i:Nat):Bool:=match ops[j]? with
 | some o=>o.after.any fun e=>Region.binds md e&&e.on==i
 | none=>true
theorem waits_not {j i:Nat} {oj:Oper} (hj:ops[j]? = some oj) (h:waits md ops j i=true) (hn:∀ e∈oj.after,Region.binds md e=true→e.on≠i):False:=by
 unfold waits at h;rw[hj]at h;simp only[Array.any_eq_true,Bool.and_eq_true,beq_iff_eq]at h;obtain⟨k,hk,hb,he⟩:=h;exact hn _ (Array.getElem_mem hk) hb he
theorem takeC {F C:World→Prop} {j1 j2 i:Nat} {d:Option Tmp} {oi:Oper} {v:Value} {fuel:Nat} {listed:Array Bool} {a:Act} {w:World} (hi:ops[i]? = some oi) (hd:oi.dst=d)
  (hs:Region.noSelect ops=true) (hf:Region.free md ops listed i=true) (hr:(Region.ready md ops listed).contains i=true) (h2:waits md ops j2 i=true)
  (hQ:∀ c a w,Q (.panic c) (a.put d v) w→Q (.panic c) a w) (hy:YieldsIf P ops C oi v a) (hS:C w)
  (h:wpAnyR P md ops Q (Rk F C j1 j2) fuel (listed.setIfInBounds i true) (a.put d v) w):wpAnyR P md ops Q (Rk F C j1 j2) (fuel+1) listed a w:=by
 subst hd;refine wpAnyR_first (Si:=C) hi (Region.noSelect_spec hs) hQ Rk.refl (fun j oj hj hn w w' hw hC=>hw.2 (fun e=>?_) hC) fuel listed a w (Region.free_spec hi hf) (by simpa using hr) hy hS h;subst e;exact waits_not hj h2 hn
theorem oneR {R:Nat→World→World→Prop} {i:Nat} {o:Oper} {fuel:Nat} {listed:Array Bool} {a:Act} {w:World} (hr:Region.ready md ops listed = [i]) (ho:ops[i]? = some o)
  (h:∀ K':Act→World→Prop,Shut (∀ a' w',R i w w'→wpAnyR P md ops Q R fuel (listed.setIfInBounds i true) a' w'→K' a' w')→if Region.wanted o (yielded ops a.tmps)=true then Oper.wp P o a w K' Q else K' (a.put o.dst undef) w) :
  wpAnyR P md ops Q R (fuel+1) listed a w:=by
 refine⟨fun h0=>absurd (hr ▸ h0) (by simp),fun j hj=>?_⟩;rw[hr,List.mem_singleton]at hj;subst hj;exact wpOp_step ho (fun K' hK=>h K' (fun a' w' h1 h2=>hK a' w' ⟨h1,h2⟩))
theorem doneR {R:Nat→World→World→Prop} {listed:Array Bool} {a:Act} {w:World} (hr:Region.ready md ops listed = []) (h:Q .normal a w):∀ fuel,wpAnyR P md ops Q R fuel listed a w
 | 0=>⟨hr,h⟩
 | _+1=>⟨fun _=>h,by rw[hr];simp⟩
theorem startR {R:Nat→World→World→Prop} {id:Nat} {a:Act} {w:World} (hm:P.follows .mixedOrders=true)
  (h:wpAnyR P .any ops Q R ops.size (Array.replicate ops.size false) a w.drew):(Code.region id ops true).wp P Q a w :=
 wp_region_any hm (wpAny_of_R _ _ _ _ h)
end
end Go.Proofs.YtdiaabeollcjaaaGreatDoor
namespace Go.Proofs.YtdiaabeollcjaaaGreatDoor
open Go.ChangeShapes Go.WideShapes Go.Deep Go.RowKit
section
variable {α:Type} {R:Rd α} {e:TypeId} {w:World} {base:Nat} {v:Value} {l:List α} {P:Program}
theorem step_app1 {ops:Array Oper} {o:Oper} {a:Act} {K:Act→World→Prop} {Q:Exit→Act→World→Prop} {E:Prop} (hgd:o.guard=none) (s x:Operand) (t:TypeId)
  (ho:o.op = .call { callee:=.builtin .append,args:=#[s,x],argTypes:=#[t,t] })
  {bytes:Nat} (ht:P.underlying t=some (.slice e)) (hE:Elem P e R.size bytes) (hsz:0<R.size)
  (hs:a.eval s=v) (hown:Own R e w base v l) (g:Nat) (y:α) (hx:a.eval x = .slice (some ⟨g,0,none⟩) 1 1) (hy:SlAt R w (some ⟨g,0,none⟩) 1 [y])
  (hok:∀ w',w.grownBy w' v.ownBlock→∀ z,z∈l ++ [y]→R.ok w z→R.ok w' z)
  (h63:l.length+1≤maxLen) (hbytes:(l.length+1)*bytes≤140737488355328) (hbase:base≤w.heap.size) (N:Nat) (hN:l.length+1=N)
  (h:∀ A' c' w',Own R e w' base (.slice A' N c') (l ++ [y])→Below base w w'→K (a.put o.dst (.slice A' N c')) w') :
  if Region.wanted o (yielded ops a.tmps)=true then Oper.wp P o a w K Q else E:=by
 subst hN;obtain⟨i,z,hi,hz,hz1,hz2,hz3⟩:=hE;have below_of:∀ w',w.grownBy w' v.ownBlock→Below base w w':=fun w' hg=>(Below.refl _ _).grown hg hbase fun k hk=>(hown.1.lt k hk).1;have hnews:∀ j u,(R.vals y)[j]? = some u→w.cell? ((⟨g,0,none⟩:Addr).add j)=some u:=fun j u hu=>by
  obtain⟨b,off,hA,hc⟩:=hy.2.1 (by omega);obtain⟨rfl,rfl⟩:g=b∧0=off:=by simpa using hA
  have:=hc 0 y rfl j u hu;rw[Addr.add_lit]
  simpa using this
 refine step_append_lies w hgd s x t ho base e i z R.size bytes ht hi hz hz1 hz2 hz3 hsz v l.length (l.flatMap R.vals) hs hown.1 ⟨g,0,none⟩ 1 1 (R.vals y) hx (by rw[R.len];omega) hnews
  (fun u hu=>R.one y u hu) (by omega) (by omega) hbytes hbase w.heap.size rfl ?_
 intro g' cap w' h3 hg _ _;refine h _ _ w' ⟨?_,fun q hq=>?_⟩ (below_of _ hg)
 ·rw[List.length_append,List.length_singleton,List.flatMap_append]
  simpa using h3
 ·rcases List.mem_append.1 hq with hq' | hq'
  ·exact hok w' hg q hq (hown.2 q hq')
  ·exact hok w' hg q hq (hy.2.2 q hq')
end
def natU (l:List UInt8):List Int:=l.map fun c=>((c.toNat:Nat):Int)
theorem natU_len (l:List UInt8):(natU l).length=l.length:=by simp[natU]
theorem natU_of (l:List UInt8):Lib.bytesOf (natU l)=l:=by
 unfold Lib.bytesOf natU;rw[List.map_map]
 conv=>rhs;rw[← List.map_id l]
 apply List.map_congr_left;intro c _;simp
theorem natU_get {w:World} {b off n:Nat} {l:List UInt8} (h:SlAt RU8 w (some ⟨b,off,none⟩) n l) (i:Nat) (hi:i<n):w.cell? ⟨b,off+i,none⟩=some (.int .u8 ((natU l).getD i 0)):=by
 have hl:=h.1;have:=cell_U8 h (List.getElem?_eq_getElem (show i<l.length by omega));rw[this,List.getD_eq_getElem?_getD];unfold natU;rw[List.getElem?_map,List.getElem?_eq_getElem (show i<l.length by omega)];rfl
theorem bytesIn_of {w:World} {A:Option Addr} {n:Nat} {l:List UInt8} (h:SlAt RU8 w A n l):Lib.BytesIn w A n (natU l):=by
 rcases Nat.eq_zero_or_pos n with h0 | h0
 ·subst h0;obtain rfl:l = []:=List.eq_nil_of_length_eq_zero h.1;exact Lib.BytesIn.nil _ _ _
 ·obtain⟨b,off,rfl,hc⟩:=h.2.1 h0;exact Lib.BytesIn.of_cells (fun i hi=>by rw[Addr.add_lit];exact natU_get h i hi)
theorem eqB_any (A1 A2:Option Addr) (n1 c1 n2 c2:Nat) (l1 l2:List UInt8) (w:World) (h1:SlAt RU8 w A1 n1 l1) (h2:SlAt RU8 w A2 n2 l2) :
  Calls Tryz.prog 72 #[.slice A1 n1 c1,.slice A2 n2 c2] w fun e w'=>e = .returned (.bool (l1==l2))∧w=w':=by
 have:=Tryz.bytes_Equal_all A1 A2 n1 c1 n2 c2 (natU l1) (natU l2) w (by rw[natU_len,h1.1]) (by rw[natU_len,h2.1]) (bytesIn_of h1) (bytesIn_of h2);rw[natU_of,natU_of]at this;exact this.mono fun e w' ⟨h,k⟩=>⟨h,k.symm⟩
theorem indexB_any (b off n c:Nat) (l:List UInt8) (x:UInt8) (w:World) (h:SlAt RU8 w (some ⟨b,off,none⟩) n l):Calls Tryz.prog 145 #[.slice (some ⟨b,off,none⟩) n c,.int .u8 (x.toNat:Nat)] w fun e w'=>e = .returned (.int .i64 (Lib.indexByte l x))∧w=w':=by
  have:=Tryz.bytes_IndexByte b off n c (natU l) (x.toNat:Nat) w (by rw[natU_len,h.1]) (fun i hi=>natU_get h i hi)
  rw[natU_of,show ((x.toNat:Nat):Int).toNat.toUInt8=x by simp]at this
  exact this.mono fun e w' ⟨h,k⟩=>⟨h,k.symm⟩
end Go.Proofs.YtdiaabeollcjaaaGreatDoor