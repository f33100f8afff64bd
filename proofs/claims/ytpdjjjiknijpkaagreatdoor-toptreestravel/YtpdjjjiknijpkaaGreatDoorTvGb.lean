/-
 Several texts of mine as one, without what is not wanted here: XDigW, XDgA, XOwn, XWkH, XClV, XStr, XWords.
-/
import Derived.Test.YtpdjjjiknijpkaaGreatDoorTvGa
import Derived.Laws.IdiomStrings
import Derived.IntWalk
import Derived.Maps.AppendAt
import Derived.Laws.AppendOwnNone
import Derived.Deep.RegionHeld3
import Derived.Lib.SliceRun
import Derived.WalkSpells
import Derived.Lib.SplitLaws
import Derived.Test.YtpdjjjiknijpkaaGreatDoorTvShelf
set_option linter.unusedVariables false
set_option linter.unusedSimpArgs false
set_option maxRecDepth 100000
set_option maxHeartbeats 8000000
namespace Go.Proofs.YtpdjjjiknijpkaaGreatDoor
open Go.ChangeShapes Go.WideShapes Go.Deep Go.RowKit
def BytesAt (w:World) (b off:Nat) (l:List UInt8):Prop:=∀ (j:Nat) (c:UInt8),l[j]? = some c→w.cell? ⟨b,off+j,none⟩=some (.int .u8 c.toNat)
def DgRel (l:List UInt8) (h i:Value):Prop:=∃ k:Nat,k≤l.length∧i = .int .i64 k∧h = .int .u64 (fnv (l.take k):Nat)
def URow (w:World) (b:Nat) (n:Nat) (f:Nat→Nat):Prop:=∀ j,j<n→w.cell? ⟨b,j,none⟩=some (.int .u8 (f j:Nat))∧w.frozen? ⟨b,j,none⟩=false
def madeU (n:Nat):Array Value:=madeCells (Value.int .u8 0).cells (n*1)
theorem run_makeU (W:World):(Instr.makeSlice 39 (.int .i64 16) (.int .i64 16)).run Tryz.prog W = .ok (.slice (some ⟨W.heap.size,0,none⟩) 16 16) (W.alloc (.cells (madeU 16) 5)):=by
 obtain⟨i,z,hi,hz,hz1,hz2,hz3⟩:∃ i z,Tryz.prog.info? 5 = some i∧i.zero=some z∧i.size=1∧i.bytes=1∧z = .int .u8 0:=by
  obtain⟨i,h1,h2,h3,h4⟩:=info_parts (z:=.int .u8 0) (size:=1) (bytes:=1) (show (Tryz.prog.info? 5).map (fun i=>(i.zero,i.size,i.bytes))=some (some (.int .u8 0),1,1) by kernel_rfl);exact⟨i,_,h1,h2,h3,h4,rfl⟩
 subst hz3;have:=run_make (P:=Tryz.prog) W 39 5 i (.int .u8 0) Tryz.underlying39 hi hz .i64 .i64 (16:Int) (16:Int) (by omega) (Int.le_refl _) (by rw[hz2];omega) (by omega);rw[this,hz1];rfl
theorem madeU_get (j:Nat) (hj:j<16):(madeU 16)[j]? = some (.int .u8 0):=by
 unfold madeU madeCells;simp[Value.cells,hj,Nat.mod_one]
def dgF (H i j:Nat):Nat:=if 16-i≤j then (digN H j).toNat else 0
def Dg2 (H bo:Nat) (w0:World) (h i:Value) (wr:World):Prop :=
 ∃ t:Nat,t≤16∧i = .int .i64 t∧h = .int .u64 (H / 16 ^ t:Nat)∧URow wr bo 16 (dgF H t)∧Below w0.heap.size w0 wr∧bo<wr.heap.size∧w0.heap.size≤bo
theorem URow.put {w:World} {b k v:Nat} {f f':Nat→Nat} (h:URow w b 16 f) (hk:k<16) (hf:∀ j,j<16→f' j=if j=k then v else f j):URow (w.setCell ⟨b,k,none⟩ (.int .u8 (v:Nat))) b 16 f':=fun j hj=>by
 refine⟨?_,by rw[World.frozen?_setCell];exact(h j hj).2⟩;rw[hf j hj]
 by_cases e:j=k
 ·subst e;simp only[if_true];exact World.cell?_setCell_same' _ _ _ (by rw[(h j hj).1];rfl)
 ·simp only[if_neg e];rw[World.cell?_setCell_other _ _ _ _ (by simp <;> omega)];exact(h j hj).1
theorem dgF_step (H t:Nat) (ht:t<16):∀ j,j<16→dgF H (t+1) j=if j=15-t then (hexN (H / 16 ^ t % 16)).toNat else dgF H t j:=by
 intro j hj;unfold dgF
 by_cases h:j=15-t
 ·subst h;rw[if_pos (by omega),if_pos rfl];unfold digN;rw[show 15-(15-t)=t by omega]
 ·rw[if_neg h]
  by_cases h2:16-t≤j
  ·rw[if_pos h2,if_pos (by omega)]
  ·rw[if_neg h2,if_neg (by omega)]
theorem hexd_size:(⟨#[48,49,50,51,52,53,54,55,56,57,97,98,99,100,101,102]⟩:ByteArray).size=16:=by decide
theorem hexS_get (q:Nat) (h:q<(⟨#[48,49,50,51,52,53,54,55,56,57,97,98,99,100,101,102]⟩:ByteArray).size):(⟨#[48,49,50,51,52,53,54,55,56,57,97,98,99,100,101,102]⟩:ByteArray)[q]'h=hexN q:=by
 have hq:q<16:=h;have:∀ q:Fin 16,(⟨#[48,49,50,51,52,53,54,55,56,57,97,98,99,100,101,102]⟩:ByteArray)[q.val]'(q.isLt)=hexN q.val:=by decide
 exact this ⟨q,hq⟩
theorem hex16_at {h j:Nat} (hj:j<16):(hex16 h)[j]? = some (digN h j):=by
 unfold hex16;rw[List.getElem?_map,List.getElem?_range hj];rfl
theorem digest_bytes (b off n c:Nat) (l:List UInt8) (w:World) (hn:l.length=n) (hl:BytesAt w b off l) (hb:b<w.heap.size) (hn9:n≤4611686018427387904) :
  Calls Tryz.prog 18 #[.slice (some ⟨b,off,none⟩) n c] w fun e w'=>e = .returned (.string (digF l))∧Below w.heap.size w w':=by
 have hmk:=run_makeU;have f0:fnv (l.take 0)=14695981039346656037:=rfl;obtain⟨hnH,hlH,f0H⟩:=hq2 hn (hq2 hl (Lib.hid f0));clear hn hl f0;go_enter Tryz.func18,Tryz.ntmps18;go_wp2_with fail
 go_loop [3,10] (fun h i=>DgRel l h i) (fun _ i=>n-(intOf i).toNat)
 case atStart=>exact⟨0,Nat.zero_le _,rfl,by rw[f0H.out];rfl⟩
 case round =>
  obtain⟨k,hk,rfl,rfl⟩:=hrel;have hkn:k≤n:=by have:=hnH.out;omega
  by_cases hlt:k<n
  ·obtain⟨x,hx⟩:∃ x,l[k]? = some x:=⟨l[k]'(by have:=hnH.out;omega),List.getElem?_eq_getElem _⟩;have c0:=hlH.out k x hx;have hst:=fnv_take hx;have hkl2:k+1≤l.length:=by have:=hnH.out;omega
   have hvl:=fnv_lt (l.take k);obtain⟨hv,hhv⟩:∃ v,fnv (l.take k)=v:=⟨_,rfl⟩;rw[hhv]at hst hvl ⊢;have hx1:=fnv_xor hv x hvl;have hx2:=fnv_mul hv x;obtain⟨hw,hhw⟩:∃ v,fnvStep hv x=v:=⟨_,rfl⟩;rw[hhw]at hst hx2;have R:DgRel l (.int .u64 (hw:Nat)) (.int .i64 (k+1)):=⟨k+1,hkl2,by go_num,by rw[hst]⟩;have hxt:x.toNat<256:=x.toNat_lt;clear hst hhw;unfold fnvM at hvl;obtain⟨hxH,hhvH,RH,hkl2H⟩:=hq2 hx (hq2 hhv (hq2 R (Lib.hid hkl2)));clear hx hhv R hkl2;go_wp2;refine⟨?rel,?measure⟩
   case measure=>(simp[intOf];omega)
   case rel=>first | exact RH.out | exact⟨rfl,RH.out⟩
  ·obtain⟨H,hH⟩:∃ v,fnv l=v:=⟨_,rfl⟩;have hHl:=fnv_lt l;rw[show l.take k=l from List.take_of_length_le (by have:=hnH.out;omega),hH];rw[hH]at hHl;have hHH:=Lib.hid hH;clear hH;go_wp2_with fail
   go_loopw [3,23] (fun h i wr=>Dg2 H w.heap.size w h i wr) (fun _ i _=>16-(intOf i).toNat)
   case atStart =>
    refine⟨0,by omega,rfl,by simp,fun j hj=>⟨?_,by simp[go_sem]⟩,(Below.refl _ _).alloc (Nat.le_refl _) _,by simp,Nat.le_refl _⟩;have:(w.alloc (.cells (madeU 16) 5)).cell? ⟨w.heap.size,j,none⟩=(madeU 16)[j]?:=by simp[go_sem]
    rw[this,madeU_get j hj];unfold dgF;rw[if_neg (by omega)];rfl
   case round =>
    obtain⟨t,ht,rfl,rfl,hr,hb2,hlb,hbo⟩:=hrel
    by_cases hlt2:t<16
    ·have hdv:H / 16 ^ t<fnvM:=Nat.lt_of_le_of_lt (Nat.div_le_self _ _) hHl;have hst:=dgF_step H t hlt2;have hnx:H / 16 ^ (t+1)=H / 16 ^ t / 16:=by rw[Nat.pow_succ,Nat.div_div_eq_div_mul]
     have hpt:=hr.put (k:=15-t) (by omega) hst;obtain⟨g0,g1⟩:=hr (15-t) (by omega);obtain⟨v,hv⟩:∃ v,H / 16 ^ t=v:=⟨_,rfl⟩;rw[hv]at hdv hpt hnx ⊢;have ha:=and15 v hdv;have hm16:v % 16<16:=Nat.mod_lt _ (by omega);obtain⟨q,hq⟩:∃ q,v % 16=q:=⟨_,rfl⟩;rw[hq]at ha hpt hm16;have hsub:IntKind.i64.wrap (15-(t:Int))=((15-t:Nat):Int):=by rw[IntWalk.i64_in _ (by omega)];omega
     have hsub2:(15:Int)-(t:Int)=((15-t:Nat):Int):=by omega
     unfold fnvM at hdv;obtain⟨hrH,hvH,hstH,hptH,hb2H,hqH,hnxH⟩:=hq2 hr (hq2 hv (hqb hst hpt hb2 hq (Lib.hid hnx)));clear hr hv hst hpt hb2 hq hnx;go_wp2;rw[hexS_get q (by assumption)];refine⟨⟨t+1,by omega,by go_num,congrArg (Value.int .u64) (by rw[hnxH.out];omega),hptH.out,hb2H.out.setCell (Nat.le_refl _) _,by simpa using hlb,Nat.le_refl _⟩,by simp[intOf];omega⟩
    ·obtain rfl:t=16:=by omega
     have hcv:=run_convert_bytes_back (P:=Tryz.prog) wr 39 9 5 ⟨w.heap.size,0,none⟩ 16 (hex16 H) Tryz.underlying39 Tryz.underlying5 Tryz.underlying9 (fun j hj=>by
      rw[hex16_len]at hj;have:=(hr j hj).1;rw[Addr.add_lit,Nat.zero_add,this];have e:(hex16 H)[j]? = some (digN H j):=hex16_at hj;obtain⟨_,e2⟩:=List.getElem_of_getElem? e;rw[e2];unfold dgF;rw[if_pos (by omega)])
     rw[hex16_len]at hcv;have hres:(⟨(hex16 H).toArray⟩:ByteArray)=digF l:=by unfold digF;rw[hHH.out]
     rw[hres]at hcv;clear hr hres;have hb2H:=Lib.hid hb2;clear hb2;go_wp2;go_ret;exact⟨rfl,hb2H.out⟩
def RD2 (H:Nat) (v i:Value):Prop:=∃ t:Nat,t≤16∧i = .int .i64 (60-4*(t:Int))∧v = .string ⟨((hex16 H).take t).toArray⟩
theorem rdigest_bytes (b off n c:Nat) (l:List UInt8) (w:World) (hn:l.length=n) (hl:BytesAt w b off l) (hn9:n≤4611686018427387904) :
  Calls Tryz.prog 48 #[.slice (some ⟨b,off,none⟩) n c] w fun e w'=>e = .returned (.string (digF l))∧w=w':=by
 have f0:fnv (l.take 0)=14695981039346656037:=rfl;obtain⟨hnH,hlH,f0H⟩:=hq2 hn (hq2 hl (Lib.hid f0));clear hn hl f0;go_enter Tryz.func48,Tryz.ntmps48;go_wp2_with fail
 go_loop [3,4] (fun h i=>DgRel l h i) (fun _ i=>n-(intOf i).toNat)
 case atStart=>exact⟨0,Nat.zero_le _,rfl,by rw[f0H.out];rfl⟩
 case round =>
  obtain⟨k,hk,rfl,rfl⟩:=hrel;have hkn:k≤n:=by have:=hnH.out;omega
  by_cases hlt:k<n
  ·obtain⟨x,hx⟩:∃ x,l[k]? = some x:=⟨l[k]'(by have:=hnH.out;omega),List.getElem?_eq_getElem _⟩;have c0:=hlH.out k x hx;have hst:=fnv_take hx;have hkl2:k+1≤l.length:=by have:=hnH.out;omega
   have hvl:=fnv_lt (l.take k);obtain⟨hv,hhv⟩:∃ v,fnv (l.take k)=v:=⟨_,rfl⟩;rw[hhv]at hst hvl ⊢;have hx1:=fnv_xor hv x hvl;have hx2:=fnv_mul hv x;obtain⟨hw,hhw⟩:∃ v,fnvStep hv x=v:=⟨_,rfl⟩;rw[hhw]at hst hx2;have R:DgRel l (.int .u64 (hw:Nat)) (.int .i64 (k+1)):=⟨k+1,hkl2,by go_num,by rw[hst]⟩;have hxt:x.toNat<256:=x.toNat_lt;clear hst hhw;unfold fnvM at hvl;obtain⟨hxH,hhvH,RH,hkl2H⟩:=hq2 hx (hq2 hhv (hq2 R (Lib.hid hkl2)));clear hx hhv R hkl2;go_wp2;refine⟨?rel,?measure⟩
   case measure=>(simp[intOf];omega)
   case rel=>first | exact RH.out | exact⟨rfl,RH.out⟩
  ·obtain⟨H,hH⟩:∃ v,fnv l=v:=⟨_,rfl⟩;have hHl:=fnv_lt l;rw[show l.take k=l from List.take_of_length_le (by have:=hnH.out;omega),hH];rw[hH]at hHl;have hHH:=Lib.hid hH;clear hH;go_wp2_with fail
   go_loop [5,6] (fun v i=>RD2 H v i) (fun _ i=>(intOf i+4).toNat)
   case atStart=>exact⟨0,by omega,rfl,rfl⟩
   case round =>
    obtain⟨t,ht,rfl,rfl⟩:=hrel
    by_cases hlt2:t<16
    ·obtain⟨m,hm,hm2⟩:∃ m:Nat,60-4*(t:Int)=m∧m=60-4*t:=⟨60-4*t,by omega,rfl⟩;rw[hm];have hm60:m≤60:=by omega
     have h2m:2 ^ m=16 ^ (15-t):=by rw[show m=4*(15-t) by omega,Nat.pow_mul]
     obtain⟨q,hqd⟩:∃ q,H / 2 ^ m % 16=q:=⟨_,rfl⟩;have hq16:q<16:=by rw[← hqd];exact Nat.mod_lt _ (by omega)
     have hq0:((H:Int) / 2 ^ m).tmod 16=(q:Int):=by
      rw[show ((H:Int) / 2 ^ m)=((H / 2 ^ m:Nat):Int) by simp,← hqd,Int.tmod_eq_emod_of_nonneg (Int.natCast_nonneg _)];obtain⟨X,hX⟩:∃ X,H / 2 ^ m=X:=⟨_,rfl⟩;rw[hX];omega
     have hq1:IntKind.u64.wrap ((q:Int)+1)=(q:Int)+1:=by rw[IntKind.wrap_u64];omega
     have hdt:hexN q=digN H t:=by unfold digN;rw[← h2m,hqd]
     have hpl:((hex16 H).take t).length=t:=by rw[List.length_take,hex16_len];omega
     have hpn:(hex16 H).take (t+1)=(hex16 H).take t ++ [hexN q]:=by rw[List.take_add_one,hex16_at hlt2,hdt];rfl
     obtain⟨pre,hpre⟩:∃ x,((hex16 H).take t)=x:=⟨_,rfl⟩;rw[hpre]at hpl hpn ⊢;clear hdt;have hsl:∀ W:World,(Instr.slice 9 (.string ⟨#[48,49,50,51,52,53,54,55,56,57,97,98,99,100,101,102]⟩) (some (.int .u64 (q:Int))) (some (.int .u64 ((q:Int)+1))) none).run Tryz.prog W = .ok (.string ⟨#[hexN q]⟩) W:=fun W=>by
      rw[run_slice_string (P:=Tryz.prog) W 9 _ .u64 .u64 (q:Int) ((q:Int)+1) Tryz.underlying9 (by omega) (by omega) (by rw[hexd_size];omega)];have e:∀ q:Fin 16,(⟨#[48,49,50,51,52,53,54,55,56,57,97,98,99,100,101,102]⟩:ByteArray).extract q.val (q.val+1)=⟨#[hexN q.val]⟩:=by decide
      rw[show ((q:Int)+1).toNat=q+1 by omega,show (q:Int).toNat=q from rfl,e ⟨q,hq16⟩]
     obtain⟨hmH,hm2H,hpreH,h2mH,hqdH,hpnH⟩:=hq2 hm (hqb hm2 hpre h2m hqd (Lib.hid hpn));clear hm hm2 hpre h2m hqd hpn;go_wp2;refine⟨⟨t+1,by omega,congrArg (Value.int .i64) (by have:=hmH.out;omega),congrArg Value.string ?_⟩,by simp[intOf];omega⟩;rw[hpnH.out];apply ByteArray.ext;simp
    ·obtain rfl:t=16:=by omega
     rw[show (60-4*((16:Nat):Int)) = -4 by decide,List.take_of_length_le (by rw[hex16_len];omega)];have hres:(⟨(hex16 H).toArray⟩:ByteArray)=digF l:=by unfold digF;rw[hHH.out]
     rw[hres];clear hres;go_wp2;go_ret;exact⟨rfl,rfl⟩
theorem digest_zero (A:Option Addr) (c:Nat) (w:World) :
  Calls Tryz.prog 18 #[.slice A 0 c] w fun e w'=>e = .returned (.string (digF []))∧Below w.heap.size w w':=by
 have hmk:=run_makeU;go_enter Tryz.func18,Tryz.ntmps18;go_wp2_with fail
 go_loop [3,10] (fun h i=>DgRel [] h i) (fun _ i=>0-(intOf i).toNat)
 case atStart=>exact⟨0,Nat.zero_le _,rfl,rfl⟩
 case round =>
  obtain⟨k,hk,rfl,rfl⟩:=hrel;obtain rfl:k=0:=by simpa using hk
  clear hk;obtain⟨H,hH⟩:∃ v,fnv []=v:=⟨_,rfl⟩;have hHl:=fnv_lt [];rw[show ([]:List UInt8).take 0 = [] from rfl,hH];rw[hH]at hHl;have hHH:=Lib.hid hH;clear hH;go_wp2_with fail
  go_loopw [3,23] (fun h i wr=>Dg2 H w.heap.size w h i wr) (fun _ i _=>16-(intOf i).toNat)
  case atStart =>
   refine⟨0,by omega,rfl,by simp,fun j hj=>⟨?_,by simp[go_sem]⟩,(Below.refl _ _).alloc (Nat.le_refl _) _,by simp,Nat.le_refl _⟩;have:(w.alloc (.cells (madeU 16) 5)).cell? ⟨w.heap.size,j,none⟩=(madeU 16)[j]?:=by simp[go_sem]
   rw[this,madeU_get j hj];unfold dgF;rw[if_neg (by omega)];rfl
  case round =>
   obtain⟨t,ht,rfl,rfl,hr,hb2,hlb,hbo⟩:=hrel
   by_cases hlt2:t<16
   ·have hdv:H / 16 ^ t<fnvM:=Nat.lt_of_le_of_lt (Nat.div_le_self _ _) hHl;have hst:=dgF_step H t hlt2;have hnx:H / 16 ^ (t+1)=H / 16 ^ t / 16:=by rw[Nat.pow_succ,Nat.div_div_eq_div_mul]
    have hpt:=hr.put (k:=15-t) (by omega) hst;obtain⟨g0,g1⟩:=hr (15-t) (by omega);obtain⟨v,hv⟩:∃ v,H / 16 ^ t=v:=⟨_,rfl⟩;rw[hv]at hdv hpt hnx ⊢;have ha:=and15 v hdv;have hm16:v % 16<16:=Nat.mod_lt _ (by omega);obtain⟨q,hq⟩:∃ q,v % 16=q:=⟨_,rfl⟩;rw[hq]at ha hpt hm16;have hsub:IntKind.i64.wrap (15-(t:Int))=((15-t:Nat):Int):=by rw[IntWalk.i64_in _ (by omega)];omega
    have hsub2:(15:Int)-(t:Int)=((15-t:Nat):Int):=by omega
    unfold fnvM at hdv;obtain⟨hrH,hvH,hstH,hptH,hb2H,hqH,hnxH⟩:=hq2 hr (hq2 hv (hqb hst hpt hb2 hq (Lib.hid hnx)));clear hr hv hst hpt hb2 hq hnx;go_wp2;rw[hexS_get q (by assumption)];refine⟨⟨t+1,by omega,by go_num,congrArg (Value.int .u64) (by rw[hnxH.out];omega),hptH.out,hb2H.out.setCell (Nat.le_refl _) _,by simpa using hlb,Nat.le_refl _⟩,by simp[intOf];omega⟩
   ·obtain rfl:t=16:=by omega
    have hcv:=run_convert_bytes_back (P:=Tryz.prog) wr 39 9 5 ⟨w.heap.size,0,none⟩ 16 (hex16 H) Tryz.underlying39 Tryz.underlying5 Tryz.underlying9 (fun j hj=>by
     rw[hex16_len]at hj;have:=(hr j hj).1;rw[Addr.add_lit,Nat.zero_add,this];have e:(hex16 H)[j]? = some (digN H j):=hex16_at hj;obtain⟨_,e2⟩:=List.getElem_of_getElem? e;rw[e2];unfold dgF;rw[if_pos (by omega)])
    rw[hex16_len]at hcv;have hres:(⟨(hex16 H).toArray⟩:ByteArray)=digF []:=by unfold digF;rw[hHH.out]
    rw[hres]at hcv;clear hr hres;have hb2H:=Lib.hid hb2;clear hb2;go_wp2;go_ret;exact⟨rfl,hb2H.out⟩
theorem digest_any (A:Option Addr) (n c:Nat) (l:List UInt8) (w:World) (h:SlAt RU8 w A n l) (hn:n≤1000000000000) :
  Calls Tryz.prog 18 #[.slice A n c] w fun e w'=>e = .returned (.string (digF l))∧Below w.heap.size w w':=by
 rcases Nat.eq_zero_or_pos n with h0 | h0
 ·subst h0;obtain rfl:l = []:=List.eq_nil_of_length_eq_zero h.1;exact digest_zero A c w
 ·obtain⟨b,off,rfl,hc⟩:=h.2.1 h0;have hl:=h.1;obtain⟨x,hx⟩:∃ x,l[0]? = some x:=⟨l[0]'(by omega),List.getElem?_eq_getElem _⟩;exact digest_bytes b off n c l w hl (fun j y hj=>cell_U8 h hj) (cell?_lt (cell_U8 h hx)) (by omega)
def Elem (P:Program) (e:TypeId) (size bytes:Nat):Prop:=∃ i z,P.info? e=some i∧i.zero=some z∧i.size=size∧i.bytes=bytes∧z.cells.size=size
theorem elem_of {P:Program} {e:TypeId} {z:Value} {size bytes:Nat} (h:(P.info? e).map (fun i=>(i.zero,i.size,i.bytes))=some (some z,size,bytes)) (hz:z.cells.size=size):Elem P e size bytes:=by
 obtain⟨i,h1,h2,h3,h4⟩:=info_parts h;exact⟨i,z,h1,h2,h3,h4,hz⟩
def Own {α:Type} (R:Rd α) (e:TypeId) (w:World) (base:Nat) (v:Value) (l:List α):Prop :=
 w.ownsRow base e R.size v l.length (l.flatMap R.vals)∧∀ x∈l,R.ok w x
section
variable {α:Type} {R:Rd α} {e:TypeId} {w w':World} {base:Nat} {v:Value} {l:List α}
theorem Own.nil (w:World) (base:Nat):Own R e w base (.slice none 0 0) []:=⟨World.ownsRow_nil w base e R.size,fun _ h=>by cases h⟩
theorem flatMap_vals_length (l:List α):(l.flatMap R.vals).length=l.length*R.size:=by
 induction l with
 | nil=>simp
 | cons x l ih=>rw[List.flatMap_cons,List.length_append,ih,R.len,List.length_cons,Nat.add_mul,Nat.one_mul,Nat.add_comm]
theorem flatMap_vals_get (l:List α) (i j:Nat) (x:α) (u:Value) (hx:l[i]? = some x) (hu:(R.vals x)[j]? = some u):(l.flatMap R.vals)[i*R.size+j]? = some u:=by
 induction l generalizing i with
 | nil=>cases hx
 | cons y l ih =>
  rw[List.flatMap_cons]
  cases i with
  | zero =>
   simp at hx;subst hx;rw[Nat.zero_mul,Nat.zero_add,List.getElem?_append_left (List.getElem?_eq_some_iff.1 hu).1];exact hu
  | succ i =>
   rw[List.getElem?_append_right (by rw[R.len,Nat.add_mul];omega),R.len,show (i+1)*R.size+j-R.size=i*R.size+j by rw[Nat.add_mul];omega];exact ih i (by simpa using hx)
theorem Own.form (h:Own R e w base v l):∃ A cap,v = .slice A l.length cap:=by
 rcases h.1.2 with ⟨rfl,hn⟩ | ⟨g,cap,cur,rfl,_⟩
 ·exact⟨none,0,by rw[hn]⟩
 ·exact⟨_,cap,rfl⟩
theorem Own.len {A:Option Addr} {n cap:Nat} (h:Own R e w base (.slice A n cap) l):l.length=n:=by
 obtain⟨A',cap',hv⟩:=h.form;injection hv with _ h2 _;exact h2.symm
theorem Own.cap_le {A:Option Addr} {n cap:Nat} (h:Own R e w base (.slice A n cap) l):n≤cap:=by
 have hl:=h.len
 rcases h.1.2 with ⟨hv,_⟩ | ⟨g,cap',cur,hv,_,_,hle,_⟩
 ·injection hv with _ h2 h3;omega
 ·injection hv with _ _ h3;omega
theorem Own.slAt {A:Option Addr} {n cap:Nat} (h:Own R e w base (.slice A n cap) l):SlAt R w A n l:=by
 refine⟨h.len,fun hn=>?_,h.2⟩
 rcases h.1.2 with ⟨hv,_⟩ | ⟨g,cap',cur,hv,_⟩
 ·injection hv with _ h2 _;omega
 ·injection hv with h1 h2 h3;subst h1;refine⟨g,0,rfl,fun i x hx j u hu=>?_⟩;have:=h.1.cells (g:=g) rfl (i*R.size+j) u (flatMap_vals_get l i j x u hx hu);rw[Addr.add_lit,← Nat.add_assoc]at this;exact this
theorem Own.kept {row:Option Nat} (h:Own R e w base v l) (hg:w.grownBy w' row) (hne:v.ownBlock=none∨v.ownBlock≠row) (hok:∀ x∈l,R.ok w x→R.ok w' x):Own R e w' base v l :=
 ⟨h.1.kept hg hne,fun x hx=>hok x hx (h.2 x hx)⟩
theorem Own.below (h:Own R e w base v l) (hb:Below w.heap.size w w'):Own R e w' base v l :=
 ⟨h.1.kept (row:=none) ⟨hb.os,hb.tape,hb.output,hb.size,fun k hk _=>hb.block k hk⟩ (by
  cases hv:v.ownBlock
  ·exact .inl rfl
  ·exact .inr (by simp)),fun x hx=>R.mono _ _ _ hb (h.2 x hx)⟩
theorem slAt_new (w:World) (e:TypeId) (x:α) (hok:R.ok w x):SlAt R (w.alloc (.cells (R.vals x).toArray e)) (some ⟨w.heap.size,0,none⟩) 1 [x]:=by
 refine⟨rfl,fun _=>⟨_,_,rfl,fun i y hy j u hu=>?_⟩,fun y hy=>?_⟩
 ·cases i with
  | zero =>
   simp at hy;subst hy
   simpa[go_sem]using hu
  | succ i=>simp at hy
 ·simp at hy;subst hy;exact R.mono _ _ _ ((Below.refl _ _).alloc (Nat.le_refl _) _) hok
theorem wpList_app {P:Program} {ops:Array Oper} {rest:List Oper} {o:Oper} {a:Act} {Q:Exit→Act→World→Prop} (hgd:o.guard=none) (s x:Operand) (t:TypeId)
  (ho:o.op = .call { callee:=.builtin .append,args:=#[s,x],argTypes:=#[t,t] })
  {bytes:Nat} (ht:P.underlying t=some (.slice e)) (hE:Elem P e R.size bytes) (hsz:0<R.size)
  (hs:a.eval s=v) (hown:Own R e w base v l) (A:Option Addr) (m c:Nat) (l2:List α) (hx:a.eval x = .slice A m c) (h2:SlAt R w A m l2) (hn:m=0→A=none→c=0)
  (hok:∀ w',w.grownBy w' v.ownBlock→∀ y,y∈l++l2→R.ok w y→R.ok w' y)
  (h63:l.length+m≤maxLen) (hbytes:(l.length+m)*bytes≤140737488355328) (hbase:base≤w.heap.size)
  (N:Nat) (hN:l.length+m=N)
  (h:∀ A' c' w',Own R e w' base (.slice A' N c') (l++l2)→w.grownBy w' v.ownBlock→(Value.ownBlock (.slice A' N c')=v.ownBlock∨Value.ownBlock (.slice A' N c')=some w.heap.size) →
   Below base w w'→wpList P ops Q rest (a.put o.dst (.slice A' N c')) w') :
  wpList P ops Q (o::rest) a w:=by
 subst hN;obtain⟨i,z,hi,hz,hz1,hz2,hz3⟩:=hE;have below_of:∀ w',w.grownBy w' v.ownBlock→Below base w w':=fun w' hg=>(Below.refl _ _).grown hg hbase fun k hk=>(hown.1.lt k hk).1
 cases A with
 | none =>
  have hm:m=0:=by
   rcases Nat.eq_zero_or_pos m with h0 | h0
   ·exact h0
   ·obtain⟨_,_,h,_⟩:=h2.2.1 h0
    cases h
  subst hm;obtain rfl:=hn rfl rfl;obtain rfl:l2 = []:=List.eq_nil_of_length_eq_zero h2.1;obtain⟨A',c',rfl⟩:=hown.form;refine wpList_append_own_none hgd s x t ho base e i R.size ht hi (.slice A' l.length c') l.length (l.flatMap R.vals) hs hown.1 hx ?_;exact h A' c' w (by rw[List.append_nil];exact hown) (World.grownBy.refl _ _) (.inl rfl) (below_of _ (World.grownBy.refl _ _))
 | some ad =>
  have hcells:∀ j u,(l2.flatMap R.vals)[j]? = some u→w.cell? (ad.add j)=some u:=by
   intro j u hu;have hj:j<l2.length*R.size:=by rw[← flatMap_vals_length];exact(List.getElem?_eq_some_iff.1 hu).1
   have hm:0<m:=by
    rcases Nat.eq_zero_or_pos m with h0 | h0
    ·rw[h2.1,h0]at hj;simp at hj
    ·exact h0
   obtain⟨b,off,hA,hc⟩:=h2.2.1 hm;injection hA with hA;subst hA;have hi':j / R.size<l2.length:=Nat.div_lt_of_lt_mul (by rw[Nat.mul_comm];exact hj);have hjr:j % R.size<R.size:=Nat.mod_lt _ hsz;have hje:j=j / R.size*R.size+j % R.size:=by rw[Nat.mul_comm];exact(Nat.div_add_mod j R.size).symm
   have hget:(R.vals l2[j / R.size])[j % R.size]? = some u:=by
    have hv:∃ u',(R.vals l2[j / R.size])[j % R.size]? = some u':=⟨_,List.getElem?_eq_getElem (by rw[R.len];exact hjr)⟩;obtain⟨u',hu'⟩:=hv;have:=flatMap_vals_get l2 (j / R.size) (j % R.size) _ u' (List.getElem?_eq_getElem hi') hu';rw[← hje,hu]at this;rw[hu',this]
   have:=hc (j / R.size) _ (List.getElem?_eq_getElem hi') (j % R.size) u hget;rw[Nat.add_assoc,← hje]at this;rw[Addr.add_lit];exact this
  refine wpList_append_own_at w hgd s x t ho base e i z R.size bytes ht hi hz hz1 hz2 hz3 hsz v l.length (l.flatMap R.vals) hs hown.1 ad m c (l2.flatMap R.vals) hx (by rw[flatMap_vals_length,h2.1]) hcells
   (fun u hu=>by obtain⟨y,_,hy⟩:=List.mem_flatMap.1 hu;exact R.one y u hy) h63 hbytes hbase ?_
  intro v' w' h3 hg _ hat;have hbw:=below_of _ hg;obtain⟨A',c',hv'⟩:∃ A' c',v' = .slice A' (l.length+m) c':=by
   rcases h3.2 with ⟨rfl,hn'⟩ | ⟨g,cap,cur,rfl,_⟩
   ·exact⟨none,0,by rw[hn']⟩
   ·exact⟨_,cap,rfl⟩
  subst hv';refine h A' c' w' ⟨?_,fun y hy=>?_⟩ hg hat hbw
  ·rw[List.length_append,h2.1,List.flatMap_append];exact h3
  ·rcases List.mem_append.1 hy with hy | hy
   ·exact hok w' hg y (List.mem_append.2 (.inl hy)) (hown.2 y hy)
   ·exact hok w' hg y (List.mem_append.2 (.inr hy)) (h2.2.2 y hy)
theorem Own.empty (w:World):Own R e (w.alloc (.cells #[] e)) w.heap.size (.slice (some ⟨w.heap.size,0,none⟩) 0 0) []:=by
 refine⟨?_,fun _ h=>by cases h⟩;have:=World.ownsRow_made w #[] 0 (base:=w.heap.size) (e:=e) (size:=R.size) (Nat.le_refl _) (Nat.zero_le _) (by simp)
 simpa using this
end
end Go.Proofs.YtpdjjjiknijpkaaGreatDoor
namespace Go.Proofs.YtpdjjjiknijpkaaGreatDoor
open Go.RowKit
section
variable {P:Program} {ops:Array Oper} {Q:Exit→Act→World→Prop} {md:Region.Mode}
def wpAnyR (P:Program) (md:Region.Mode) (ops:Array Oper) (Q:Exit→Act→World→Prop) (R:Nat→World→World→Prop):Nat→Array Bool→Act→World→Prop
 | 0,listed,a,w=>Region.ready md ops listed = []∧Q .normal a w
 | fuel+1,listed,a,w =>
  (Region.ready md ops listed = []→Q .normal a w) ∧
  ∀ i∈Region.ready md ops listed,wpOp P ops Q i (fun a' w'=>R i w w'∧wpAnyR P md ops Q R fuel (listed.setIfInBounds i true) a' w') a w
theorem wpAny_of_R {R:Nat→World→World→Prop}:∀ (fuel:Nat) (listed:Array Bool) (a:Act) (w:World),wpAnyR P md ops Q R fuel listed a w→wpAny P md ops Q fuel listed a w
 | 0,_,_,_,h=>h
 | fuel+1,_,_,_,h=>⟨h.1,fun i hi=>wpOp_mono (fun a' w' h'=>wpAny_of_R fuel _ a' w' h'.2) (h.2 i hi)⟩
theorem wpAnyR_first {R:Nat→World→World→Prop} {Si:World→Prop} {i:Nat} {oi:Oper} {v:Value} (hi:ops[i]? = some oi) (hsel:∀ (j:Nat) (o:Oper) cs b,ops[j]? = some o→o.op≠.select cs b)
  (hQ:∀ c a w,Q (.panic c) (a.put oi.dst v) w→Q (.panic c) a w) (hR:∀ w,R i w w)
  (hw:∀ j oj,ops[j]? = some oj→(∀ e∈oj.after,Region.binds md e=true→e.on≠i)→∀ w w',R j w w'→Si w→Si w') :
  ∀ (fuel:Nat) (listed:Array Bool) (a:Act) (w:World),
   (∀ j oj,ops[j]? = some oj→j≠i→listed.getD j true=false→(∀ e∈oj.after,Region.binds md e=true→e.on≠i)→oi.apart ops oj=true) →
   i∈Region.ready md ops listed→YieldsIf P ops Si oi v a→Si w →
   wpAnyR P md ops Q R fuel (listed.setIfInBounds i true) (a.put oi.dst v) w→wpAnyR P md ops Q R (fuel+1) listed a w:=by
 intro fuel
 induction fuel with
 | zero =>
  intro listed a w _ hr hy hS H;refine⟨fun h=>(by rw[h]at hr;cases hr),fun j hj=>?_⟩
  by_cases hji:j=i
  ·subst hji;exact hy.wpOp hi hS ⟨hR _,H⟩
  ·have:=ready_mono hj hji;rw[H.1]at this
   cases this
 | succ fuel ih =>
  intro listed a w hfree hr hy hS H;refine⟨fun h=>(by rw[h]at hr;cases hr),fun j hj=>?_⟩
  by_cases hji:j=i
  ·subst hji;exact hy.wpOp hi hS ⟨hR _,H⟩
  ·have h1:=H.2 j (ready_mono hj hji);obtain⟨hjun,oj,hoj,hall⟩:=mem_ready.1 hj;have hnot:∀ e∈oj.after,Region.binds md e=true→e.on≠i:=fun e he hb heq=>by
    have h1:=hall e he hb;have h0:=(mem_ready.1 hr).1;rw[heq]at h1
    rcases Nat.lt_or_ge i listed.size with h' | h'
    ·simp[h']at h0 h1;rw[h0]at h1;cases h1
    ·simp[Array.getElem?_eq_none h']at h1
   have h2:=wpOp_putIf hoj (hfree j oj hoj hji hjun hnot) (fun cs b=>hsel i oi cs b hi) (fun cs b=>hsel j oj cs b hoj) hQ hy h1;have hfree':∀ k ok,ops[k]? = some ok→k≠i→(listed.setIfInBounds j true).getD k true=false →
     (∀ e∈ok.after,Region.binds md e=true→e.on≠i)→oi.apart ops ok=true:=fun k ok hk hki hun hno=>by
    refine hfree k ok hk hki ?_ hno
    by_cases hjk:j=k
    ·subst hjk;exact hjun
    ·rw[getD_set_ne true hjk]at hun;exact hun
   refine wpOp_mono (fun a' w' h3=>⟨h3.2.1,ih (listed.setIfInBounds j true) a' w' hfree' (ready_mono hr (Ne.symm hji)) h3.1 (hw j oj hoj hnot _ _ h3.2.1 hS) ?_⟩) h2;rw[Array.setIfInBounds_comm _ _ hji];exact h3.2.2
def Rk (F C:World→Prop) (j1 j2:Nat) (j:Nat) (w w':World):Prop:=(j≠j2→j≠j1→F w→F w')∧(j≠j2→C w→C w')
theorem Rk.refl {F C:World→Prop} {j1 j2 j:Nat} (w:World):Rk F C j1 j2 j w w:=⟨fun _ _ h=>h,fun _ h=>h⟩
def waits (md:Region.Mode) (ops:Array Oper) (j i:Nat):Bool:=match ops[j]? with
 | some o=>o.after.any fun e=>Region.binds md e&&e.on==i
 | none=>true
theorem waits_not {j i:Nat} {oj:Oper} (hj:ops[j]? = some oj) (h:waits md ops j i=true) (hn:∀ e∈oj.after,Region.binds md e=true→e.on≠i):False:=by
 unfold waits at h;rw[hj]at h;simp only[Array.any_eq_true,Bool.and_eq_true,beq_iff_eq]at h;obtain⟨k,hk,hb,he⟩:=h;exact hn _ (Array.getElem_mem hk) hb he
theorem takeF {F C:World→Prop} {j1 j2 i:Nat} {d:Option Tmp} {oi:Oper} {v:Value} {fuel:Nat} {listed:Array Bool} {a:Act} {w:World} (hi:ops[i]? = some oi) (hd:oi.dst=d)
  (hs:Region.noSelect ops=true) (hf:Region.free md ops listed i=true) (hr:(Region.ready md ops listed).contains i=true) (h1:waits md ops j1 i=true) (h2:waits md ops j2 i=true)
  (hQ:∀ c a w,Q (.panic c) (a.put d v) w→Q (.panic c) a w) (hy:YieldsIf P ops F oi v a) (hS:F w)
  (h:wpAnyR P md ops Q (Rk F C j1 j2) fuel (listed.setIfInBounds i true) (a.put d v) w):wpAnyR P md ops Q (Rk F C j1 j2) (fuel+1) listed a w:=by
 subst hd;refine wpAnyR_first (Si:=F) hi (Region.noSelect_spec hs) hQ Rk.refl (fun j oj hj hn w w' hw hF=>hw.1 (fun e=>?_) (fun e=>?_) hF) fuel listed a w (Region.free_spec hi hf) (by simpa using hr) hy hS h
 ·subst e;exact waits_not hj h2 hn
 ·subst e;exact waits_not hj h1 hn
theorem takeC {F C:World→Prop} {j1 j2 i:Nat} {d:Option Tmp} {oi:Oper} {v:Value} {fuel:Nat} {listed:Array Bool} {a:Act} {w:World} (hi:ops[i]? = some oi) (hd:oi.dst=d)
  (hs:Region.noSelect ops=true) (hf:Region.free md ops listed i=true) (hr:(Region.ready md ops listed).contains i=true) (h2:waits md ops j2 i=true)
  (hQ:∀ c a w,Q (.panic c) (a.put d v) w→Q (.panic c) a w) (hy:YieldsIf P ops C oi v a) (hS:C w)
  (h:wpAnyR P md ops Q (Rk F C j1 j2) fuel (listed.setIfInBounds i true) (a.put d v) w):wpAnyR P md ops Q (Rk F C j1 j2) (fuel+1) listed a w:=by
 subst hd;refine wpAnyR_first (Si:=C) hi (Region.noSelect_spec hs) hQ Rk.refl (fun j oj hj hn w w' hw hC=>hw.2 (fun e=>?_) hC) fuel listed a w (Region.free_spec hi hf) (by simpa using hr) hy hS h;subst e;exact waits_not hj h2 hn
def TF (L:List (Nat × Nat)) (p:Prop):Prop:=p
theorem tfS {p:Prop} (L:List (Nat × Nat)) (h:TF L p):p:=h
theorem tfE {p:Prop} (h:p):TF [] p:=h
theorem tfL {F C:World→Prop} {j1 j2 i dd:Nat} {L:List (Nat × Nat)} {oi:Oper} {v:Value} {fuel:Nat} {listed:Array Bool} {a:Act} {w:World} (hi:ops[i]? = some oi:=by rfl) (hd:oi.dst=some dd:=by rfl)
  (hs:Region.noSelect ops=true:=by kernel_rfl) (hf:Region.free md ops listed i=true:=by kernel_rfl) (hr:(Region.ready md ops listed).contains i=true:=by kernel_rfl) (h1:waits md ops j1 i=true:=by kernel_rfl) (h2:waits md ops j2 i=true:=by kernel_rfl)
  (hQ:∀ c a w,Q (.panic c) (a.put (some dd) v) w→Q (.panic c) a w:=by exact fun _ _ _ h=>h) (hy:YieldsIf P ops F oi v a) (hS:F w)
  (h:TF L (wpAnyR P md ops Q (Rk F C j1 j2) fuel (listed.setIfInBounds i true) (a.put (some dd) v) w)):TF ((i,dd)::L) (wpAnyR P md ops Q (Rk F C j1 j2) (fuel+1) listed a w) :=
 takeF hi hd hs hf hr h1 h2 hQ hy hS h
theorem oneR {R:Nat→World→World→Prop} {i:Nat} {o:Oper} {fuel:Nat} {listed:Array Bool} {a:Act} {w:World} (hr:Region.ready md ops listed = [i]) (ho:ops[i]? = some o)
  (h:∀ K':Act→World→Prop,Shut (∀ a' w',R i w w'→wpAnyR P md ops Q R fuel (listed.setIfInBounds i true) a' w'→K' a' w')→if Region.wanted o (yielded ops a.tmps)=true then Oper.wp P o a w K' Q else K' (a.put o.dst undef) w) :
  wpAnyR P md ops Q R (fuel+1) listed a w:=by
 refine⟨fun h0=>absurd (hr ▸ h0) (by simp),fun j hj=>?_⟩;rw[hr,List.mem_singleton]at hj;subst hj;exact wpOp_step ho (fun K' hK=>h K' (fun a' w' h1 h2=>hK a' w' ⟨h1,h2⟩))
theorem doneR {R:Nat→World→World→Prop} {listed:Array Bool} {a:Act} {w:World} (hr:Region.ready md ops listed = []) (h:Q .normal a w):∀ fuel,wpAnyR P md ops Q R fuel listed a w
 | 0=>⟨hr,h⟩
 | _+1=>⟨fun _=>h,by rw[hr];simp⟩
theorem startR {R:Nat→World→World→Prop} {id:Nat} {a:Act} {w:World} (hm:P.follows .mixedOrders=true)
  (h:wpAnyR P .any ops Q R ops.size (Array.replicate ops.size false) a w.drew):(Code.region id ops true).wp P Q a w :=
 wp_region_any hm (wpAny_of_R _ _ _ _ h)
end
end Go.Proofs.YtpdjjjiknijpkaaGreatDoor
namespace Go.Proofs.YtpdjjjiknijpkaaGreatDoor
open Go.ChangeShapes Go.WideShapes Go.Deep Go.RowKit
theorem elem_U8:Elem Tryz.prog 5 RU8.size 1:=elem_of (z:=.int .u8 0) (by kernel_rfl) (by decide)
theorem clone_bytes (A:Option Addr) (m c:Nat) (l:List UInt8) (w:World) (h:(RSl RU8).ok w ⟨A,m,c,l⟩) (hm:m≤140737488355328) :
  Calls Tryz.prog 63 #[.slice A m c] w fun e w' =>
   ∃ A' c',e = .returned (.slice A' m c')∧Own RU8 5 w' w.heap.size (.slice A' m c') l∧Below w.heap.size w w':=by
 obtain⟨h,h1,h2,h3⟩:=h;simp only at h h1 h2 h3
 cases A with
 | none =>
  obtain rfl:c=0:=h3 rfl;obtain rfl:m=0:=by omega
  obtain rfl:l = []:=List.eq_nil_of_length_eq_zero h.1;clear h h1 h2 h3;have he:=fun W:World=>Lib.run_eql_slice_nil (P:=Tryz.prog) W 39 5 none 0 0 0 0 Tryz.underlying39;go_enter Tryz.func63,Tryz.ntmps63;go_wp2;go_ret;exact⟨none,0,rfl,Own.nil _ _,Below.refl _ _⟩
 | some ad =>
  clear h1 h2 h3;have hH:=Lib.hid h;clear h;have he:=fun W:World=>Lib.run_eql_slice_nil (P:=Tryz.prog) W 39 5 (some ad) m c 0 0 Tryz.underlying39;go_enter Tryz.func63,Tryz.ntmps63;go_wp2_with (at_builtin;go_loud (refine wpList_app rfl (.tmp 5) (.tmp 6) 39 rfl Tryz.underlying39 elem_U8 (by decide) rfl (Own.empty w) (some ad) m c l rfl ?rd ?nn ?ok ?c1 ?c2 ?c3 m ?c4 ?_))
  case rd=>exact hH.out.below ((Below.refl _ _).alloc (Nat.le_refl _) _)
  case nn=>intro _ h;cases h
  case ok=>exact fun _ _ _ _ _=>trivial
  case c1=>simp[maxLen];omega
  case c2=>simp;omega
  case c3=>simp
  case c4=>simp
  intro A' c' w1 hown hg hat hb;go_wp2;go_ret;exact⟨A',c',rfl,hown,((Below.refl _ _).alloc (Nat.le_refl _) _).trans hb⟩
end Go.Proofs.YtpdjjjiknijpkaaGreatDoor
namespace Go.Proofs.YtpdjjjiknijpkaaGreatDoor
open Go.RowKit
def MaxLenAt (w:World):Prop:=∃ m:Int,w.cell? ⟨0,0,none⟩=some (.int .i64 m)
theorem MaxLenAt.below {w w':World} (h:MaxLenAt w) (hb:Below w.heap.size w w'):MaxLenAt w':=by
 obtain⟨m,hm⟩:=h;exact⟨m,(hb.cell (cell?_lt hm)).trans hm⟩
theorem splitB_size (sep:ByteArray):∀ (k:Nat) (s x:ByteArray),x∈Lib.splitB sep 0 k s→x.size≤s.size
 | 0,s,x,h=>by
  rw[Lib.splitB_zero]at h;simp only[List.mem_singleton]at h;subst h;exact Nat.le_refl _
 | k+1,s,x,h=>by
  unfold Lib.splitB at h
  split at h
  ·simp only[List.mem_singleton]at h;subst h;exact Nat.le_refl _
  ·rcases List.mem_cons.1 h with rfl | h
   ·simp only[ByteArray.size_extract];omega
   ·have:=splitB_size sep k _ x h;simp only[ByteArray.size_extract]at this;omega
theorem cell_Str {w:World} {b off m k:Nat} {l:List ByteArray} {x:ByteArray} (h:SlAt RStr w (some ⟨b,off,none⟩) m l) (hx:l[k]? = some x):w.cell? ⟨b,off+k,none⟩=some (.string x):=by
 have hk:=(List.getElem?_eq_some_iff.1 hx).1;obtain⟨b',off',hA,hc⟩:=h.2.1 (by have:=h.1;omega);obtain⟨rfl,rfl⟩:b=b'∧off=off':=by simpa using hA
 have:=hc k x hx 0 _ rfl
 simpa[RStr]using this
def wordsOf (s:ByteArray):List ByteArray:=Lib.splitB ⟨#[32]⟩ 0 (Lib.countB s ⟨#[32]⟩) s
theorem words_size {s x:ByteArray} (h:x∈wordsOf s):x.size≤s.size:=splitB_size _ _ _ _ h
theorem words_len (s:ByteArray):(wordsOf s).length=Lib.countB s ⟨#[32]⟩+1:=Lib.splitB_all _ (by decide) 0 _ s rfl
theorem split_sp (s:ByteArray) (w:World) (hm:MaxLenAt w) (hs:s.size<4294967281) :
  Calls Tryz.prog 68 #[.string s,.string ⟨#[32]⟩] w fun e w'=>∃ n:Nat,e = .returned (.slice (some ⟨w.heap.size,0,none⟩) n n)∧SlAt RStr w' (some ⟨w.heap.size,0,none⟩) n (wordsOf s)∧Below w.heap.size w w':=by
 obtain⟨m,hm⟩:=hm;refine(Tryz.strings_Split s ⟨#[32]⟩ m w hs hm (by decide)).mono ?_;rintro e w' ⟨rfl,rfl⟩;refine⟨_,rfl,⟨words_len s,fun _=>⟨_,_,rfl,fun i x hx j v hv=>?_⟩,fun x hx=>?_⟩,(Below.refl _ _).alloc (Nat.le_refl _) _⟩
 ·match j,hv with
  | 0,hv =>
   simp only[RStr,List.getElem?_cons_zero,Option.some.injEq]at hv;subst hv;have:((wordsOf s).map Value.string)[i]? = some (.string x):=by rw[List.getElem?_map,hx];rfl
   simp only[RStr,Nat.mul_one,Nat.zero_add,Nat.add_zero];rw[cell_new]
   simpa[wordsOf]using this
  | n+1,hv=>simp[RStr]at hv
 ·have:=words_size hx;show x.size≤maxLen;unfold maxLen;omega
end Go.Proofs.YtpdjjjiknijpkaaGreatDoor