/-
 Several texts of mine as one, without what is not wanted here: XExJ, XAppS, XExN.
-/
import Derived.Test.YtdiaabeollcjaaaGreatDoorTlCC10
import Derived.Lib.AppendStr
import Derived.Test.YtdiaabeollcjaaaGreatDoorTlBC10
set_option linter.unusedVariables false
set_option linter.unusedSimpArgs false
set_option maxRecDepth 100000
set_option maxHeartbeats 8000000
namespace Go.Proofs.YtdiaabeollcjaaaGreatDoor.C10
open Go.ChangeShapes Go.WideShapes Go.Deep Go.RowKit Go.Maps
theorem elem_U8:Elem Tryz.prog 5 RU8.size 1:=elem_of (z:=.int .u8 0) (by kernel_rfl) (by decide)
theorem own_capx {α:Type} {R:Rd α} {e:TypeId} {w:World} {base:Nat} {l:List α} {A:Option Addr} {n cap:Nat} (h:Own R e w base (.slice A n cap) l):(A=none→cap=0)∧cap≤maxLen∧∀ ad,A=some ad→base≤ad.block:=by
 rcases h.1.2 with ⟨hv,_⟩ | ⟨g,cap',cur,hv,hb,_,_,hm,_⟩
 ·injection hv with h1 h2 h3;subst h1;subst h3;exact⟨fun _=>rfl,Nat.zero_le _,fun ad h=>(by cases h)⟩
 ·injection hv with h1 h2 h3;subst h1;subst h3;exact⟨fun h=>(by cases h),hm,fun ad h=>(by injection h with h;subst h;exact hb)⟩
theorem own_bts {e:TypeId} {w:World} {base:Nat} {l:List UInt8} {A:Option Addr} {n cap:Nat} {S:Nat→Prop} (h:Own RU8 e w base (.slice A n cap) l) (hS:∀ k,S k→k<base):Bts S w A n cap l :=
 ⟨⟨h.slAt,h.cap_le,(own_capx h).2.1,(own_capx h).1⟩,fun _ ad hA hs=>by have:=(own_capx h).2.2 ad hA;have:=hS _ hs;omega⟩
theorem WA.strs {W0:World} {n T:Nat} {x:Action} {I:Inp} {s:ES} {cl:Nat} {w:World} (h:WA W0 n T x I s cl w) {A:Option Addr} {m:Nat} {L:List ByteArray} (hL:SlAt RStr W0 A m L):SlAt RStr w A m L:=hL.below h.bel
def BcAns (W0:World) (n T:Nat) (x:Action) (I:Inp) (r:(List UInt8 × Int) × ES) (M D cl:Nat) (w:World) (e:Ending) (w':World):Prop :=
 ∃ A m c cl',e = .returned (.tuple #[.slice A m c,.int .i64 r.1.2])∧Bts (WS n) w' A m c r.1.1∧r.1.1.length≤M∧(0≤r.1.2∧r.1.2≤999999)∧WA W0 n T x I r.2 cl' w'∧cl'≤cl+D∧Kp (WS n) w w'
def JoinRel (E:EP) (W0:World) (n T:Nat) (x:Action) (I:Inp) (L:List ByteArray) (r:(List UInt8 × Int) × ES) (cl:Nat) (w:World) (v i:Value) (wr:World):Prop :=
 ∃ (k:Nat) (out:List UInt8) (s':ES) (cl':Nat) (A:Option Addr) (m c:Nat),k≤L.length∧i = .int .i64 k∧v = .slice A m c∧Own RU8 5 wr w.heap.size v out∧out.length≤100000*k∧joinedM E (L.drop k) out I s'=r ∧
  WA W0 n T x I s' cl' wr∧cl'≤cl+k∧Kp (WS n) w wr
theorem joined_any (E:EP) (hd:E.dg=digF) (W0:World) (n T:Nat) (x:Action) (I:Inp) (AL:Option Addr) (mL cL:Nat) (L:List ByteArray) (hL:SlAt RStr W0 AL mL L) (hmL:mL≤50) (s:ES) (cl:Nat) (hcl:cl≤900000) (w:World) (hw:WA W0 n T x I s cl w) (r:(List UInt8 × Int) × ES) (hr0:joinedM E L [] I s=r) :
  Calls Tryz.prog 89 #[.pointer (some ⟨n+3,0,none⟩),.slice AL mL cL] w (BcAns W0 n T x I r (100000*L.length) L.length cl w):=by
 obtain⟨Z,hZ⟩:∃ Z,BcAns W0 n T x I r (100000*L.length) L.length cl w=Z:=⟨_,rfl⟩;have hZ':∀ e W,BcAns W0 n T x I r (100000*L.length) L.length cl w e W→Z e W:=fun e W h=>by rw[← hZ];exact h
 rw[hZ];clear hZ;have hlL:=hL.1;have hst:JoinRel E W0 n T x I L r cl w (.slice none 0 0) (.int .i64 0) w:=⟨0,[],s,cl,none,0,0,Nat.zero_le _,rfl,rfl,Own.nil _ _,Nat.zero_le _,hr0,hw,by omega,Kp.refl _ _⟩;have hwl:=hw.lt;clear hr0;obtain⟨hZ'H,hwH,hLH,hlLH,hstH⟩:=hqb hZ' hw hL hlL (Lib.hid hst);clear hZ' hw hL hlL hst;go_enter Tryz.func89,Tryz.ntmps89;go_wp2_with fail
 go_loopw [6,13] (fun v i wr=>JoinRel E W0 n T x I L r cl w v i wr) (fun _ i _=>mL-(intOf i).toNat)
 case atStart=>exact hstH.out
 case round =>
  clear hstH;obtain⟨k,out,s',cl',A,m,c,hk,rfl,rfl,hown,hol,heq,hA,hcl',hkp⟩:=hrel;have hkm:k≤mL:=by have:=hlLH.out;omega
  have hksz:=hkp.size
  by_cases hlt:k<mL
  ·obtain⟨y,hy⟩:∃ y,L[k]? = some y:=⟨L[k]'(by have:=hlLH.out;omega),List.getElem?_eq_getElem _⟩;have hsl:=hA.strs hLH.out;obtain⟨bl,ol,hAL,_⟩:=hsl.2.1 (by omega);subst hAL;have cy:=cell_Str hsl hy;have hyz:y.size≤maxLen:=hsl.2.2 y (List.mem_of_getElem? hy);rw[drop_cons hy]at heq;have hkl2:k+1≤L.length:=by have:=hlLH.out;omega
   clear hsl;obtain⟨hyH,hyzH,heqH,hownH,hAH,hkpH,hkl2H⟩:=hq2 hy (hq2 hyz (hqb heq hown hA hkp (Lib.hid hkl2)));clear hy hyz heq hown hA hkp hkl2;go_wp2_with fail;refine(read_any E hd W0 n T x I y hyzH.out s' cl' (by omega) wr hAH.out).mono ?_;rintro e w1 ⟨A1,m1,c1,cl1,rfl,hb1,hlen1,hcode,hA1,hcl1,hk1⟩;have heq:=heqH.out;unfold joinedM EM.bind at heq;obtain⟨q,hr⟩:∃ q,readM E y I s'=q:=⟨_,rfl⟩;rw[hr]at heq hb1 hlen1 hcode hA1 ⊢;obtain⟨⟨b,code⟩,s1⟩:=q;simp only at heq hb1 hlen1 hcode hA1 ⊢;have hkw:=hkpH.out.trans hk1;clear heqH
   rcases hcode with rfl | rfl
   ·rw[if_neg (by decide)]at heq;have hown1:=hk1.own hownH.out (fun b hb=>by
     have h1:=(own_capx hownH.out).2.2
     cases A with
     | none=>cases hb
     | some ad =>
      have h2:=h1 ad rfl;injection hb with hb;intro hs;have:=wS_ge hs
      rcases hs with h | h | h <;> omega) (fun _ h=>h)
    have hl0:=hown1.len;have hm1:b.length=m1:=hb1.1.1.1;obtain⟨heqH,hb1H,hA1H,hkwH,hown1H,hk1H,hrH⟩:=hq2 heq (hq2 hb1 (hqb hA1 hkw hown1 hk1 (Lib.hid hr)));clear heq hb1 hA1 hkw hown1 hk1 hr;go_wp2_with (at_builtin;go_loud (refine wpList_app rfl (.tmp 26) (.tmp 27) 56 rfl Tryz.underlying56 elem_U8 (by decide) rfl hown1H.out A1 m1 c1 b rfl hb1H.out.1.1 ?nn ?ok ?c1 ?c2 ?c3 (m+m1) ?c4 ?_))
    case nn=>exact fun _=>hb1H.out.1.2.2.2
    case ok=>exact fun _ _ _ _ h=>h
    case c1=>unfold maxLen;omega
    case c2=>omega
    case c3=>have:=hk1H.out.size;omega
    case c4=>omega
    intro A' c' w8 hown8 hg8 hat8 hb8;have hk8:Kp (fun k=>w.heap.size≤k) w1 w8:=Kp.of_grown hg8 fun q hq=>by
     cases A with
     | none=>cases hq
     | some ad=>injection hq with hq;subst hq;exact(own_capx hown1H.out).2.2 ad rfl
    have hT8:=hwH.out.top;have R:JoinRel E W0 n T x I L r cl w (.slice A' (m+m1) c') (.int .i64 (k+1)) w8 :=
     ⟨k+1,out++b,s1,cl1,A',m+m1,c',hkl2H.out,by go_num,rfl,hown8,by rw[List.length_append];omega,heqH.out,hA1H.out.far hk8 fun k _ hk=>⟨Nat.le_trans hwl hk,Nat.le_trans hT8 hk⟩,by omega,hkwH.out.old hk8 fun i hi hs=>(by omega)⟩
    clear hg8 hat8 hb8 hown8 hk8;have RH:=Lib.hid R;clear R;go_wp2;refine⟨?rel,?measure⟩
    case measure=>(simp[intOf];omega)
    case rel=>first | exact RH.out | exact⟨rfl,RH.out⟩
   ·rw[if_pos (by decide)]at heq;have R:=hZ'H.out (.returned (.tuple #[.slice none 0 0,.int .i64 2])) w1 (by
     refine⟨none,0,0,cl1,?_,?_,?_,?_,?_,by have:=hlLH.out;omega,hkw⟩
     ·rw[← heq];rfl
     ·rw[← heq];exact Bts.nil _ _
     ·rw[← heq];exact Nat.zero_le _
     ·rw[← heq];show (0:Int)≤2∧(2:Int)≤999999;omega
     ·rw[← heq];exact hA1)
    clear heq hb1;obtain⟨hA1H,hkwH,hk1H,hrH,RH⟩:=hqb hA1 hkw hk1 hr (Lib.hid R);clear hA1 hkw hk1 hr R;go_wp2_with fail;exact RH.out
  ·obtain rfl:k=mL:=by omega
   have e:L.drop k = []:=List.drop_eq_nil_of_le (by have:=hlLH.out;omega);rw[e]at heq;unfold joinedM EM.pure at heq;have R:=hZ'H.out (.returned (.tuple #[.slice A m c,.int .i64 0])) wr (by
    refine⟨A,m,c,cl',?_,?_,?_,?_,?_,by have:=hlLH.out;omega,hkp⟩
    ·rw[← heq]
    ·rw[← heq];exact own_bts hown fun q hq=>by have:=hwl;rcases hq with h | h | h <;> omega
    ·rw[← heq];have:=hlLH.out;show out.length≤_;omega
    ·rw[← heq];show (0:Int)≤0∧(0:Int)≤999999;omega
    ·rw[← heq];exact hA)
   clear heq e;obtain⟨hownH,hAH,hkpH,RH⟩:=hq2 hown (hq2 hA (hq2 hkp (Lib.hid R)));clear hown hA hkp R;go_wp2_with fail;exact RH.out
def PickRel (E:EP) (W0:World) (n T:Nat) (x:Action) (I:Inp) (L:List ByteArray) (r:(List UInt8 × Int) × ES) (cl:Nat) (w:World) (i:Value) (wr:World):Prop :=
 ∃ (k:Nat) (s':ES) (cl':Nat),k≤L.length∧i = .int .i64 k∧pickM E (L.drop k) I s'=r∧WA W0 n T x I s' cl' wr∧cl'≤cl+k∧Kp (WS n) w wr
theorem pick_any (E:EP) (hd:E.dg=digF) (W0:World) (n T:Nat) (x:Action) (I:Inp) (AL:Option Addr) (mL cL:Nat) (L:List ByteArray) (hL:SlAt RStr W0 AL mL L) (hmL:mL≤50) (s:ES) (cl:Nat) (hcl:cl≤900000) (w:World) (hw:WA W0 n T x I s cl w) (r:(List UInt8 × Int) × ES) (hr0:pickM E L I s=r) :
  Calls Tryz.prog 91 #[.pointer (some ⟨n+3,0,none⟩),.slice AL mL cL] w (BcAns W0 n T x I r 100000 L.length cl w):=by
 obtain⟨Z,hZ⟩:∃ Z,BcAns W0 n T x I r 100000 L.length cl w=Z:=⟨_,rfl⟩;have hZ':∀ e W,BcAns W0 n T x I r 100000 L.length cl w e W→Z e W:=fun e W h=>by rw[← hZ];exact h
 rw[hZ];clear hZ;have hlL:=hL.1;have hst:PickRel E W0 n T x I L r cl w (.int .i64 0) w:=⟨0,s,cl,Nat.zero_le _,rfl,hr0,hw,by omega,Kp.refl _ _⟩;clear hr0;obtain⟨hZ'H,hwH,hLH,hlLH,hstH⟩:=hqb hZ' hw hL hlL (Lib.hid hst);clear hZ' hw hL hlL hst;go_enter Tryz.func91,Tryz.ntmps91;go_wp2_with fail
 go_loopw [12] (fun i wr=>PickRel E W0 n T x I L r cl w i wr) (fun i _=>mL-(intOf i).toNat)
 case atStart=>exact hstH.out
 case round =>
  clear hstH;obtain⟨k,s',cl',hk,rfl,heq,hA,hcl',hkp⟩:=hrel;have hkm:k≤mL:=by have:=hlLH.out;omega
  by_cases hlt:k<mL
  ·obtain⟨y,hy⟩:∃ y,L[k]? = some y:=⟨L[k]'(by have:=hlLH.out;omega),List.getElem?_eq_getElem _⟩;have hsl:=hA.strs hLH.out;obtain⟨bl,ol,hAL,_⟩:=hsl.2.1 (by omega);subst hAL;have cy:=cell_Str hsl hy;have hyz:y.size≤maxLen:=hsl.2.2 y (List.mem_of_getElem? hy);rw[drop_cons hy]at heq;have hkl2:k+1≤L.length:=by have:=hlLH.out;omega
   clear hsl;obtain⟨hyH,hyzH,heqH,hAH,hkpH,hkl2H⟩:=hq2 hy (hqb hyz heq hA hkp (Lib.hid hkl2));clear hy hyz heq hA hkp hkl2;go_wp2_with fail;refine(find_any E hd W0 n T x I y hyzH.out s' cl' (by omega) wr hAH.out).mono ?_;rintro e w1 ⟨⟨vp,vr,vA,vn,vc⟩,t,cl1,rfl,hr1,hA1,hcl1,hk1⟩;have heq:=heqH.out;unfold pickM EM.bind at heq;have hbF:=(Below.refl w1.heap.size w1).alloc (Nat.le_refl _) (.cells #[.string vp,.bool vr,.slice vA vn vc] 58);have hA2:=hA1.below hbF;have hkw:=(hkpH.out.trans hk1).trans (Kp.of_below (S:=WS n) hbF);unfold valF;clear heqH
   rcases hr1 with ⟨h1,rfl,h3⟩ | ⟨z,h1,rfl,h3⟩
   ·rw[h1]at heq;have R:PickRel E W0 n T x I L r cl w (.int .i64 (k+1)) (w1.alloc (.cells #[.string vp,.bool vr,.slice vA vn vc] 58)) :=
     ⟨k+1,_,cl1,hkl2H.out,by go_num,heq,hA2,by omega,hkw⟩
    clear h1 h3 heq;obtain⟨hA1H,hk1H,hbFH,hA2H,hkwH,RH⟩:=hq2 hA1 (hqb hk1 hbF hA2 hkw (Lib.hid R));clear hA1 hk1 hbF hA2 hkw R;go_wp2;refine⟨?rel,?measure⟩
    case measure=>(simp[intOf];omega)
    case rel=>first | exact RH.out | exact⟨rfl,RH.out⟩
   ·rw[h1]at heq;have R:=hZ'H.out (.returned (.tuple #[.slice vA vn vc,.int .i64 0])) _ (by
     refine⟨vA,vn,vc,cl1,?_,?_,?_,?_,?_,by have:=hlLH.out;omega,hkw⟩
     ·rw[← heq];rfl
     ·rw[← heq];exact(h3.bts.kp (Kp.of_below hbF)).ws
     ·rw[← heq];exact h3.len
     ·rw[← heq];show (0:Int)≤0∧(0:Int)≤999999;omega
     ·rw[← heq];exact hA2)
    clear h1 h3 heq;obtain⟨hA1H,hk1H,hbFH,hA2H,hkwH,RH⟩:=hq2 hA1 (hqb hk1 hbF hA2 hkw (Lib.hid R));clear hA1 hk1 hbF hA2 hkw R;go_wp2_with fail;exact RH.out
  ·obtain rfl:k=mL:=by omega
   have e:L.drop k = []:=List.drop_eq_nil_of_le (by have:=hlLH.out;omega);rw[e]at heq;unfold pickM EM.pure at heq;have R:=hZ'H.out (.returned (.tuple #[.slice none 0 0,.int .i64 2])) wr (by
    refine⟨none,0,0,cl',?_,?_,?_,?_,?_,by have:=hlLH.out;omega,hkp⟩
    ·rw[← heq]
    ·rw[← heq];exact Bts.nil _ _
    ·rw[← heq];exact Nat.zero_le _
    ·rw[← heq];show (0:Int)≤2∧(2:Int)≤999999;omega
    ·rw[← heq];exact hA)
   clear heq e;obtain⟨hAH,hkpH,RH⟩:=hq2 hA (hq2 hkp (Lib.hid R));clear hA hkp R;go_wp2_with fail;exact RH.out
end Go.Proofs.YtdiaabeollcjaaaGreatDoor.C10
namespace Go.Proofs.YtdiaabeollcjaaaGreatDoor.C10
open Go.ChangeShapes Go.WideShapes Go.Deep Go.RowKit
section
variable {w:World} {base:Nat} {v:Value} {l:List UInt8}
theorem strCells_vals (s:ByteArray):Lib.strCells s=s.data.toList.flatMap RU8.vals:=by
 unfold Lib.strCells;show s.data.toList.map _=_
 generalize s.data.toList=r
 induction r with
 | nil=>rfl
 | cons x r ih=>rw[List.map_cons,ih];rfl
theorem run_app_s (ty:TypeId) (hown:Own RU8 5 w base v l) (s:ByteArray) (hb:l.length+s.size≤140737488355328) (hbase:base≤w.heap.size) :
  ∃ A' c' w',(Builtin.append_ #[56,9] ty #[v,.string s]).run Tryz.prog w = .ok (.slice A' (l.length+s.size) c') w'∧Own RU8 5 w' base (.slice A' (l.length+s.size) c') (l++s.data.toList) ∧
   w.grownBy w' v.ownBlock∧(∀ b,(Value.slice A' (l.length+s.size) c').ownBlock=some b→v.ownBlock=some b∨w.heap.size≤b):=by
 obtain⟨i,z,hi,hz,hz1,hz2,hz3⟩:∃ i z,Tryz.prog.info? 5 = some i∧i.zero=some z∧i.size=1∧i.bytes=1∧z = .int .u8 0:=by
  obtain⟨i,h1,h2,h3,h4⟩:=info_parts (z:=.int .u8 0) (size:=1) (bytes:=1) (show (Tryz.prog.info? 5).map (fun i=>(i.zero,i.size,i.bytes))=some (some (.int .u8 0),1,1) by kernel_rfl);exact⟨i,_,h1,h2,h3,h4,rfl⟩
 subst hz3;have ht:=Tryz.underlying56;have hu:=Tryz.underlying9;have hm:l.length+s.size≤maxLen:=by unfold maxLen;omega
 obtain⟨v',w',hr,ho,hg,hnil⟩:=Lib.run_append_own_string (P:=Tryz.prog) w base 56 9 ty 5 i ht hu hi hz hz1 hz2 v l.length (l.flatMap RU8.vals) hown.1 s hm hb hbase;rw[strCells_vals,← List.flatMap_append]at ho;have hlen:(l++s.data.toList).length=l.length+s.size:=by rw[List.length_append,← Lib.size_eq]
 have hown':Own RU8 5 w' base v' (l++s.data.toList):=⟨by rw[hlen];exact ho,fun x _=>trivial⟩;obtain⟨A',c',hv'⟩:=hown'.form;rw[hlen]at hv';subst hv';refine⟨A',c',w',hr,hown',hg,fun b hb'=>?_⟩
 rcases hown.1.2 with ⟨rfl,hl0⟩ | ⟨g,cap,cur,rfl,hbg,hgg,hnc,hcm,hcs,htake⟩
 ·have hl0:l.length=0:=hl0
  rcases Nat.eq_zero_or_pos s.size with h0 | h0
  ·have:=hnil.2 ⟨rfl,h0⟩;rw[this]at hb'
   cases hb'
  ·have hr2:=run_append_nil_string (P:=Tryz.prog) w 56 9 ty 5 i (.int .u8 0) ht hu hi hz s h0 (by omega) (by rw[hz2];omega);rw[hr2]at hr;injection hr with h1 h2;injection h1 with h3 _ _;subst h3;exact .inr (by injection hb' with hb';exact Nat.le_of_eq hb')
 ·rcases Nat.lt_or_ge cap (l.length+s.size) with hroom | hroom
  ·have hr2:=Lib.run_append_grow_string (P:=Tryz.prog) w 56 9 ty 5 i (.int .u8 0) ht hu hi hz ⟨g,0,none⟩ l.length cap (l.flatMap RU8.vals) (by rw[hz1];exact hown.1.1) (hown.1.cells (g:=g) rfl) s hroom (by omega) (by rw[hz2];exact growslice_fits (by omega) (by omega));rw[hr2]at hr;injection hr with h1 h2;injection h1 with h3 _ _;subst h3;exact .inr (by injection hb' with hb';exact Nat.le_of_eq hb')
  ·have hcs':cur.size=cap:=by simpa[RU8]using hcs
   have hr2:=Lib.run_append_room_string (P:=Tryz.prog) w 56 9 ty 5 i ht hu hi hz1 g l.length cap cur hgg s hroom (by omega);rw[hr2]at hr;injection hr with h1 h2;injection h1 with h3 _ _;subst h3;exact .inl hb'
theorem wpList_app_s {ops:Array Oper} {rest:List Oper} {o:Oper} {a:Act} {Q:Exit→Act→World→Prop} (hgd:o.guard=none) (sl x:Operand)
  (ho:o.op = .call { callee:=.builtin .append,args:=#[sl,x],argTypes:=#[56,9] }) (hs:a.eval sl=v) (hown:Own RU8 5 w base v l) (s:ByteArray) (hx:a.eval x = .string s) (hb:l.length+s.size≤140737488355328) (hbase:base≤w.heap.size) (N:Nat) (hN:l.length+s.size=N)
  (h:∀ A' c' w',Own RU8 5 w' base (.slice A' N c') (l++s.data.toList)→w.grownBy w' v.ownBlock→(∀ b,(Value.slice A' N c').ownBlock=some b→v.ownBlock=some b∨w.heap.size≤b)→wpList Tryz.prog ops Q rest (a.put o.dst (.slice A' N c')) w'):wpList Tryz.prog ops Q (o::rest) a w:=by
 subst hN;refine wpList_plain hgd fun K hK=>?_;obtain⟨A',c',w',hr,h2,h3,h4⟩:=run_app_s o.type hown s hb hbase;unfold Oper.wp execOp;simp only[ho,resolve,invoke,builtin,Sem.run_bind,Sem.run_pure,Result.andThen_ok,List.map_toArray,List.map_cons,List.map_nil,hs,hx,hr];exact hK _ _ (h A' c' w' h2 h3 h4)
theorem step_app_s {ops:Array Oper} {o:Oper} {a:Act} {K:Act→World→Prop} {Q:Exit→Act→World→Prop} {E:Prop} (hgd:o.guard=none) (sl x:Operand)
  (ho:o.op = .call { callee:=.builtin .append,args:=#[sl,x],argTypes:=#[56,9] }) (hs:a.eval sl=v) (hown:Own RU8 5 w base v l) (s:ByteArray) (hx:a.eval x = .string s) (hb:l.length+s.size≤140737488355328) (hbase:base≤w.heap.size) (N:Nat) (hN:l.length+s.size=N)
  (h:∀ A' c' w',Own RU8 5 w' base (.slice A' N c') (l++s.data.toList)→w.grownBy w' v.ownBlock→(∀ b,(Value.slice A' N c').ownBlock=some b→v.ownBlock=some b∨w.heap.size≤b)→K (a.put o.dst (.slice A' N c')) w') :
  if Region.wanted o (yielded ops a.tmps)=true then Oper.wp Tryz.prog o a w K Q else E:=by
 subst hN;have hw:Region.wanted o (yielded ops a.tmps)=true:=by simp[Region.wanted,hgd]
 rw[if_pos hw];obtain⟨A',c',w',hr,h2,h3,h4⟩:=run_app_s o.type hown s hb hbase;unfold Oper.wp execOp;simp only[ho,resolve,invoke,builtin,Sem.run_bind,Sem.run_pure,Result.andThen_ok,List.map_toArray,List.map_cons,List.map_nil,hs,hx,hr];exact h A' c' w' h2 h3 h4
end
end Go.Proofs.YtdiaabeollcjaaaGreatDoor.C10
namespace Go.Proofs.YtdiaabeollcjaaaGreatDoor.C10
open Go.ChangeShapes Go.WideShapes Go.Deep Go.RowKit Go.Maps
theorem withinS_any (p q:ByteArray) (w:World) (hq:q.size≤1000000):Calls Tryz.prog 57 #[.string p,.string q] w fun e w'=>e = .returned (.bool (Lib.hasPrefix p.data.toList (q++⟨#[47]⟩).data.toList))∧w=w':=by
 have n1:¬ 9223372036854775807<q.size+1:=by omega
 go_enter Tryz.func57,Tryz.ntmps57;go_wp2_with fail;refine(Tryz.strings_HasPrefix p _ _).mono ?_;rintro e w' ⟨rfl,rfl⟩;go_wp2;go_ret;exact⟨rfl,rfl⟩
def LsKeep (s s':ES):Prop:=s'.wr=s.wr∧s'.nw=s.nw∧s'.told=s.told∧s'.total=s.total
theorem LsKeep.trans {s s' s'':ES} (h:LsKeep s s') (k:LsKeep s' s''):LsKeep s s'':=⟨k.1.trans h.1,k.2.1.trans h.2.1,k.2.2.1.trans h.2.2.1,k.2.2.2.trans h.2.2.2⟩
theorem find_ls (E:EP) (p:ByteArray) (I:Inp) (s:ES):LsKeep s (findM E p I s).2:=by
 unfold findM LsKeep
 split
 ·exact⟨rfl,rfl,rfl,rfl⟩
 ·dsimp only
  split <;> exact⟨rfl,rfl,rfl,rfl⟩
structure LsIn (x:Action) (I:Inp) (s:ES) (L:List ByteArray):Prop where
 inp:∀ p,(I p).isSome=true→p∈L
 wr:∀ p,(s.wr p).isSome=true→p∈L
 len:L.length≤1100
 sz:∀ p∈L,p.size≤1000
def LsAns (W0:World) (n T:Nat) (x:Action) (I:Inp) (s:ES) (cl:Nat) (w:World) (e:Ending) (w':World):Prop :=
 ∃ A m c out s' cl',e = .returned (.slice A m c)∧Bts (WS n) w' A m c out∧m≤10000000∧WA W0 n T x I s' cl' w'∧LsKeep s s'∧cl'≤cl+1101∧Kp (WS n) w w'
def LsRel (W0:World) (n T:Nat) (x:Action) (I:Inp) (s:ES) (cl:Nat) (L:List ByteArray) (mb r b cf:Nat) (f:ByteArray→Option FV) (w wr:World):Prop :=
 ∃ left cnt g c,TRange KS valF wr mb r cf f left cnt∧TMap KB valB wr b g c∧(∀ p,(g p).isSome=true→p∈L)∧WA W0 n T x I s cl wr∧Kp (WS n) w wr
def LsRelO (W0:World) (n T:Nat) (x:Action) (I:Inp) (s:ES) (cl:Nat) (S:List ByteArray) (A:Option Addr) (m:Nat) (w:World) (v i:Value) (wr:World):Prop :=
 ∃ (j:Nat) (A5:Option Addr) (m5 c5:Nat) (out:List UInt8) (s5:ES) (cl5:Nat),j≤S.length∧i = .int .i64 j∧v = .slice A5 m5 c5∧Own RU8 5 wr w.heap.size (.slice A5 m5 c5) out∧m5≤1001*j∧SlAt RStr wr A m S ∧
  (0<m→∀ ad,A=some ad→w.heap.size≤ad.block∧¬ (Value.slice A5 m5 c5).ownBlock=some ad.block)∧WA W0 n T x I s5 cl5 wr∧LsKeep s s5∧cl5≤cl+j∧Kp (WS n) w wr
theorem slAt_ltN {w:World} {b off m:Nat} {l:List ByteArray} (h:SlAt RStr w (some ⟨b,off,none⟩) m l) (h0:0<m):b<w.heap.size:=by
 have hl:=h.1;exact cell?_lt (cell_Str h (List.getElem?_eq_getElem (show 0<l.length by omega)))
theorem kB_count {w:World} {b c:Nat} {g:ByteArray→Option Bool} (h:TMap KB valB w b g c) {L:List ByteArray} (hL:∀ p,(g p).isSome=true→p∈L):c≤L.length :=
 tmap_count (val:=valB) (show TMap KS valB w b g c from h) L fun p _ hp=>hL p hp
theorem upd_mem {g:ByteArray→Option Bool} {L:List ByteArray} (hg:∀ p,(g p).isSome=true→p∈L) {p:ByteArray} (hp:p∈L) (v:Bool):∀ q,(upd g p v q).isSome=true→q∈L:=fun q hq=>by
 unfold upd at hq
 by_cases e:q=p
 ·rw[e];exact hp
 ·rw[if_neg e]at hq;exact hg q hq
theorem WA.one {W0:World} {n T:Nat} {x:Action} {I:Inp} {s:ES} {cl:Nat} {w0 w w':World} (h:WA W0 n T x I s cl w) {b:Nat} (hb:n+4≤b∧T≤b) (hg:w.grownBy w' (some b)) (h0:Kp (WS n) w0 w) (hb0:w0.heap.size≤b):WA W0 n T x I s cl w'∧Kp (WS n) w0 w':=by
 have hk:Kp (fun k=>k=b) w w':=Kp.of_grown hg fun k hk=>by injection hk with hk;exact hk.symm
 exact⟨h.far hk fun k _ e=>by rw[e];exact hb,h0.old hk fun i hi e=>by omega⟩
theorem list_any (W0:World) (n T:Nat) (x:Action) (I:Inp) (p:ByteArray) (hp:p.size≤1000) (s:ES) (cl:Nat) (hcl:cl≤900000) (L:List ByteArray) (hL:LsIn x I s L) (w:World) (hw:WA W0 n T x I s cl w) :
  Calls Tryz.prog 92 #[.pointer (some ⟨n+3,0,none⟩),.string p] w (LsAns W0 n T x I s cl w):=by
 obtain⟨Z,hZ⟩:∃ Z,LsAns W0 n T x I s cl w=Z:=⟨_,rfl⟩;have hZ':∀ e W,LsAns W0 n T x I s cl w e W→Z e W:=fun e W h=>by rw[← hZ];exact h
 rw[hZ];clear hZ;have hlt:=hw.lt;have htop:=hw.top;have hmk:=@run_makeMap Tryz.prog;obtain⟨hZ'H,hwH,hLH⟩:=hq2 hZ' (hq2 hw (Lib.hid hL));clear hZ' hw hL;go_enter Tryz.func92,Tryz.ntmps92;go_wp2_with fail;refine(find_any (epOf x) rfl W0 n T x I p (by unfold maxLen;omega) s cl (by omega) w hwH.out).mono ?_;rintro e w1 ⟨v1,b1,cl1,rfl,_,hw1,hcl1,hk1⟩;have hls1:=find_ls (epOf x) p I s;obtain⟨s1,hs1⟩:∃ r,(findM (epOf x) p I s).2=r:=⟨_,rfl⟩;rw[hs1]at hw1 hls1;have hL1:LsIn x I s1 L:=⟨hLH.out.inp,(by rw[hls1.1];exact hLH.out.wr),hLH.out.len,hLH.out.sz⟩;have hsz1:=hk1.size;have hw2:=hw1.below ((Below.refl _ _).alloc (Nat.le_refl _) (.map #[] 0));have hk2:=hk1.alloc (.map #[] 0);have hm2:=TMap.made w1 KB valB;obtain⟨f,cf,hf,hf2⟩:=hw2.fi;have hfL:∀ p y,f p=some y→p∈L:=fun p y hy=>by
  rcases hf2 p with ⟨h,_⟩ | ⟨v,z,h1,h2,_⟩
  ·rw[hy]at h;cases h
  ·exact hL1.inp p (by rw[h2];rfl)
 have hlt1:=hw1.lt;have htop1:=hw1.top;obtain⟨_,_,_,q6,_,_,_,_⟩:=hw2.cells;clear hs1;obtain⟨hw1H,hls1H,hL1H,hk1H,hw2H,hk2H,hm2H,hfH,hf2H,hfLH⟩:=hq2 hw1 (hqc hls1 hL1 hk1 hw2 hk2 hm2 hf hf2 (Lib.hid hfL));clear hw1 hls1 hL1 hk1 hw2 hk2 hm2 hf hf2 hfL;go_wp2_with (at_range;go_loud (refine wpList_trange rfl (.tmp 18) 52 rfl Tryz.underlying52 rfl hfH.out ?_);intro w3 hr3 hg3 hs3;have hr3H:=Lib.hid hr3;clear hr3;have hg3H:=Lib.hid hg3;clear hg3);obtain⟨r,hre⟩:∃ r,(w1.alloc (.map #[] 0)).heap.size=r:=⟨_,rfl⟩;rw[hre]at hr3H;rw[hre];have hr1:r=w1.heap.size+1:=by rw[← hre];simp
 clear hre;have hr1H:=Lib.hid hr1;clear hr1
 go_frame
 have hb3:Below (w1.alloc (.map #[] 0)).heap.size (w1.alloc (.map #[] 0)) w3:=⟨hg3H.out.os,hg3H.out.tape,hg3H.out.output,hg3H.out.size,fun k hk=>hg3H.out.block k hk (by simp)⟩;have hw3:=hw2H.out.below hb3;have hk3:=hk2H.out.trans (Kp.of_below (S:=WS n) hb3);have hm3:=hm2H.out.kept hg3H.out (by simp);have hst1:LsRel W0 n T x I s1 cl1 L n r w1.heap.size cf f w w3:=⟨_,_,_,_,hr3H.out,hm3,(fun p h=>by cases h),hw3,hk3⟩;clear hr3H hg3H hb3;obtain⟨hw3H,hk3H,hm3H,hst1H⟩:=hq2 hw3 (hq2 hk3 (hq2 hm3 (Lib.hid hst1)));clear hw3 hk3 hm3 hst1
 go_loopw [6] (fun _ wr=>LsRel W0 n T x I s1 cl1 L n r w1.heap.size cf f w wr) (fun _ wr=>wr.rangeLeft n r)
 case atStart=>exact hst1H.out
 case round =>
  clear hst1H;obtain⟨left,cnt,g,c,hr,hm,hg,hwr,hk⟩:=hrel;have hrl:=hr.left_eq;have hwlt:=hwr.lt;obtain⟨hrH,hmH,hgH,hwrH,hkH,hrlH⟩:=hq2 hr (hqb hm hg hwr hk (Lib.hid hrl));clear hr hm hg hwr hk hrl;go_wp2_with (at_next;go_loud (refine wpList_tnext rfl (.tmp 19) rfl rfl injF hrH.out ?_ ?_))
  ·intro hc0 hl0;clear hl0;obtain⟨f2,hf2w,hf2f⟩:=hwrH.out.fo;have hf2L:∀ p y,f2 p=some y→p∈L:=fun p y hy=>by
    rcases hf2f p with ⟨h,_⟩ | ⟨v,z,h1,h2,_⟩
    ·rw[hy]at h;cases h
    ·exact hL1H.out.wr p (by rw[h2];rfl)
   obtain⟨_,_,_,_,q7,_,_,_⟩:=hwrH.out.cells;clear hrH;obtain⟨hf2wH,hf2fH,hf2LH⟩:=hq2 hf2w (hq2 hf2f (Lib.hid hf2L));clear hf2w hf2f hf2L;go_wp2_with (at_range;go_loud (refine wpList_trange rfl (.tmp 29) 52 rfl Tryz.underlying52 rfl hf2wH.out ?_);intro w5 hr5 hg5 hs5;have hr5H:=Lib.hid hr5;clear hr5;have hg5H:=Lib.hid hg5;clear hg5);obtain⟨q,hqe⟩:∃ q,wr.heap.size=q:=⟨_,rfl⟩;rw[hqe]at hr5H hs5;rw[hqe]
   go_frame
   have hb5:Below wr.heap.size wr w5:=⟨hg5H.out.os,hg5H.out.tape,hg5H.out.output,hg5H.out.size,fun k hk=>hg5H.out.block k hk (by simp)⟩;have hmlt:=hmH.out.lt;have hksz:=hkH.out.size;have hq1:w1.heap.size<q∧w.heap.size≤q∧n+4≤q∧T≤q:=by
    have:=hwrH.out.lt;have:=hwrH.out.top;omega
   have hst2:LsRel W0 n T x I s1 cl1 L (n+1) q w1.heap.size s1.nw f2 w w5:=⟨_,_,_,_,hr5H.out,hmH.out.kept hg5H.out (by simp),hgH.out,hwrH.out.below hb5,hkH.out.trans (Kp.of_below (S:=WS n) hb5)⟩;clear hr5H hg5H hb5 hmH hgH hkH hwrH hrlH hmlt hksz hqe hs5;obtain⟨hst2H,hq1H⟩:=hq2 hst2 (Lib.hid hq1);clear hst2 hq1;clear hwlt
   go_loopw [7] (fun _ wr=>LsRel W0 n T x I s1 cl1 L (n+1) q w1.heap.size s1.nw f2 w wr) (fun _ wr=>wr.rangeLeft (n+1) q)
   case atStart=>exact hst2H.out
   case round =>
    clear hst2H;obtain⟨left,cnt,g,c,hr,hm,hg,hwr,hk⟩:=hrel;have hrl:=hr.left_eq;obtain⟨hrH,hmH,hgH,hwrH,hkH,hrlH⟩:=hq2 hr (hqb hm hg hwr hk (Lib.hid hrl));clear hr hm hg hwr hk hrl;go_wp2_with (at_next;go_loud (refine wpList_tnext rfl (.tmp 30) rfl rfl injF hrH.out ?_ ?_))
    ·intro hc0 hl0;clear hl0;have hc:=kB_count hmH.out hgH.out;have hLn:=hL1H.out.len;clear hrH hrlH;go_wp2_with fail;refine(keys_b (some w1.heap.size) wr).mono ?_;rintro e w5 ⟨rfl,rfl⟩;go_wp2_with fail;refine(sorted_b w1.heap.size c wr hmH.out (by omega)).mono ?_;rintro e w6 ⟨A6,k6,c6,S,rfl,hown6,hri,hmem,hSl,hb6⟩;have hw6:=hwrH.out.below hb6;have hk6:=hkH.out.trans (Kp.of_below (S:=WS n) hb6);have hSz:∀ p∈S,p.size≤1000:=fun p hp=>hL1H.out.sz p (hgH.out p ((hmem p (hown6.2 p hp)).1 hp));have hm6:=hown6.len;have hwz:=hkH.out.size;have hst3:LsRelO W0 n T x I s1 cl1 S A6 k6 w (.slice none 0 0) (.int .i64 0) w6:=⟨0,none,0,0,[],s1,cl1,Nat.zero_le _,rfl,rfl,Own.nil _ _,Nat.zero_le _,hown6.slAt,(fun _ ad hA=>⟨by have:=(own_capx hown6).2.2 ad hA;omega,fun h=>by cases h⟩),hw6,⟨rfl,rfl,rfl,rfl⟩,Nat.le_refl _,hk6⟩;clear hmem hri hb6;obtain⟨hown6H,hw6H,hk6H,hSzH,hst3H⟩:=hqb hown6 hw6 hk6 hSz (Lib.hid hst3);clear hown6 hw6 hk6 hSz hst3;clear hmH hgH hwrH hkH;go_wp2_with fail
     go_loopw [8,41] (fun v i wr=>LsRelO W0 n T x I s1 cl1 S A6 k6 w v i wr) (fun _ i _=>k6-(intOf i).toNat)
     case atStart=>exact hst3H.out
     case round =>
      clear hst3H;obtain⟨j,A5,m5,c5,out,s5,cl5,hj,rfl,rfl,hown5,hm5,hsl5,hfar5,hw5,hls5,hcl5,hk5⟩:=hrel;have hjm:j≤k6:=by omega
      by_cases hlt5:j<k6
      ·obtain⟨t,ht⟩:∃ t,S[j]? = some t:=⟨S[j]'(by omega),List.getElem?_eq_getElem _⟩;obtain⟨b5,off5,hA5,_⟩:=hsl5.2.1 (by omega);subst hA5;have cy:=cell_Str hsl5 ht;have htz:=hSzH.out t (List.mem_of_getElem? ht);have hlen5:=hown5.len;have hksz:=hk5.size;have hfl:b5<wr.heap.size:=slAt_ltN hsl5 (by omega);have hez:(t++(⟨#[10]⟩:ByteArray)).size=t.size+1:=by rw[ByteArray.size_append];rfl
       have hwit:=withinS_any t p wr (by omega);obtain⟨wb,hwb⟩:∃ b,Lib.hasPrefix t.data.toList (p++⟨#[47]⟩).data.toList=b:=⟨_,rfl⟩;rw[hwb]at hwit;clear hwb;obtain⟨hown5H,hsl5H,hfar5H,hw5H,hls5H,hk5H,htH,hezH,hlen5H,hwitH⟩:=hq2 hown5 (hqc hsl5 hfar5 hw5 hls5 hk5 ht hez hlen5 (Lib.hid hwit));clear hown5 hsl5 hfar5 hw5 hls5 hk5 ht hez hlen5 hwit;go_wp2_with fail;refine hwitH.out.mono ?_;rintro e w7 ⟨rfl,rfl⟩
       cases wb
       ·have R:LsRelO W0 n T x I s1 cl1 S (some ⟨b5,off5,none⟩) k6 w (.slice A5 m5 c5) (.int .i64 (j+1)) wr:=⟨j+1,A5,m5,c5,out,s5,cl5,by omega,by go_num,rfl,hown5H.out,by omega,hsl5H.out,hfar5H.out,hw5H.out,hls5H.out,by omega,hk5H.out⟩;have RH:=Lib.hid R;clear R;go_wp2;refine⟨?rel,?measure⟩
        case measure=>(simp[intOf];omega)
        case rel=>first | exact RH.out | exact⟨rfl,RH.out⟩
       ·go_wp2_with fail;refine(find_any (epOf x) rfl W0 n T x I t (by unfold maxLen;omega) s5 cl5 (by omega) wr hw5H.out).mono ?_;rintro e w7 ⟨v7,b7,cl7,rfl,_,hw7,hcl7,hk7⟩;have hls7:=hls5H.out.trans (find_ls (epOf x) t I s5);obtain⟨s7,hs7⟩:∃ r,(findM (epOf x) t I s5).2=r:=⟨_,rfl⟩;rw[hs7]at hw7 hls7;have hown7:=hk7.own hown5H.out (fun b hb e=>by have:=wS_le e;have:=(hown5H.out.1.lt b hb).1;omega) (fun _ h=>h);have hsl7:SlAt RStr w7 (some ⟨b5,off5,none⟩) k6 S:=hk7.slAt hsl5H.out (fun h0 ad hA e=>by have:=wS_le e;have:=(hfar5H.out h0 ad hA).1;omega) (fun _ h=>h);have hk57:=hk5H.out.trans hk7;have hsz7:=hk7.size;clear hs7;obtain⟨hw7H,hk7H,hls7H,hown7H,hsl7H,hk57H⟩:=hq2 hw7 (hqb hk7 hls7 hown7 hsl7 (Lib.hid hk57));clear hw7 hk7 hls7 hown7 hsl7 hk57;go_wp2_with (at_builtin;go_loud (refine wpList_app_s rfl (.tmp 51) (.tmp 53) rfl rfl hown7H.out (t++(⟨#[10]⟩:ByteArray)) rfl ?c1 ?c2 (m5+(t.size+1)) ?c3 ?_))
        case c1=>rw[hezH.out,hlen5H.out];omega
        case c2=>omega
        case c3=>rw[hezH.out,hlen5H.out]
        intro A' c' w8 hown8 hg8 hd8;have hsl8:SlAt RStr w8 (some ⟨b5,off5,none⟩) k6 S:=by
         have hk8:Kp (fun q=>(Value.slice A5 m5 c5).ownBlock=some q) w7 w8:=Kp.of_grown hg8 fun q hq=>hq;exact hk8.slAt hsl7H.out (fun h0 ad hA hs=>(hfar5H.out h0 ad hA).2 hs) (fun _ h=>h)
        have hob:∀ q,(Value.slice A5 m5 c5).ownBlock=some q→n+4≤q∧T≤q∧w.heap.size≤q:=fun q hq=>by have:=(hown7H.out.1.lt q hq).1;omega
        have hk8:Kp (WS n) w w8:=hk57H.out.old (Kp.of_grown hg8 fun q hq=>hq) fun q hq hs=>by have:=(hob q hs).2.2;omega
        have hw8:WA W0 n T x I s7 cl7 w8:=hw7H.out.far (Kp.of_grown (S:=fun q=>(Value.slice A5 m5 c5).ownBlock=some q) hg8 fun q hq=>hq) fun q _ hs=>⟨(hob q hs).1,(hob q hs).2.1⟩;have R:LsRelO W0 n T x I s1 cl1 S (some ⟨b5,off5,none⟩) k6 w (.slice A' (m5+(t.size+1)) c') (.int .i64 (j+1)) w8:=by
         refine⟨j+1,A',_,c',_,s7,cl7,by omega,by go_num,rfl,hown8,by omega,hsl8,fun h0 ad hA=>⟨(hfar5H.out h0 ad hA).1,fun h1=>?_⟩,hw8,hls7H.out,by omega,hk8⟩
         rcases hd8 _ h1 with h1 | h1
         ·exact(hfar5H.out h0 ad hA).2 h1
         ·injection hA with hA;subst hA;exact absurd h1 (by show ¬ w7.heap.size≤b5;omega)
        clear hown8 hg8 hd8 hsl8 hob hk8 hw8;have RH:=Lib.hid R;clear R;go_wp2;refine⟨?rel,?measure⟩
        case measure=>(simp[intOf];omega)
        case rel=>first | exact RH.out | exact⟨rfl,RH.out⟩
      ·have hksz:=hk5.size;have R:=hZ'H.out (.returned (.slice A5 m5 c5)) wr ⟨A5,m5,c5,out,s5,cl5,rfl,own_bts hown5 (fun k hk=>by have:=wS_le hk;omega),by omega,hw5,hls1H.out.trans hls5,by omega,hk5⟩;obtain⟨hown5H,hsl5H,hfar5H,hw5H,hls5H,hk5H,RH⟩:=hq2 hown5 (hq2 hsl5 (hqb hfar5 hw5 hls5 hk5 (Lib.hid R)));clear hown5 hsl5 hfar5 hw5 hls5 hk5 R;go_wp2_with fail;exact RH.out
    ·intro y v w5 cnt5 hgood hlf hfy hr5 hlt5 hg5 hs5 hen;replace hen:(Instr.entry (.pointer (some ⟨q,0,none⟩))).run Tryz.prog w5 = .ok (.tuple #[.string y,valF v]) w5:=hen;have hyL:=hf2LH.out y v hfy;have hq2:=hq1H.out;obtain⟨hw5,hk5⟩:=hwrH.out.one (b:=q) (by omega) hg5 hkH.out (by omega);have hm5:=hmH.out.kept hg5 (by simp;omega);have hc:=kB_count hmH.out hgH.out;have hLn:=hL1H.out.len;clear hlf hfy hq2;have hgood':KB.good y:=hgood;obtain⟨hr5H,hyLH,hw5H,hk5H,hm5H,hg5H⟩:=hq2 hr5 (hqb hyL hw5 hk5 hm5 (Lib.hid hg5));clear hr5 hyL hw5 hk5 hm5 hg5;go_wp2_with (at_mapUpdate;go_loud (refine wpList_tstore rfl (.tmp 35) (.tmp 36) (.const (.bool true)) 74 rfl Tryz.underlying74 injB rfl hm5H.out (by simp only[maxLen];omega) y rfl hgood' true rfl ?_);intro w6 hm6 hg6;have hm6H:=Lib.hid hm6;clear hm6;have hg6H:=Lib.hid hg6;clear hg6);have hq2:=hq1H.out;obtain⟨hw6,hk6⟩:=hw5H.out.one (b:=w1.heap.size) (by omega) hg6H.out hk5H.out (by omega);have hr6:=hr5H.out.kept hg6H.out (by simp;omega) (by simp;omega);have R:LsRel W0 n T x I s1 cl1 L (n+1) q w1.heap.size s1.nw f2 w w6:=⟨_,_,_,_,hr6,hm6H.out,upd_mem hgH.out hyLH.out true,hw6,hk6⟩;have hlt6:w6.rangeLeft (n+1) q<wr.rangeLeft (n+1) q:=by rw[hr6.left_eq,hrlH.out];exact hlt5
     clear hm6H hg6H hr5H hq2;obtain⟨RH,hr6H,hw6H,hk6H⟩:=hq2 R (hq2 hr6 (hq2 hw6 (Lib.hid hk6)));clear R hr6 hw6 hk6
     go_frame
     go_roundw
     case measure=>exact hlt6
     case rel=>exact RH.out
  ·intro y v w5 cnt5 hgood hlf hfy hr5 hlt5 hg5 hs5 hen;replace hen:(Instr.entry (.pointer (some ⟨r,0,none⟩))).run Tryz.prog w5 = .ok (.tuple #[.string y,valF v]) w5:=hen;have hyL:=hfLH.out y v hfy;have hr1:=hr1H.out;obtain⟨hw5,hk5⟩:=hwrH.out.one (b:=r) (by omega) hg5 hkH.out (by omega);have hm5:=hmH.out.kept hg5 (by simp;omega);have hc:=kB_count hmH.out hgH.out;have hLn:=hL1H.out.len;clear hlf hfy;have hr1H:=Lib.hid hr1;clear hr1;have hgood':KB.good y:=hgood;obtain⟨hr5H,hyLH,hw5H,hk5H,hm5H,hg5H⟩:=hq2 hr5 (hqb hyL hw5 hk5 hm5 (Lib.hid hg5));clear hr5 hyL hw5 hk5 hm5 hg5;go_wp2_with (at_mapUpdate;go_loud (refine wpList_tstore rfl (.tmp 24) (.tmp 25) (.const (.bool true)) 74 rfl Tryz.underlying74 injB rfl hm5H.out (by simp only[maxLen];omega) y rfl hgood' true rfl ?_);intro w6 hm6 hg6;have hm6H:=Lib.hid hm6;clear hm6;have hg6H:=Lib.hid hg6;clear hg6);have hr1:=hr1H.out;obtain⟨hw6,hk6⟩:=hw5H.out.one (b:=w1.heap.size) (by omega) hg6H.out hk5H.out (by omega);have hr6:=hr5H.out.kept hg6H.out (by simp;omega) (by simp;omega);have R:LsRel W0 n T x I s1 cl1 L n r w1.heap.size cf f w w6:=⟨_,_,_,_,hr6,hm6H.out,upd_mem hgH.out hyLH.out true,hw6,hk6⟩;have hlt6:w6.rangeLeft n r<wr.rangeLeft n r:=by rw[hr6.left_eq,hrlH.out];exact hlt5
   clear hm6H hg6H hr5H;obtain⟨RH,hr6H,hw6H,hk6H⟩:=hq2 R (hq2 hr6 (hq2 hw6 (Lib.hid hk6)));clear R hr6 hw6 hk6
   go_frame
   go_roundw
   case measure=>exact hlt6
   case rel=>exact RH.out
end Go.Proofs.YtdiaabeollcjaaaGreatDoor.C10