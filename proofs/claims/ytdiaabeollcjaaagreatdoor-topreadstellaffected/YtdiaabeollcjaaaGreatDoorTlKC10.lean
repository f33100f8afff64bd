/-
 Several texts of mine as one, without what is not wanted here: XChV, XChW, XChO.
-/
import Derived.Test.YtdiaabeollcjaaaGreatDoorTlJC10
set_option linter.unusedVariables false
set_option linter.unusedSimpArgs false
set_option maxRecDepth 100000
set_option maxHeartbeats 8000000
namespace Go.Proofs.YtdiaabeollcjaaaGreatDoor.C10
open Go.ChangeShapes Go.WideShapes Go.Deep Go.RowKit Go.Lib
def AnyB (w:World) (e:Ending) (w':World):Prop:=∃ b,e = .returned (.bool b)∧w=w'
theorem small_any (x:UInt8) (w:World):Calls Tryz.prog 126 #[.int .u8 x.toNat] w (AnyB w):=by
 obtain⟨Z,hZ⟩:∃ Z,AnyB w=Z:=⟨_,rfl⟩;have R:∀ b,Z (.returned (.bool b)) w:=fun b=>by rw[← hZ];exact⟨b,rfl,rfl⟩
 rw[hZ];clear hZ;have RH:=Lib.hid R;clear R;go_enter Tryz.func126,Tryz.ntmps126;go_wp2_with fail
 all_goals exact RH.out _
theorem digit_any (x:UInt8) (w:World):Calls Tryz.prog 127 #[.int .u8 x.toNat] w (AnyB w):=by
 obtain⟨Z,hZ⟩:∃ Z,AnyB w=Z:=⟨_,rfl⟩;have R:∀ b,Z (.returned (.bool b)) w:=fun b=>by rw[← hZ];exact⟨b,rfl,rfl⟩
 rw[hZ];clear hZ;have RH:=Lib.hid R;clear R;go_enter Tryz.func127,Tryz.ntmps127;go_wp2_with fail
 all_goals exact RH.out _
def WdAns (w:World) (e:Ending) (w':World):Prop:=∃ A n c l,e = .returned (.slice A n c)∧SlAt RStr w' A n l∧n≤100∧Below w.heap.size w w'
theorem words_any (w:World):Calls Tryz.prog 128 #[] w (WdAns w):=by
 obtain⟨Z,hZ⟩:∃ Z,WdAns w=Z:=⟨_,rfl⟩;have hZ':∀ e W,WdAns w e W→Z e W:=fun e W h=>by rw[← hZ];exact h
 rw[hZ];clear hZ;have R:=hZ' (.returned (.slice (some ⟨w.heap.size,0,none⟩) 8 8)) (w.alloc (.cells #[.string ⟨#[109,97,99,114,111]⟩,.string ⟨#[102,111,114]⟩,.string ⟨#[105,110]⟩,.string ⟨#[105,102]⟩,.string ⟨#[101,108,115,101]⟩,.string ⟨#[117,115,101]⟩,.string ⟨#[102,105,108,101,115]⟩,.string ⟨#[99,104,111,111,115,101]⟩] 9))
  ⟨_,_,_,[⟨#[109,97,99,114,111]⟩,⟨#[102,111,114]⟩,⟨#[105,110]⟩,⟨#[105,102]⟩,⟨#[101,108,115,101]⟩,⟨#[117,115,101]⟩,⟨#[102,105,108,101,115]⟩,⟨#[99,104,111,111,115,101]⟩],rfl,⟨rfl,fun _=>⟨_,_,rfl,fun i x hx j v hv=>by
   have hi:i<8:=(List.getElem?_eq_some_iff.1 hx).1;have hj:j<1:=(List.getElem?_eq_some_iff.1 hv).1;obtain rfl:j=0:=by omega
   have hv:some (Value.string x)=some v:=hv;rw[← hv];show (w.alloc _).cell? ⟨w.heap.size,0+i*1+0,none⟩=_;rw[show 0+i*1+0=i by omega];unfold World.cell?;rw[heap_alloc_new]
   match i,hi,hx with
   | 0,_,hx=>injection hx with hx;subst hx;rfl
   | 1,_,hx=>injection hx with hx;subst hx;rfl
   | 2,_,hx=>injection hx with hx;subst hx;rfl
   | 3,_,hx=>injection hx with hx;subst hx;rfl
   | 4,_,hx=>injection hx with hx;subst hx;rfl
   | 5,_,hx=>injection hx with hx;subst hx;rfl
   | 6,_,hx=>injection hx with hx;subst hx;rfl
   | 7,_,hx=>injection hx with hx;subst hx;rfl⟩,fun x hx=>by
   show x.size≤maxLen
   revert hx
   revert x
   decide⟩,by decide,(Below.refl _ _).alloc (Nat.le_refl _) _⟩
 obtain⟨hZ'H,RH⟩:=hq2 hZ' (Lib.hid R);clear hZ' R;go_enter Tryz.func128,Tryz.ntmps128;go_wp2_with fail;exact RH.out
def AnyBW (w:World) (e:Ending) (w':World):Prop:=∃ b,e = .returned (.bool b)∧Below w.heap.size w w'
theorem isName_any (s:ByteArray) (hs:s.size≤9223372036854775807) (w:World):Calls Tryz.prog 80 #[.string s] w (AnyBW w):=by
 obtain⟨Z,hZ⟩:∃ Z,AnyBW w=Z:=⟨_,rfl⟩;have hZ':∀ b W,Below w.heap.size w W→Z (.returned (.bool b)) W:=fun b W h=>by rw[← hZ];exact⟨b,rfl,h⟩
 rw[hZ];clear hZ;have R0:=fun b=>hZ' b w (Below.refl _ _)
 by_cases h1:1≤s.size∧s.size≤40
 ·obtain⟨h1,h4⟩:=h1;have i1:¬ (s.size:Int)<1:=by omega
  have i4:¬ (40:Int)<(s.size:Int):=by omega
  have i0:0<s.size:=by omega
  have hsm:=small_any s[0] w;obtain⟨hZ'H,R0H,hsmH⟩:=hq2 hZ' (hq2 R0 (Lib.hid hsm));clear hZ' R0 hsm;go_enter Tryz.func80,Tryz.ntmps80;go_wp2_with fail;refine hsmH.out.mono ?_;rintro e w1 ⟨b,rfl,rfl⟩
  cases b
  ·go_wp2_with fail;exact R0H.out _
  ·go_wp2_with fail
   go_loopw [20] (fun i wr=>w=wr∧∃ k:Nat,k≤s.size∧i = .int .i64 k) (fun i _=>s.size-(intOf i).toNat)
   case atStart=>exact⟨rfl,0,Nat.zero_le _,rfl⟩
   case round =>
    obtain⟨rfl,k,hk,rfl⟩:=hrel
    by_cases hlt:k<s.size
    ·have hsk:=small_any s[k] w;have hdk:=digit_any s[k] w;have R:∃ k_1:Nat,k_1≤s.size∧Value.int .i64 ((k:Int)+1)=Value.int .i64 k_1:=⟨k+1,by omega,by go_num⟩;obtain⟨hskH,hdkH,RH⟩:=hq2 hsk (hq2 hdk (Lib.hid R));clear hsk hdk R;go_wp2_with fail;refine hskH.out.mono ?_;rintro e w1 ⟨b,rfl,rfl⟩
     cases b
     ·go_wp2_with fail;refine hdkH.out.mono ?_;rintro e w1 ⟨b,rfl,rfl⟩
      cases b
      ·go_wp2_with fail
       all_goals first
        | exact R0H.out _
        | exact⟨⟨trivial,RH.out⟩,by simp[intOf];omega⟩
        | exact⟨⟨trivial,RH.out⟩,by simp[intOf];omega⟩
      ·go_wp2_with fail;exact⟨⟨trivial,RH.out⟩,by simp[intOf];omega⟩
     ·go_wp2_with fail;exact⟨⟨trivial,RH.out⟩,by simp[intOf];omega⟩
    ·obtain rfl:k=s.size:=by omega
     go_wp2_with fail;refine(words_any w).mono ?_;rintro e w1 ⟨A,n,c,l,rfl,hl,hn,hb1⟩;obtain⟨hlH,hb1H⟩:=hq2 hl (Lib.hid hb1);clear hl hb1;go_wp2_with fail;refine(contB_any A n c l s w1 hlH.out (by omega)).mono ?_;rintro e w2 ⟨rfl,rfl⟩;have R:=fun b=>hZ'H.out b w1 hb1H.out;have RH:=Lib.hid R;clear R;go_wp2_with fail;exact RH.out _
 ·obtain⟨hZ'H,R0H⟩:=hq2 hZ' (Lib.hid R0);clear hZ' R0;go_enter Tryz.func80,Tryz.ntmps80;go_wp2_with fail
  all_goals first
   | exact R0H.out _
   | (exfalso;omega)
def npA (r:Nat):Bool:=decide (r<32)||decide (126<r)
theorem rune_fn (w:World):PredAtRunes Tryz.prog 82 #[] npA w:=fun W r hr _=>by
 show Calls Tryz.prog 82 #[encR r] W (fun e w'=>e = .returned (.bool (npA r))∧∃ q,w'=W.drewN q);unfold npA encR
 by_cases h1:r<32
 ·have e1:(r:Int)<32:=by omega
  rw[decide_eq_true h1,Bool.true_or];go_enter Tryz.func82,Tryz.ntmps82;go_wp2_with fail;go_ret;exact⟨rfl,0,rfl⟩
 ·have e1:¬ (r:Int)<32:=by omega
  rw[decide_eq_false h1,Bool.false_or]
  by_cases h2:126<r
  ·have e2:(126:Int)<(r:Int):=by omega
   rw[decide_eq_true h2];go_enter Tryz.func82,Tryz.ntmps82;go_wp2_with fail;go_ret;exact⟨rfl,0,rfl⟩
  ·have e2:¬ (126:Int)<(r:Int):=by omega
   rw[decide_eq_false h2];go_enter Tryz.func82,Tryz.ntmps82;go_wp2_with fail;go_ret;exact⟨rfl,0,rfl⟩
theorem runes_any (s:ByteArray) (w:World):Calls Tryz.prog 81 #[.string s,.func (.func 82) #[] #[]] w (AnyBW w) :=
 (Tryz.strings_ContainsFunc_runes 82 #[] (fun args w=>enters_of Tryz.func82 (by kernel_rfl) rfl args w) npA s w (rune_fn w)).mono fun e w' ⟨h1,h2⟩=>⟨_,h1,h2⟩
def CvRel (l:List Var) (w:World) (i:Value) (wr:World):Prop:=∃ k:Nat,k≤l.length∧i = .int .i64 k∧Below w.heap.size w wr∧∀ j v,j<k→l[j]? = some v→v.value.size≤300
theorem checkVars_any (A:Option Addr) (m c:Nat) (l:List Var) (w:World) (hl:SlAt RVar w A m l) (hz:∀ v∈l,v.name.size≤9223372036854775807∧v.value.size≤9223372036854775807) :
  Calls Tryz.prog 54 #[.slice A m c] w (CkAns (VarsOk l) w):=by
 obtain⟨Z,hZ⟩:∃ Z,CkAns (VarsOk l) w=Z:=⟨_,rfl⟩;have hZ':∀ e W,CkAns (VarsOk l) w e W→Z e W:=fun e W h=>by rw[← hZ];exact h
 rw[hZ];clear hZ;have hln:=hl.1;have R0:∀ (k:Int) W,k≠0→Below w.heap.size w W→Z (.returned (.int .i64 k)) W:=fun k W hk h=>hZ' _ _ ⟨k,rfl,h,fun e=>absurd e hk⟩;have R2:=R0 2 w (by decide) (Below.refl _ _)
 by_cases hm30:m≤30
 ·have i3:¬ (30:Int)<(m:Int):=by omega
  have hst:CvRel l w (.int .i64 0) w:=⟨0,Nat.zero_le _,rfl,Below.refl _ _,fun j v h=>absurd h (by omega)⟩;obtain⟨hZ'H,hlH,hzH,R0H,R2H,hstH⟩:=hq2 hZ' (hqb hl hz R0 R2 (Lib.hid hst));clear hZ' hl hz R0 R2 hst;go_enter Tryz.func54,Tryz.ntmps54;go_wp2_with fail
  go_loopw [10] (fun i wr=>CvRel l w i wr) (fun i _=>m-(intOf i).toNat)
  case atStart=>exact hstH.out
  case round =>
   clear hstH;obtain⟨k,hk,rfl,hb,hall⟩:=hrel
   by_cases hlt:k<m
   ·obtain⟨y,hy⟩:∃ y,l[k]? = some y:=⟨l[k]'(by omega),List.getElem?_eq_getElem _⟩;have hsl:=hlH.out.below hb;obtain⟨b1,o1,hA1,_⟩:=hsl.2.1 (by omega);subst hA1;obtain⟨d0,d1⟩:=cells_Var hsl hy;obtain⟨hyn,hyv⟩:=hzH.out y (List.mem_of_getElem? hy);obtain⟨yn,yv⟩:=y;simp only at d0 d1 hyn hyv;have hba:=(Below.refl wr.heap.size wr).alloc (Nat.le_refl _) (.cells #[.string yn,.string yv] 128);have hzq:Blk (wr.alloc (.cells #[.string yn,.string yv] 128)) wr.heap.size [.string yn,.string yv]:=blk_new wr [.string yn,.string yv] 128;have hnm:=isName_any yn hyn (wr.alloc (.cells #[.string yn,.string yv] 128));have hstep:∀ W,Below w.heap.size w W→yv.size≤300→CvRel l w (.int .i64 (k+1)) W:=fun W hW hv=>⟨k+1,by omega,by go_num,hW,fun j v hj hv2=>by
     rcases Nat.lt_or_ge j k with h | h
     ·exact hall j v h hv2
     ·obtain rfl:j=k:=by omega
      rw[hy]at hv2;injection hv2 with hv2;subst hv2;exact hv⟩
    have hwrs:=hb.size;clear hall;obtain⟨hbH,hslH,hyH,hbaH,hzqH,hnmH,hstepH⟩:=hq2 hb (hq2 hsl (hqb hy hba hzq hnm (Lib.hid hstep)));clear hb hsl hy hba hzq hnm hstep;go_wp2_with fail;refine hnmH.out.mono ?_;rintro e w2 ⟨b,rfl,hb2⟩;have hb02:=(hbH.out.trans (hbaH.out.mono hwrs)).trans (hb2.mono (by simp;omega))
    cases b
    ·have R5:=R0H.out 5 w2 (by decide) hb02;obtain⟨hb2H,hb02H,R5H⟩:=hq2 hb2 (hq2 hb02 (Lib.hid R5));clear hb2 hb02 R5;go_wp2_with fail;exact R5H.out
    ·have hz2:=blk_below hzqH.out (by simp) hb2;obtain⟨x0,_⟩:=hz2 0 _ rfl;obtain⟨x1,_⟩:=hz2 1 _ rfl;have hw2s:=hb02.size;have hqw2:wr.heap.size<w2.heap.size:=hz2.lt (by simp)
     by_cases hv3:yv.size≤300
     ·have i4:¬ (300:Int)<(yv.size:Int):=by omega
      have hru:=runes_any yv w2;obtain⟨hb2H,hb02H,hz2H,hruH⟩:=hq2 hb2 (hq2 hb02 (hq2 hz2 (Lib.hid hru)));clear hb2 hb02 hz2 hru;go_wp2_with fail;refine hruH.out.mono ?_;rintro e w3 ⟨b,rfl,hb3⟩;have hb03:=hb02H.out.trans (hb3.mono hw2s)
      cases b
      ·have hz3:=blk_below hz2H.out (by simp) hb3;obtain⟨y0,_⟩:=hz3 0 _ rfl;have R8:=fun q=>R0H.out 8 (w3.drewN q) (by decide) (bel_drewN hb03 q);have Rn:=fun q=>hstepH.out (w3.drewN q) (bel_drewN hb03 q) hv3;obtain⟨hb3H,hb03H,hz3H,R8H,RnH⟩:=hqb hb3 hb03 hz3 R8 (Lib.hid Rn);clear hb3 hb03 hz3 R8 Rn
       by_cases hk0:0<k
       ·have e1:decide (0<k)=true:=decide_eq_true hk0;obtain⟨z,hz9⟩:∃ z,l[k-1]? = some z:=⟨l[k-1]'(by omega),List.getElem?_eq_getElem _⟩;obtain⟨f0,_⟩:=cells_Var (hlH.out.below hb03H.out) hz9;have j0:(0:Int)≤(k:Int)-1:=by omega
        have j1:(k:Int)-1<(m:Int):=by omega
        have j2:((k:Int)-1).toNat=k-1:=by omega
        clear hz9;go_wp2_with fail
        go_quiet (fail)
        go_wp2_with fail
        all_goals first
         | exact R8H.out _
         | exact⟨RnH.out _,by simp[intOf];omega⟩
       ·have e1:decide (0<k)=false:=decide_eq_false hk0;go_wp2_with fail
        go_quiet (fail)
        go_wp2_with fail
        all_goals first
         | exact R8H.out _
         | exact⟨RnH.out _,by simp[intOf];omega⟩
      ·have R3:=R0H.out 3 w3 (by decide) hb03;obtain⟨hb3H,hb03H,R3H⟩:=hq2 hb3 (hq2 hb03 (Lib.hid R3));clear hb3 hb03 R3;go_wp2_with fail;exact R3H.out
     ·have i4:(300:Int)<(yv.size:Int):=by omega
      have R3:=R0H.out 3 w2 (by decide) hb02;obtain⟨hb2H,hb02H,hz2H,R3H⟩:=hq2 hb2 (hq2 hb02 (hq2 hz2 (Lib.hid R3)));clear hb2 hb02 hz2 R3;go_wp2_with fail;exact R3H.out
   ·have R:=hZ'H.out (.returned (.int .i64 0)) wr ⟨0,rfl,hb,fun _=>⟨by omega,fun v hv=>by
     obtain⟨j,hj,rfl⟩:=List.mem_iff_getElem.1 hv;exact hall j _ (by omega) (List.getElem?_eq_getElem hj)⟩⟩
    clear hall;obtain⟨hbH,RH⟩:=hq2 hb (Lib.hid R);clear hb R;go_wp2_with fail;exact RH.out
 ·have i3:(30:Int)<(m:Int):=by omega
  obtain⟨hZ'H,hlH,hzH,R0H,R2H⟩:=hqb hZ' hl hz R0 (Lib.hid R2);clear hZ' hl hz R0 R2;go_enter Tryz.func54,Tryz.ntmps54;go_wp2_with fail;exact R2H.out
abbrev Sk:={ s:ByteArray // s.size≤1000 }
instance:Inhabited Sk:=⟨⟨⟨#[]⟩,by decide⟩⟩
def encK (s:Sk):Value:=.string s.1
def toSk (l:List ByteArray):List Sk:=l.map fun s=>if h:s.size≤1000 then ⟨s,h⟩ else default
theorem toSk_any {l:List ByteArray} (hl:∀ s∈l,s.size≤1000) (p:ByteArray→Bool):(toSk l).any (fun s=>p s.1)=l.any p:=by
 induction l with
 | nil=>rfl
 | cons x r ih =>
  have hx:=hl x List.mem_cons_self;unfold toSk at ih ⊢;rw[List.map_cons,List.any_cons,List.any_cons,ih fun s hs=>hl s (List.mem_cons_of_mem _ hs),dif_pos hx]
theorem contK_any (A:Option Addr) (n c:Nat) (l:List ByteArray) (g:Nat) (lb:Array Value) (eg:∀ args w,(callFunc g args).run Tryz.prog w = .ok (.enter g args) w) (p:ByteArray→Bool) (w:World) (hl:SlAt RStr w A n l) (hlz:∀ s∈l,s.size≤1000) (hn:n≤1000000) (hp:PredAt Tryz.prog g lb encK (fun s:Sk=>p s.1) w) :
  Calls Tryz.prog 30 #[.slice A n c,.func (.func g) #[] lb] w fun e w'=>e = .returned (.bool (l.any p))∧Below w.heap.size w w':=by
 have hln:=hl.1
 rcases Nat.eq_zero_or_pos n with h0 | h0
 ·subst h0;obtain rfl:l = []:=List.eq_nil_of_length_eq_zero hln;exact(Tryz.slices_ContainsFunc_empty (α:=Sk) A c _ w).mono fun e w' ⟨h1,h2⟩=>⟨h1,h2 ▸ Below.refl _ _⟩
 ·obtain⟨b,off,rfl,_⟩:=hl.2.1 h0;have hzl:(toSk l).length=l.length:=by unfold toSk;rw[List.length_map]
  have:=Tryz.slices_ContainsFunc encK (fun s:Sk=>p s.1) g lb eg b off n c (toSk l) w hp (by omega) (by omega) (fun j hj=>by
   have hj2:j<l.length:=by omega
   have hx:l[j]? = some l[j]:=List.getElem?_eq_getElem hj2;rw[cell_Str hl hx];have hz:=hlz _ (List.getElem_mem hj2);have hg:(toSk l)[j]? = some ⟨l[j],hz⟩:=by unfold toSk;rw[List.getElem?_map,hx,Option.map_some,dif_pos hz]
   rw[List.getElem!_eq_getElem?_getD,hg];rfl)
  rw[List.take_of_length_le (by omega),toSk_any hlz]at this;exact this.mono fun e w' ⟨h1,q,h2⟩=>⟨h1,h2 ▸ bel_drewN (Below.refl _ _) q⟩
def wiB (p q:ByteArray):Bool:=Lib.hasPrefix p.data.toList (q++⟨#[47]⟩).data.toList
theorem out_fn (t:ByteArray) (b:Nat) (w:World) (hc:w.cell? ⟨b,0,none⟩=some (.string t)):PredAt Tryz.prog 83 #[.pointer (some ⟨b,0,none⟩)] encK (fun s:Sk=>wiB t s.1) w:=fun W r hb=>by
 obtain⟨s,hs⟩:=r;show Calls Tryz.prog 83 #[.string s,.pointer (some ⟨b,0,none⟩)] W (fun e w'=>e = .returned (.bool (wiB t s))∧∃ q,w'=W.drewN q);have hcW:=keepC hb hc;obtain⟨v,hv⟩:∃ v,wiB t s=v:=⟨_,rfl⟩;have hwi:=withinS_any t s W (by omega);rw[hv];unfold wiB at hv;rw[hv]at hwi;have hwiH:=Lib.hid hwi;clear hwi;go_enter Tryz.func83,Tryz.ntmps83;go_wp2_with fail;refine hwiH.out.mono ?_;rintro e w1 ⟨rfl,rfl⟩;go_wp2_with fail;go_ret;exact⟨rfl,0,rfl⟩
def OutsOk (l:List ByteArray):Prop:=l.length≤100∧∀ p∈l,pathB p=true
def OtRel (l:List ByteArray) (w:World) (i:Value) (wr:World):Prop:=∃ k:Nat,k≤l.length∧i = .int .i64 k∧Below w.heap.size w wr∧∀ j p,j<k→l[j]? = some p→pathB p=true
def OtRel2 (l:List ByteArray) (w:World) (i:Value) (wr:World):Prop:=∃ k:Nat,k≤l.length∧i = .int .i64 k∧Below w.heap.size w wr
theorem checkOutputs_any (A:Option Addr) (m c:Nat) (l:List ByteArray) (w:World) (hm:MaxLenAt w) (hl:SlAt RStr w A m l) :
  Calls Tryz.prog 55 #[.slice A m c] w (CkAns (OutsOk l) w):=by
 obtain⟨Z,hZ⟩:∃ Z,CkAns (OutsOk l) w=Z:=⟨_,rfl⟩;have hZ':∀ e W,CkAns (OutsOk l) w e W→Z e W:=fun e W h=>by rw[← hZ];exact h
 rw[hZ];clear hZ;have hln:=hl.1;have R0:∀ (k:Int) W,k≠0→Below w.heap.size w W→Z (.returned (.int .i64 k)) W:=fun k W hk h=>hZ' _ _ ⟨k,rfl,h,fun e=>absurd e hk⟩;have R9:=R0 9 w (by decide) (Below.refl _ _);have R2:=R0 2 w (by decide) (Below.refl _ _)
 by_cases hm0:m=0
 ·subst hm0;obtain⟨hZ'H,hmH,hlH,R0H,R9H,R2H⟩:=hq2 hZ' (hqb hm hl R0 R9 (Lib.hid R2));clear hZ' hm hl R0 R9 R2;go_enter Tryz.func55,Tryz.ntmps55;go_wp2_with fail;exact R9H.out
 ·by_cases hm50:m≤100
  ·have i0:((m:Int)==0)=false:=by simp;omega
   have i5:¬ (100:Int)<(m:Int):=by omega
   have hst:OtRel l w (.int .i64 0) w:=⟨0,Nat.zero_le _,rfl,Below.refl _ _,fun j v h=>absurd h (by omega)⟩;obtain⟨hZ'H,hmH,hlH,R0H,R9H,R2H,hstH⟩:=hq2 hZ' (hq2 hm (hqb hl R0 R9 R2 (Lib.hid hst)));clear hZ' hm hl R0 R9 R2 hst;go_enter Tryz.func55,Tryz.ntmps55;go_wp2_with fail
   (try simp only[i0])
   go_loopw [15] (fun i wr=>OtRel l w i wr) (fun i _=>m-(intOf i).toNat)
   case atStart=>exact hstH.out
   case round =>
    clear hstH;obtain⟨k,hk,rfl,hb,hall⟩:=hrel
    by_cases hlt:k<m
    ·obtain⟨y,hy⟩:∃ y,l[k]? = some y:=⟨l[k]'(by omega),List.getElem?_eq_getElem _⟩;have hsl:=hlH.out.below hb;obtain⟨b1,o1,hA1,_⟩:=hsl.2.1 (by omega);subst hA1;have cy:=cell_Str hsl hy;obtain⟨pb,hpb⟩:∃ b,pathB y=b:=⟨_,rfl⟩;have hpa:=isPath_any y wr (hmH.out.below hb) pb hpb;have hwrs:=hb.size;obtain⟨hbH,hslH,hpaH⟩:=hq2 hb (hq2 hsl (Lib.hid hpa));clear hb hsl hpa;go_wp2_with fail;refine hpaH.out.mono ?_;rintro e w2 ⟨rfl,hb2⟩;have hb02:=hbH.out.trans (hb2.mono hwrs)
     cases pb
     ·have R3:=R0H.out 3 w2 (by decide) hb02;obtain⟨hb2H,hb02H,R3H⟩:=hq2 hb2 (hq2 hb02 (Lib.hid R3));clear hb2 hb02 R3;go_wp2_with fail;exact R3H.out
     ·have R8:=R0H.out 8 w2 (by decide) hb02;have Rn:OtRel l w (.int .i64 (k+1)) w2:=⟨k+1,by omega,by go_num,hb02,fun j v hj hv2=>by
       rcases Nat.lt_or_ge j k with h | h
       ·exact hall j v h hv2
       ·obtain rfl:j=k:=by omega
        rw[hy]at hv2;injection hv2 with hv2;subst hv2;exact hpb⟩
      by_cases hk0:0<k
      ·have e1:(0:Int)<(k:Int):=by omega
       obtain⟨z,hz9⟩:∃ z,l[k-1]? = some z:=⟨l[k-1]'(by omega),List.getElem?_eq_getElem _⟩;have f0:=cell_Str (hlH.out.below hb02) hz9;have j0:(0:Int)≤(k:Int)-1:=by omega
       have j1:(k:Int)-1<(m:Int):=by omega
       have j2:((k:Int)-1).toNat=k-1:=by omega
       clear hz9 hall;obtain⟨hb2H,hb02H,R8H,RnH,hyH⟩:=hqb hb2 hb02 R8 Rn (Lib.hid hy);clear hb2 hb02 R8 Rn hy;go_wp2_with fail
       all_goals first
        | exact R8H.out
        | exact⟨RnH.out,by simp[intOf];omega⟩
      ·have e1:¬ (0:Int)<(k:Int):=by omega
       clear hall;obtain⟨hb2H,hb02H,R8H,RnH,hyH⟩:=hqb hb2 hb02 R8 Rn (Lib.hid hy);clear hb2 hb02 R8 Rn hy;go_wp2_with fail
       all_goals first
        | exact R8H.out
        | exact⟨RnH.out,by simp[intOf];omega⟩
    ·have hok:OutsOk l:=⟨by omega,fun v hv=>by
      obtain⟨j,hj,rfl⟩:=List.mem_iff_getElem.1 hv;exact hall j _ (by omega) (List.getElem?_eq_getElem hj)⟩
     have hst2:OtRel2 l w (.int .i64 0) wr:=⟨0,Nat.zero_le _,rfl,hb⟩;clear hall;obtain⟨hbH,hokH,hst2H⟩:=hq2 hb (hq2 hok (Lib.hid hst2));clear hb hok hst2;go_wp2_with fail
     go_loopw [37] (fun i wr=>OtRel2 l w i wr) (fun i _=>m-(intOf i).toNat)
     case atStart=>exact hst2H.out
     case round =>
      clear hst2H;obtain⟨k2,hk2,rfl,hb2⟩:=hrel
      by_cases hlt2:k2<m
      ·obtain⟨y,hy⟩:∃ y,l[k2]? = some y:=⟨l[k2]'(by omega),List.getElem?_eq_getElem _⟩;have hsl:=hlH.out.below hb2;obtain⟨b1,o1,hA1,_⟩:=hsl.2.1 (by omega);subst hA1;have cy:=cell_Str hsl hy;have hba:=(Below.refl wr.heap.size wr).alloc (Nat.le_refl _) (.cells #[.string y] 9);have hwrs:=hb2.size;have hzq:(wr.alloc (.cells #[.string y] 9)).cell? ⟨wr.heap.size,0,none⟩=some (.string y):=((blk_new wr [.string y] 9) 0 _ rfl).1;have hb02:=hb2.trans (hba.mono hwrs);have hcont:=contK_any (some ⟨b1,o1,none⟩) m c l 83 #[.pointer (some ⟨wr.heap.size,0,none⟩)] (fun args w=>enters_of Tryz.func83 (by kernel_rfl) rfl args w) (fun s=>wiB y s) _ (hlH.out.below hb02) (fun s hs=>by have:=pathB_le (hokH.out.2 s hs);omega) (by omega) (out_fn y wr.heap.size _ hzq);obtain⟨bd,hbd⟩:∃ b,l.any (fun s=>wiB y s)=b:=⟨_,rfl⟩;rw[hbd]at hcont;clear hbd hzq;obtain⟨hb2H,hslH,hbaH,hcontH,hb02H,hyH⟩:=hq2 hb2 (hqb hsl hba hcont hb02 (Lib.hid hy));clear hb2 hsl hba hcont hb02 hy;go_wp2_with fail;refine hcontH.out.mono ?_;rintro e w3 ⟨rfl,hb3⟩;have hb03:=hb02H.out.trans (hb3.mono (hb02H.out.size))
       cases bd
       ·have R:OtRel2 l w (.int .i64 (k2+1)) w3:=⟨k2+1,by omega,by go_num,hb03⟩;obtain⟨hb3H,hb03H,RH⟩:=hq2 hb3 (hq2 hb03 (Lib.hid R));clear hb3 hb03 R;go_wp2_with fail;exact⟨RH.out,by simp[intOf];omega⟩
       ·have R:=R0H.out 12 w3 (by decide) hb03;obtain⟨hb3H,hb03H,RH⟩:=hq2 hb3 (hq2 hb03 (Lib.hid R));clear hb3 hb03 R;go_wp2_with fail;exact RH.out
      ·have R:=hZ'H.out (.returned (.int .i64 0)) wr ⟨0,rfl,hb2,fun _=>hokH.out⟩;obtain⟨hb2H,RH⟩:=hq2 hb2 (Lib.hid R);clear hb2 R;go_wp2_with fail;exact RH.out
  ·have i0:((m:Int)==0)=false:=by simp;omega
   have i5:(100:Int)<(m:Int):=by omega
   obtain⟨hZ'H,hmH,hlH,R0H,R9H,R2H⟩:=hq2 hZ' (hqb hm hl R0 R9 (Lib.hid R2));clear hZ' hm hl R0 R9 R2;go_enter Tryz.func55,Tryz.ntmps55;go_wp2_with fail;exact R2H.out
end Go.Proofs.YtdiaabeollcjaaaGreatDoor.C10