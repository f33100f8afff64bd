/-
 Several texts of mine as one, without what is not wanted here: XWord, XWordP, XIn, XPart, XRPart, XPath, XRPath, XHist.
-/
import Derived.Test.YtcdpdaloceengaaGreatDoorKrGa
import Derived.Test.YtcdpdaloceengaaGreatDoorKrShelf
import Derived.Shelf.Strings.SlTrimAscii
import Derived.Deep.QuietTactic
import Derived.BigQuiet
set_option linter.unusedVariables false
set_option linter.unusedSimpArgs false
set_option maxRecDepth 100000
set_option maxHeartbeats 8000000
namespace Go.Proofs.YtcdpdaloceengaaGreatDoor.C10
open Go.RowKit
theorem all_step {p:UInt8→Bool} {s:ByteArray} {k:Nat} {b:Bool} (h:k<s.size) (hb:b=(s.data.toList.drop k).all p):b=(p s[k]&&(s.data.toList.drop (k+1)).all p):=by
 rw[hb,List.drop_eq_getElem_cons (by simpa using h),List.all_cons];rfl
theorem ret_bool {a b:Bool} (h:a=b):Ending.returned (.bool a) = .returned (.bool b):=by rw[h]
end Go.Proofs.YtcdpdaloceengaaGreatDoor.C10
namespace Go.Proofs.YtcdpdaloceengaaGreatDoor.C10
open Go.RowKit Go.Shelf
theorem trim_nil {s:ByteArray} {cs:List UInt8} (h:s.data.toList.all (cs.contains ·)=true):(⟨(Lib.trimS s.data.toList cs).toArray⟩:ByteArray)=⟨#[]⟩:=by
 rw[(trimS_nil _ _).2 h]
theorem trim_some {s:ByteArray} {cs:List UInt8} (h:s.data.toList.all (cs.contains ·)=false):∃ c r,(⟨(Lib.trimS s.data.toList cs).toArray⟩:ByteArray)=⟨(c::r).toArray⟩:=by
 cases hd:Lib.trimS s.data.toList cs with
 | nil=>rw[trimS_nil]at hd;rw[hd]at h;cases h
 | cons c r=>exact⟨c,r,rfl⟩
end Go.Proofs.YtcdpdaloceengaaGreatDoor.C10
namespace Go.Proofs.YtcdpdaloceengaaGreatDoor.C10
open Go.RowKit
theorem bel_drewN {B:Nat} {a w:World} (h:Below B a w) (n:Nat):Below B a (w.drewN n):=h.trans ⟨rfl,rfl,rfl,Nat.le_refl _,fun _ _=>rfl⟩
def inR (lo hi n:Int):Bool:=decide (lo≤n)&&decide (n≤hi)
theorem inR_true {lo hi n:Int} (h:inR lo hi n=true):lo≤n∧n≤hi:=by simpa[inR]using h
theorem within_p (n lo hi:Int) (w:World) :
  Calls Tryz.prog 12 #[.int .i64 n,.int .i64 lo,.int .i64 hi] w fun e w'=>e = .returned (.bool (inR lo hi n))∧w'=w:=by
 unfold inR
 by_cases h1:lo≤n
 ·by_cases h2:n≤hi
  ·go_enter Tryz.func12,Tryz.ntmps12;go_wp2;go_ret
   first | (simp;done) | (simp;omega) | (exact⟨by simp;omega,rfl⟩)
  ·go_enter Tryz.func12,Tryz.ntmps12;go_wp2;go_ret
   first | (simp;done) | (simp;omega) | (exact⟨by simp;omega,rfl⟩)
 ·go_enter Tryz.func12,Tryz.ntmps12;go_wp2;go_ret
  first | (simp;done) | (simp;omega) | (exact⟨by simp;omega,rfl⟩)
theorem within_r (n lo hi:Int) (w:World) :
  Calls Tryz.prog 21 #[.int .i64 n,.int .i64 lo,.int .i64 hi] w fun e w'=>e = .returned (.bool (inR lo hi n))∧w'=w:=by
 unfold inR
 by_cases h1:lo≤n
 ·by_cases h2:n≤hi
  ·go_enter Tryz.func21,Tryz.ntmps21;go_wp2;go_ret
   first | (simp;done) | (simp;omega) | (exact⟨by simp;omega,rfl⟩)
  ·go_enter Tryz.func21,Tryz.ntmps21;go_wp2;go_ret
   first | (simp;done) | (simp;omega) | (exact⟨by simp;omega,rfl⟩)
 ·go_enter Tryz.func21,Tryz.ntmps21;go_wp2;go_ret
  first | (simp;done) | (simp;omega) | (exact⟨by simp;omega,rfl⟩)
def pch (b:UInt8):Bool:=decide ((97≤b.toNat∧b.toNat≤122)∨(65≤b.toNat∧b.toNat≤90)∨(48≤b.toNat∧b.toNat≤57)∨b.toNat=46∨b.toNat=95∨b.toNat=45∨b.toNat=43)
def partL (l:List UInt8):Bool:=l.all pch && !(l == []) && !(l == [46]) && !(l == [46,46])
def partB (s:ByteArray):Bool:=partL s.data.toList
theorem idx_ge (x:UInt8):decide (Lib.indexByte [46,95,45,43] x ≥ 0)=decide (x.toNat=46∨x.toNat=95∨x.toNat=45∨x.toNat=43):=by
 have:=byte_all (p:=fun x=>decide (Lib.indexByte [46,95,45,43] x ≥ 0)==decide (x.toNat=46∨x.toNat=95∨x.toNat=45∨x.toNat=43)) (by decide +kernel) x
 simpa using this
theorem idx_byte (x:UInt8) (w:World):Calls Tryz.prog 62 #[.string ⟨#[46,95,45,43]⟩,.int .u8 x.toNat] w fun e w'=>e = .returned (.int .i64 (Lib.indexByte [46,95,45,43] x))∧w'=w:=by
 have:=Tryz.strings_IndexByte ⟨#[46,95,45,43]⟩ x.toNat w
 rwa [show ((x.toNat:Int).toNat.toUInt8)=x by simp,show (⟨#[46,95,45,43]⟩:ByteArray).data.toList = [46,95,45,43] from rfl]at this
def PartRel (s:ByteArray) (b:Bool) (i:Value):Prop:=∃ k:Nat,k≤s.size∧i = .int .i64 k∧b=(s.data.toList.drop k).all pch
theorem inPart_any (x:UInt8) (w:World) (b:Bool) (hb:pch x=b) :
  Calls Tryz.prog 49 #[.int .u8 x.toNat] w fun e w'=>e = .returned (.bool b)∧w'=w:=by
 have hx:x.toNat<256:=x.toNat_lt;have hid:=idx_ge x;unfold pch at hb;obtain⟨c,hc⟩:∃ c,Lib.indexByte [46,95,45,43] x=c:=⟨_,rfl⟩;have hidx:=idx_byte x;rw[hc]at hid hidx;replace hid:(0≤c)↔(x.toNat=46∨x.toNat=95∨x.toNat=45∨x.toNat=43):=decide_eq_decide.1 hid;obtain⟨hcH,hidxH⟩:=hq2 hc (Lib.hid hidx);clear hc hidx;go_enter Tryz.func49,Tryz.ntmps49;go_wp2_with (go_at_call 62;refine(hidxH.out _).mono ?_;rintro e wz ⟨rfl,rfl⟩)
 all_goals first
  | (exfalso;omega)
  | (go_ret;refine⟨ret_bool ?_,rfl⟩;rw[← hb,Bool.eq_iff_iff];simp only[Bool.or_eq_true,decide_eq_true_iff];first | omega | (simp;omega))
theorem part_loop {s:ByteArray} {k:Nat} {b:Bool} (h:k<s.size) (hb:b=(s.data.toList.drop k).all pch):b=(pch s[k]&&(s.data.toList.drop (k+1)).all pch):=all_step h hb
theorem isPart_any (s:ByteArray) (w:World) (hs:s.size≤9223372036854775807) (b:Bool) (hb:partB s=b) :
  Calls Tryz.prog 32 #[.string s] w fun e w'=>e = .returned (.bool b)∧w=w':=by
 obtain⟨a,ha⟩:∃ a,a=s.data.toList.all pch:=⟨_,rfl⟩;unfold partB partL at hb;rw[← ha,← Lib.toList_data s]at hb;obtain⟨haH,hbH⟩:=hq2 ha (Lib.hid hb);clear ha hb;go_enter Tryz.func32,Tryz.ntmps32;go_wp2
 go_loop [6] (fun i=>PartRel s a i) (fun i=>s.size-(intOf i).toNat)
 case atStart=>exact⟨0,Nat.zero_le _,rfl,haH.out⟩
 case round =>
  obtain⟨k,hk,rfl,hr⟩:=hrel;have hrH:=Lib.hid hr;clear hr
  by_cases hlt:k<s.size
  ·have hs:=part_loop hlt hrH.out
   cases hp:pch s[k]
   ·rw[hp,Bool.false_and]at hs;have hb:=hbH.out;rw[hs,Bool.false_and,Bool.false_and,Bool.false_and]at hb;subst hb;clear hs;have hpH:=Lib.hid hp;clear hp;go_wp2_with (go_at_call 49;refine(inPart_any _ _ _ (by exact hpH.out)).mono ?_;rintro e wz ⟨rfl,rfl⟩);go_ret;exact⟨rfl,rfl⟩
   ·rw[hp,Bool.true_and]at hs;have R:PartRel s a (.int .i64 (k+1)):=⟨k+1,by omega,by go_num,hs⟩;clear hs;obtain⟨hpH,RH⟩:=hq2 hp (Lib.hid R);clear hp R;go_wp2_with (go_at_call 49;refine(inPart_any _ _ _ (by exact hpH.out)).mono ?_;rintro e wz ⟨rfl,rfl⟩);refine⟨?rel,?measure⟩
    case measure=>(simp[intOf];omega)
    case rel=>first | exact RH.out | exact⟨rfl,RH.out⟩
  ·have e:s.data.toList.drop k = []:=List.drop_eq_nil_of_le (by simp;omega);have ha2:a=true:=by have:=hrH.out;rw[e]at this;exact this
   clear hrH e;subst ha2;go_wp2
   all_goals (go_ret;refine⟨ret_bool ?_,rfl⟩;rw[← hbH.out];simp[*])
theorem risPart_any (s:ByteArray) (w:World) (hs:s.size≤9223372036854775807) (b:Bool) (hb:partB s=b) :
  Calls Tryz.prog 40 #[.string s] w fun e w'=>e = .returned (.bool b)∧w=w':=by
 obtain⟨a,ha⟩:∃ a,a=s.data.toList.all pch:=⟨_,rfl⟩;unfold partB partL at hb;rw[← ha,← Lib.toList_data s]at hb;obtain⟨haH,hbH⟩:=hq2 ha (Lib.hid hb);clear ha hb;go_enter Tryz.func40,Tryz.ntmps40;go_wp2
 go_loop [7] (fun i=>PartRel s a i) (fun i=>s.size-(intOf i).toNat)
 case atStart=>exact⟨0,Nat.zero_le _,rfl,haH.out⟩
 case round =>
  obtain⟨k,hk,rfl,hr⟩:=hrel;have hrH:=Lib.hid hr;clear hr
  by_cases hlt:k<s.size
  ·have hs:=part_loop hlt hrH.out;have hid:=idx_ge s[k];obtain⟨c,hc⟩:∃ c,Lib.indexByte [46,95,45,43] s[k]=c:=⟨_,rfl⟩;have hidx:=idx_byte s[k];rw[hc]at hid hidx;replace hid:(0≤c)↔(s[k].toNat=46∨s[k].toNat=95∨s[k].toNat=45∨s[k].toNat=43):=decide_eq_decide.1 hid;have hkk:s[k].toNat<256:=s[k].toNat_lt;have R0:pch s[k]=true→PartRel s a (.int .i64 (k+1)):=fun h=>⟨k+1,by omega,by go_num,by rw[hs,h,Bool.true_and]⟩;have F0:pch s[k]=false→b=false:=fun h=>by rw[← hbH.out,hs,h,Bool.false_and,Bool.false_and,Bool.false_and,Bool.false_and]
   clear hs;obtain⟨hcH,hidxH,R0H,F0H,hidH⟩:=hqb hc hidx R0 F0 (Lib.hid hid);clear hc hidx R0 F0 hid;go_wp2_with (go_at_call 62;refine(hidxH.out _).mono ?_;rintro e wz ⟨rfl,rfl⟩)
   all_goals have hid:=hidH.out
   all_goals first
    | (exfalso;omega)
    | (go_ret;have hf:=F0H.out (decide_eq_false (by omega));exact⟨ret_bool hf.symm,rfl⟩)
    | (have R:=R0H.out (decide_eq_true (by omega));refine⟨?rel,?measure⟩;(case measure=>(simp[intOf];omega));(case rel=>exact R))
    | skip
  ·have e:s.data.toList.drop k = []:=List.drop_eq_nil_of_le (by simp;omega);have ha2:a=true:=by have:=hrH.out;rw[e]at this;exact this
   clear hrH e;subst ha2;go_wp2
   all_goals (go_ret;refine⟨ret_bool ?_,rfl⟩;rw[← hbH.out];simp[*])
def parts (s:ByteArray):List ByteArray:=Lib.splitB ⟨#[47]⟩ 0 (Lib.countB s ⟨#[47]⟩) s
def pathB (s:ByteArray):Bool:=inR 1 200 s.size&&(parts s).all partB
theorem parts_size {s x:ByteArray} (h:x∈parts s):x.size≤s.size:=splitB_size _ _ _ _ h
theorem parts_len (s:ByteArray):(parts s).length=Lib.countB s ⟨#[47]⟩+1:=Lib.splitB_all _ (by decide) 0 _ s rfl
theorem split_any (s:ByteArray) (w:World) (hm:MaxLenAt w) (hs:s.size<4294967281) :
  Calls Tryz.prog 31 #[.string s,.string ⟨#[47]⟩] w fun e w'=>∃ (A:Option Addr) (n:Nat),e = .returned (.slice A n n)∧SlAt RStr w' A n (parts s)∧Below w.heap.size w w':=by
 obtain⟨m,hm⟩:=hm;refine(Tryz.strings_Split s ⟨#[47]⟩ m w hs hm (by decide)).mono ?_;rintro e w' ⟨rfl,rfl⟩;refine⟨_,_,rfl,⟨parts_len s,fun _=>⟨_,_,rfl,fun i x hx j v hv=>?_⟩,fun x hx=>?_⟩,(Below.refl _ _).alloc (Nat.le_refl _) _⟩
 ·match j,hv with
  | 0,hv =>
   simp only[RStr,List.getElem?_cons_zero,Option.some.injEq]at hv;subst hv;have:((parts s).map Value.string)[i]? = some (.string x):=by rw[List.getElem?_map,hx];rfl
   simp only[RStr,Nat.mul_one,Nat.zero_add,Nat.add_zero];rw[cell_new]
   simpa[parts]using this
  | n+1,hv=>simp[RStr]at hv
 ·have:=parts_size hx;show x.size≤maxLen;unfold maxLen;omega
theorem drop_all {α:Type} {p:α→Bool} {l:List α} {k:Nat} {x:α} (h:l[k]? = some x):(l.drop k).all p=(p x&&(l.drop (k+1)).all p):=by
 rw[drop_cons h,List.all_cons]
def PathRel (l:List ByteArray) (a:Bool) (i:Value):Prop:=∃ k:Nat,k≤l.length∧i = .int .i64 k∧(l.drop k).all partB=a
theorem isPath_any (s:ByteArray) (w:World) (hm:MaxLenAt w) (b:Bool) (hb:pathB s=b) :
  Calls Tryz.prog 11 #[.string s] w fun e w'=>e = .returned (.bool b)∧Below w.heap.size w w':=by
 unfold pathB inR at hb
 by_cases h0:1≤s.size
 ·by_cases h1:s.size≤200
  ·rw[decide_eq_true (by omega),decide_eq_true (by omega),Bool.true_and,Bool.true_and]at hb;obtain⟨hmH,hbH⟩:=hq2 hm (Lib.hid hb);clear hm hb;go_enter Tryz.func11,Tryz.ntmps11;go_wp2_with fail;refine(split_any s _ hmH.out (by omega)).mono ?_;rintro e w1 ⟨A,len,rfl,hl,hb1⟩;have hll:=hl.1;have hlen:len≤4294967281:=by rw[← hll,parts_len];have:=Lib.countB_le ⟨#[47]⟩ (by decide) _ s (Nat.le_refl _);omega
   have hsz:∀ x∈parts s,x.size≤9223372036854775807:=fun x hx=>by have:=parts_size hx;omega
   obtain⟨l,hpl⟩:∃ l,parts s=l:=⟨_,rfl⟩;rw[hpl]at hl hll hsz hbH;obtain⟨hlH,hb1H,hllH,hszH,hplH⟩:=hqb hl hb1 hll hsz (Lib.hid hpl);clear hl hb1 hll hsz hpl;go_wp2
   go_loop [16] (fun i=>PathRel l b i) (fun i=>len-(intOf i).toNat)
   case atStart=>exact⟨0,Nat.zero_le _,rfl,hbH.out⟩
   case round =>
    obtain⟨k,hk,rfl,hr⟩:=hrel;have hkl:k≤len:=by have:=hllH.out;omega
    by_cases hlt:k<len
    ·obtain⟨b0,off,hA,_⟩:=hlH.out.2.1 (by omega);subst hA;obtain⟨x,hx⟩:∃ x,l[k]? = some x:=⟨l[k]'(by have:=hllH.out;omega),List.getElem?_eq_getElem _⟩;have c0:=cell_Str hlH.out hx;have hkl2:k+1≤l.length:=by have:=hllH.out;omega
     have hxs:=hszH.out x (List.mem_of_getElem? hx);rw[drop_all hx]at hr;obtain⟨p,hp⟩:∃ p,partB x=p:=⟨_,rfl⟩;rw[hp]at hr;obtain⟨hxH,hpH⟩:=hq2 hx (Lib.hid hp);clear hx hp
     cases p
     ·rw[Bool.false_and]at hr;subst hr;go_wp2_with (go_at_call 32;refine(isPart_any x _ hxs _ (by exact hpH.out)).mono ?_;rintro e wz ⟨rfl,rfl⟩);go_ret;exact⟨rfl,hb1H.out⟩
     ·rw[Bool.true_and]at hr;have R:PathRel l b (.int .i64 (k+1)):=⟨k+1,hkl2,by go_num,hr⟩;obtain⟨RH,hrH⟩:=hq2 R (Lib.hid hr);clear R hr;go_wp2_with (go_at_call 32;refine(isPart_any x _ hxs _ (by exact hpH.out)).mono ?_;rintro e wz ⟨rfl,rfl⟩);refine⟨?rel,?measure⟩
      case measure=>(simp[intOf];omega)
      case rel=>first | exact RH.out | exact⟨rfl,RH.out⟩
    ·have e:l.drop k = []:=List.drop_eq_nil_of_le (by have:=hllH.out;omega);rw[e]at hr;subst hr;clear e;go_wp2;go_ret;exact⟨rfl,hb1H.out⟩
  ·rw[decide_eq_false (p:=(s.size:Int)≤200) (by omega),Bool.and_false,Bool.false_and]at hb;subst hb;go_enter Tryz.func11,Tryz.ntmps11;go_wp2;go_ret;exact⟨rfl,Below.refl _ _⟩
 ·rw[decide_eq_false (by omega),Bool.false_and,Bool.false_and]at hb;subst hb;go_enter Tryz.func11,Tryz.ntmps11;go_wp2;go_ret;exact⟨rfl,Below.refl _ _⟩
end Go.Proofs.YtcdpdaloceengaaGreatDoor.C10
namespace Go.Proofs.YtcdpdaloceengaaGreatDoor.C10
open Go.RowKit Go.Shelf
theorem risPath_any (s:ByteArray) (w:World) (hm:MaxLenAt w) (hs:s.size<4294967281) (b:Bool) (hb:pathB s=b) :
  Calls Tryz.prog 20 #[.string s] w fun e w'=>e = .returned (.bool b)∧Below w.heap.size w w':=by
 unfold pathB at hb;obtain⟨a,ha⟩:∃ a,(parts s).all partB=a:=⟨_,rfl⟩;rw[ha]at hb;obtain⟨hmH,hbH,haH⟩:=hq2 hm (hq2 hb (Lib.hid ha));clear hm hb ha;go_enter Tryz.func20,Tryz.ntmps20;go_wp2_with fail;refine(split_any s _ hmH.out hs).mono ?_;rintro e w1 ⟨A,len,rfl,hl,hb1⟩;have hll:=hl.1;have hlen:len≤4294967281:=by rw[← hll,parts_len];have:=Lib.countB_le ⟨#[47]⟩ (by decide) _ s (Nat.le_refl _);omega
 have hsz:∀ x∈parts s,x.size≤9223372036854775807:=fun x hx=>by have:=parts_size hx;omega
 obtain⟨l,hpl⟩:∃ l,parts s=l:=⟨_,rfl⟩;rw[hpl]at hl hll hsz haH;obtain⟨hlH,hb1H,hllH,hszH,hplH⟩:=hqb hl hb1 hll hsz (Lib.hid hpl);clear hl hb1 hll hsz hpl;go_wp2
 go_loop [8] (fun i=>PathRel l a i) (fun i=>len-(intOf i).toNat)
 case atStart=>exact⟨0,Nat.zero_le _,rfl,haH.out⟩
 case round =>
  obtain⟨k,hk,rfl,hr⟩:=hrel;have hkl:k≤len:=by have:=hllH.out;omega
  by_cases hlt:k<len
  ·obtain⟨b0,off,hA,_⟩:=hlH.out.2.1 (by omega);subst hA;obtain⟨x,hx⟩:∃ x,l[k]? = some x:=⟨l[k]'(by have:=hllH.out;omega),List.getElem?_eq_getElem _⟩;have c0:=cell_Str hlH.out hx;have hkl2:k+1≤l.length:=by have:=hllH.out;omega
   have hxs:=hszH.out x (List.mem_of_getElem? hx);rw[drop_all hx]at hr;obtain⟨p,hp⟩:∃ p,partB x=p:=⟨_,rfl⟩;rw[hp]at hr;obtain⟨hxH,hpH⟩:=hq2 hx (Lib.hid hp);clear hx hp
   cases p
   ·rw[Bool.false_and]at hr;subst hr;have hb:=hbH.out;rw[Bool.and_false]at hb;subst hb;go_wp2_with (go_at_call 40;refine(risPart_any x _ hxs _ (by exact hpH.out)).mono ?_;rintro e wz ⟨rfl,rfl⟩);go_ret;exact⟨rfl,hb1H.out⟩
   ·rw[Bool.true_and]at hr;have R:PathRel l a (.int .i64 (k+1)):=⟨k+1,hkl2,by go_num,hr⟩;obtain⟨RH,hrH⟩:=hq2 R (Lib.hid hr);clear R hr;go_wp2_with (go_at_call 40;refine(risPart_any x _ hxs _ (by exact hpH.out)).mono ?_;rintro e wz ⟨rfl,rfl⟩);refine⟨?rel,?measure⟩
    case measure=>(simp[intOf];omega)
    case rel=>first | exact RH.out | exact⟨rfl,RH.out⟩
  ·have e:l.drop k = []:=List.drop_eq_nil_of_le (by have:=hllH.out;omega);rw[e]at hr;subst hr;clear e;have hb:=hbH.out;clear hbH;rw[show ([]:List ByteArray).all partB=true from rfl,Bool.and_true]at hb;have hbH:=Lib.hid hb;clear hb;go_wp2_with (go_at_call 21;refine(within_r _ _ _ _).mono ?_;rintro e wz ⟨rfl,rfl⟩);go_ret;exact⟨ret_bool hbH.out,hb1H.out⟩
def hcut:List UInt8:=[48,49,50,51,52,53,54,55,56,57,97,98,99,100,101,102]
def digB (s:ByteArray):Bool:=((s.size:Int)==16)&&s.data.toList.all (hcut.contains ·)
theorem trim_hex (s:ByteArray) (w:World) (hs:s.size≤9223372036854775807) :
  Calls Tryz.prog 47 #[.string s,.string ⟨#[48,49,50,51,52,53,54,55,56,57,97,98,99,100,101,102]⟩] w fun e w' =>
   e = .returned (.string ⟨(Lib.trimS s.data.toList hcut).toArray⟩)∧Below w.heap.size w w' :=
 Any.strings_Trim_laid Tryz.lays160 (by kernel_rfl) s ⟨#[48,49,50,51,52,53,54,55,56,57,97,98,99,100,101,102]⟩ w hs (by decide) (ascii_of_all (by decide))
theorem digest_any (s:ByteArray) (b:Bool) (w:World) (hs:s.size≤maxLen) (hb:digB s=b) :
  Calls Tryz.prog 30 #[.string s] w fun e w'=>e = .returned (.bool b)∧Below w.heap.size w w':=by
 unfold maxLen at hs;unfold digB at hb
 by_cases h0:((s.size:Int)==16)=true
 ·rw[h0,Bool.true_and]at hb
  cases b
  ·obtain⟨c,r,hcr⟩:=trim_some hb;obtain⟨hbH,hcrH⟩:=hq2 hb (Lib.hid hcr);clear hb hcr;go_enter Tryz.func30,Tryz.ntmps30;go_wp2_with fail;refine(trim_hex s _ hs).mono ?_;rw[hcrH.out];rintro e w1 ⟨rfl,hb1⟩;have hb1H:=Lib.hid hb1;clear hb1;go_wp2;go_ret;exact⟨rfl,hb1H.out⟩
  ·have hcr:=trim_nil hb;obtain⟨hbH,hcrH⟩:=hq2 hb (Lib.hid hcr);clear hb hcr;go_enter Tryz.func30,Tryz.ntmps30;go_wp2_with fail;refine(trim_hex s _ hs).mono ?_;rw[hcrH.out];rintro e w1 ⟨rfl,hb1⟩;have hb1H:=Lib.hid hb1;clear hb1;go_wp2;go_ret;exact⟨rfl,hb1H.out⟩
 ·have h1:((s.size:Int)==16)=false:=by simpa using h0
  rw[h1,Bool.false_and]at hb;subst hb;clear h0;go_enter Tryz.func30,Tryz.ntmps30;go_wp2;go_ret;exact⟨rfl,Below.refl _ _⟩
theorem rdigest_any (s:ByteArray) (b:Bool) (w:World) (hs:s.size≤maxLen) (hb:digB s=b) :
  Calls Tryz.prog 39 #[.string s] w fun e w'=>e = .returned (.bool b)∧Below w.heap.size w w':=by
 unfold maxLen at hs;unfold digB at hb
 by_cases h0:((s.size:Int)==16)=true
 ·rw[h0,Bool.true_and]at hb
  cases b
  ·obtain⟨c,r,hcr⟩:=trim_some hb;obtain⟨hbH,hcrH⟩:=hq2 hb (Lib.hid hcr);clear hb hcr;go_enter Tryz.func39,Tryz.ntmps39;go_wp2_with fail;refine(trim_hex s _ hs).mono ?_;rw[hcrH.out];rintro e w1 ⟨rfl,hb1⟩;have hb1H:=Lib.hid hb1;clear hb1;go_wp2;go_ret;exact⟨rfl,hb1H.out⟩
  ·have hcr:=trim_nil hb;obtain⟨hbH,hcrH⟩:=hq2 hb (Lib.hid hcr);clear hb hcr;go_enter Tryz.func39,Tryz.ntmps39;go_wp2_with fail;refine(trim_hex s _ hs).mono ?_;rw[hcrH.out];rintro e w1 ⟨rfl,hb1⟩;have hb1H:=Lib.hid hb1;clear hb1;go_wp2;go_ret;exact⟨rfl,hb1H.out⟩
 ·have h1:((s.size:Int)==16)=false:=by simpa using h0
  rw[h1,Bool.false_and]at hb;subst hb;clear h0;go_enter Tryz.func39,Tryz.ntmps39;go_wp2;go_ret;exact⟨rfl,Below.refl _ _⟩
end Go.Proofs.YtcdpdaloceengaaGreatDoor.C10
namespace Go.Proofs.YtcdpdaloceengaaGreatDoor.C10
open Go.RowKit
theorem five_below {w w':World} {a0 a1 a2 a3 a4:Addr} {v0 v1 v2 v3 v4:Value} (hb:Below w.heap.size w w') (h:w.cell? a0=some v0∧w.cell? a1=some v1∧w.cell? a2=some v2∧w.cell? a3=some v3∧w.cell? a4=some v4) :
  w'.cell? a0=some v0∧w'.cell? a1=some v1∧w'.cell? a2=some v2∧w'.cell? a3=some v3∧w'.cell? a4=some v4 :=
 ⟨(hb.cell (cell?_lt h.1)).trans h.1,(hb.cell (cell?_lt h.2.1)).trans h.2.1,(hb.cell (cell?_lt h.2.2.1)).trans h.2.2.1,(hb.cell (cell?_lt h.2.2.2.1)).trans h.2.2.2.1,(hb.cell (cell?_lt h.2.2.2.2)).trans h.2.2.2.2⟩
def histErr:Option Int→List TestRun→Int
 | _,[]=>0
 | p,r::s=>if pathB r.test=true then (if digB r.key=true then (if inR 0 1000000000 r.at_=true∧inR 0 100000 r.seconds=true then (if p.map (fun t=>decide (r.at_<t))=some true then 8 else histErr (some r.at_) s) else 1) else 3) else 5
def prevAt (l:List TestRun) (k:Nat):Option Int:=if k=0 then none else (l[k-1]?).map (·.at_)
def histF (l:List TestRun):Int:=if l.length≤3000 then histErr none l else 2
def HistRel (l:List TestRun) (c:Int) (w0:World) (i:Value) (wr:World):Prop :=
 ∃ k:Nat,k≤l.length∧i = .int .i64 k∧histErr (prevAt l k) (l.drop k)=c∧Below w0.heap.size w0 wr
theorem hist_ok (A:Option Addr) (len cap:Nat) (l:List TestRun) (w:World) (hm:MaxLenAt w) (hlen:len≤3000) (hl:SlAt RTestRun w A len l) (c:Int) (hF:histErr none l=c) :
  Calls Tryz.prog 10 #[.slice A len cap] w fun e w'=>e = .returned (.int .i64 c)∧Below w.heap.size w w':=by
 have hll:=hl.1;obtain⟨hllH,hFH,hlH,hmH⟩:=hq2 hll (hq2 hF (hq2 hl (Lib.hid hm)));clear hll hF hl hm;go_enter Tryz.func10,Tryz.ntmps10;go_wp2
 go_loopw [10] (fun i wr=>HistRel l c w i wr) (fun i _=>len-(intOf i).toNat)
 case atStart=>exact⟨0,Nat.zero_le _,rfl,hFH.out,Below.refl _ _⟩
 case round =>
  obtain⟨k,hk,rfl,hck,hb⟩:=hrel;have hkl:k≤len:=by have:=hllH.out;omega
  have hbs:=hb.size
  by_cases hlt:k<len
  ·obtain⟨b,off,hA,_⟩:=hlH.out.2.1 (by omega);subst hA;obtain⟨x,hx⟩:∃ x,l[k]? = some x:=⟨l[k]'(by have:=hllH.out;omega),List.getElem?_eq_getElem _⟩;obtain⟨c0,c1,c2,c3,c4⟩:=cells_TestRun (hlH.out.below hb) hx;obtain⟨o0,o1,_⟩:=hlH.out.2.2 x (List.mem_of_getElem? hx);have hkl2:k+1≤l.length:=by have:=hllH.out;omega
   have hpn:prevAt l (k+1)=some x.at_:=by rw[prevAt,if_neg (by omega),show k+1-1=k from rfl,hx];rfl
   rw[drop_cons hx,histErr]at hck;obtain⟨te,ke,at_,ps,se⟩:=x;simp only at c0 c1 c2 c3 c4 hck o0 o1 hpn;obtain⟨b1,hb1⟩:∃ b,pathB te=b:=⟨_,rfl⟩;obtain⟨b2,hb2⟩:∃ b,digB ke=b:=⟨_,rfl⟩;have hba:=hb.alloc hbs (.cells #[.string te,.string ke,.int .i64 at_,.bool ps,.int .i64 se] 39);have hbas:=hba.size;obtain⟨hxH,hbH,hbaH,hbasH,o0H,o1H,hb1H,hb2H,hpnH,hckH,hkl2H⟩:=hq2 hx (hq2 hb (hqc hba hbas o0 o1 hb1 hb2 hpn hck (Lib.hid hkl2)));clear hx hb hba hbas o0 o1 hb1 hb2 hpn hck hkl2;go_wp2_with fail;refine(isPath_any te _ (hmH.out.below hbaH.out) b1 hb1H.out).mono ?_;rintro e w1 ⟨rfl,hw1⟩;obtain⟨q0,q1,q2,q3,q4⟩:=five_below hw1 ⟨cell_new _ _ _ 0,cell_new _ _ _ 1,cell_new _ _ _ 2,cell_new _ _ _ 3,cell_new _ _ _ 4⟩;have hbw1:=hbaH.out.trans (hw1.mono hbasH.out);clear c0 c1 c2 c3 c4;obtain⟨hw1H,hbw1H⟩:=hq2 hw1 (Lib.hid hbw1);clear hw1 hbw1
   cases b1
   ·have hck:=hckH.out;clear hckH;rw[if_neg (by rw[hb1H.out];simp)]at hck;clear q0 q1 q2 q3 q4;have hckH:=Lib.hid hck;clear hck;go_wp2;go_ret;exact⟨ret1_int hckH.out,hbw1H.out⟩
   ·go_wp2_with fail;refine(digest_any ke b2 _ o1H.out hb2H.out).mono ?_;rintro e w2 ⟨rfl,hw2⟩;obtain⟨q0,q1,q2,q3,q4⟩:=five_below hw2 ⟨q0,q1,q2,q3,q4⟩;have hbw2:=hbw1H.out.trans (hw2.mono hbw1H.out.size);obtain⟨hw2H,hbw2H⟩:=hq2 hw2 (Lib.hid hbw2);clear hw2 hbw2
    cases b2
    ·have hck:=hckH.out;clear hckH;rw[if_pos hb1H.out,if_neg (by rw[hb2H.out];simp)]at hck;clear q0 q1 q2 q3 q4;have hckH:=Lib.hid hck;clear hck;go_wp2;go_ret;exact⟨ret1_int hckH.out,hbw2H.out⟩
    ·have hck:=hckH.out;clear hckH;rw[if_pos hb1H.out,if_pos hb2H.out]at hck
     by_cases i2:inR 0 1000000000 at_=true
     ·by_cases i3:inR 0 100000 se=true
      ·rw[if_pos ⟨i2,i3⟩]at hck
       by_cases hk0:k=0
       ·subst hk0;have R:∀ nq,HistRel l c w (.int .i64 1) (w2.drewN nq):=by
         refine fun nq=>⟨1,hkl2H.out,by go_num,?_,bel_drewN hbw2H.out nq⟩;rw[prevAt,if_pos rfl,Option.map_none,if_neg (by decide)]at hck;rw[show prevAt l 1=_ from hpnH.out];exact hck
        obtain⟨RH,hckH⟩:=hq2 R (Lib.hid hck);clear R hck;go_wp2_with (go_at_call 12;refine(within_p _ _ _ _).mono ?_;rintro e wz ⟨rfl,rfl⟩)
        go_quiet (fail)
        go_wp2;refine⟨?rel,?measure⟩
        case measure=>(simp[intOf];omega)
        case rel=>first | exact(RH.out _) | exact⟨rfl,(RH.out _)⟩
       ·obtain⟨j,rfl⟩:∃ j,k=j+1:=⟨k-1,by omega⟩;obtain⟨y,hy⟩:∃ y,l[j]? = some y:=⟨l[j]'(by have:=hllH.out;omega),List.getElem?_eq_getElem _⟩;obtain⟨_,_,d2,_,_⟩:=cells_TestRun (hlH.out.below hbw2H.out) hy;have hpr:prevAt l (j+1)=some y.at_:=by rw[prevAt,if_neg (by omega),show j+1-1=j from rfl,hy];rfl
        rw[hpr,Option.map_some]at hck;clear hpr;obtain⟨yt,hyt⟩:∃ t,y.at_=t:=⟨_,rfl⟩;rw[hyt]at d2 hck;obtain⟨hyH,hytH⟩:=hq2 hy (Lib.hid hyt);clear hy hyt
        by_cases hlt2:at_<yt
        ·rw[if_pos (by rw[decide_eq_true hlt2])]at hck;have hckH:=Lib.hid hck;clear hck;go_wp2_with (go_at_call 12;refine(within_p _ _ _ _).mono ?_;rintro e wz ⟨rfl,rfl⟩)
         go_quiet (fail)
         go_wp2;go_ret;exact⟨ret1_int hckH.out,bel_drewN hbw2H.out _⟩
        ·rw[if_neg (by rw[decide_eq_false hlt2];decide)]at hck;have hlt3:decide (at_<yt)=false:=decide_eq_false hlt2;have R:∀ nq,HistRel l c w (.int .i64 (j+1+1)) (w2.drewN nq):=by
          refine fun nq=>⟨j+1+1,hkl2H.out,by go_num,?_,bel_drewN hbw2H.out nq⟩;rw[hpnH.out];exact hck
         obtain⟨hckH,RH⟩:=hq2 hck (Lib.hid R);clear hck R;go_wp2_with (go_at_call 12;refine(within_p _ _ _ _).mono ?_;rintro e wz ⟨rfl,rfl⟩)
         go_quiet (fail)
         go_wp2;refine⟨?rel,?measure⟩
         case measure=>(simp[intOf];omega)
         case rel=>first | exact(RH.out _) | exact⟨rfl,(RH.out _)⟩
      ·rw[if_neg (fun h=>i3 h.2)]at hck;have i3:inR 0 100000 se=false:=by simpa using i3
       have hckH:=Lib.hid hck;clear hck;go_wp2_with (go_at_call 12;refine(within_p _ _ _ _).mono ?_;rintro e wz ⟨rfl,rfl⟩);go_ret;exact⟨ret1_int hckH.out,hbw2H.out⟩
     ·rw[if_neg (fun h=>i2 h.1)]at hck;have i2:inR 0 1000000000 at_=false:=by simpa using i2
      have hckH:=Lib.hid hck;clear hck;go_wp2_with (go_at_call 12;refine(within_p _ _ _ _).mono ?_;rintro e wz ⟨rfl,rfl⟩);go_ret;exact⟨ret1_int hckH.out,hbw2H.out⟩
  ·have e:l.drop k = []:=List.drop_eq_nil_of_le (by have:=hllH.out;omega);rw[e]at hck;have hc0:0=c:=by rw[← hck];unfold histErr;rfl
   obtain⟨hckH,hbH,eH,hc0H⟩:=hq2 hck (hq2 hb (hq2 e (Lib.hid hc0)));clear hck hb e hc0;go_wp2;go_ret;exact⟨ret1_int hc0H.out,hbH.out⟩
theorem hist_any (A:Option Addr) (len cap:Nat) (l:List TestRun) (w:World) (hm:MaxLenAt w) (hl:SlAt RTestRun w A len l) (c:Int) (hF:histF l=c) :
  Calls Tryz.prog 10 #[.slice A len cap] w fun e w'=>e = .returned (.int .i64 c)∧Below w.heap.size w w':=by
 unfold histF at hF;rw[hl.1]at hF
 by_cases h:len≤3000
 ·rw[if_pos h]at hF;exact hist_ok A len cap l w hm h hl c hF
 ·rw[if_neg h]at hF;subst hF;clear hl;go_enter Tryz.func10,Tryz.ntmps10;go_wp2;go_ret;exact⟨rfl,Below.refl _ _⟩
theorem rhist_ok (A:Option Addr) (len cap:Nat) (l:List TestRun) (w:World) (hm:MaxLenAt w) (hlen:len≤3000) (hl:SlAt RTestRun w A len l) (hsz:∀ r∈l,r.test.size<4294967281) (c:Int) (hF:histErr none l=c) :
  Calls Tryz.prog 19 #[.slice A len cap] w fun e w'=>e = .returned (.int .i64 c)∧Below w.heap.size w w':=by
 have hll:=hl.1;obtain⟨hllH,hFH,hlH,hmH,hszH⟩:=hqb hll hF hl hm (Lib.hid hsz);clear hll hF hl hm hsz;go_enter Tryz.func19,Tryz.ntmps19;go_wp2
 go_loopw [10] (fun i wr=>HistRel l c w i wr) (fun i _=>len-(intOf i).toNat)
 case atStart=>exact⟨0,Nat.zero_le _,rfl,hFH.out,Below.refl _ _⟩
 case round =>
  obtain⟨k,hk,rfl,hck,hb⟩:=hrel;have hkl:k≤len:=by have:=hllH.out;omega
  have hbs:=hb.size
  by_cases hlt:k<len
  ·obtain⟨b,off,hA,_⟩:=hlH.out.2.1 (by omega);subst hA;obtain⟨x,hx⟩:∃ x,l[k]? = some x:=⟨l[k]'(by have:=hllH.out;omega),List.getElem?_eq_getElem _⟩;obtain⟨c0,c1,c2,c3,c4⟩:=cells_TestRun (hlH.out.below hb) hx;obtain⟨o0,o1,_⟩:=hlH.out.2.2 x (List.mem_of_getElem? hx);have hxz:=hszH.out x (List.mem_of_getElem? hx);have hkl2:k+1≤l.length:=by have:=hllH.out;omega
   have hpn:prevAt l (k+1)=some x.at_:=by rw[prevAt,if_neg (by omega),show k+1-1=k from rfl,hx];rfl
   rw[drop_cons hx,histErr]at hck;obtain⟨te,ke,at_,ps,se⟩:=x;simp only at c0 c1 c2 c3 c4 hck o0 o1 hpn hxz;obtain⟨b1,hb1⟩:∃ b,pathB te=b:=⟨_,rfl⟩;obtain⟨b2,hb2⟩:∃ b,digB ke=b:=⟨_,rfl⟩;have hba:=hb.alloc hbs (.cells #[.string te,.string ke,.int .i64 at_,.bool ps,.int .i64 se] 39);have hbas:=hba.size;obtain⟨hxH,hbH,hbaH,hbasH,o0H,o1H,hb1H,hb2H,hpnH,hckH,hkl2H⟩:=hq2 hx (hq2 hb (hqc hba hbas o0 o1 hb1 hb2 hpn hck (Lib.hid hkl2)));clear hx hb hba hbas o0 o1 hb1 hb2 hpn hck hkl2;go_wp2_with fail;refine(risPath_any te _ (hmH.out.below hbaH.out) hxz b1 hb1H.out).mono ?_;rintro e w1 ⟨rfl,hw1⟩;obtain⟨q0,q1,q2,q3,q4⟩:=five_below hw1 ⟨cell_new _ _ _ 0,cell_new _ _ _ 1,cell_new _ _ _ 2,cell_new _ _ _ 3,cell_new _ _ _ 4⟩;have hbw1:=hbaH.out.trans (hw1.mono hbasH.out);clear c0 c1 c2 c3 c4;obtain⟨hw1H,hbw1H⟩:=hq2 hw1 (Lib.hid hbw1);clear hw1 hbw1
   cases b1
   ·have hck:=hckH.out;clear hckH;rw[if_neg (by rw[hb1H.out];simp)]at hck;clear q0 q1 q2 q3 q4;have hckH:=Lib.hid hck;clear hck;go_wp2;go_ret;exact⟨ret1_int hckH.out,hbw1H.out⟩
   ·go_wp2_with fail;refine(rdigest_any ke b2 _ o1H.out hb2H.out).mono ?_;rintro e w2 ⟨rfl,hw2⟩;obtain⟨q0,q1,q2,q3,q4⟩:=five_below hw2 ⟨q0,q1,q2,q3,q4⟩;have hbw2:=hbw1H.out.trans (hw2.mono hbw1H.out.size);obtain⟨hw2H,hbw2H⟩:=hq2 hw2 (Lib.hid hbw2);clear hw2 hbw2
    cases b2
    ·have hck:=hckH.out;clear hckH;rw[if_pos hb1H.out,if_neg (by rw[hb2H.out];simp)]at hck;clear q0 q1 q2 q3 q4;have hckH:=Lib.hid hck;clear hck;go_wp2;go_ret;exact⟨ret1_int hckH.out,hbw2H.out⟩
    ·have hck:=hckH.out;clear hckH;rw[if_pos hb1H.out,if_pos hb2H.out]at hck
     by_cases i2:inR 0 1000000000 at_=true
     ·by_cases i3:inR 0 100000 se=true
      ·rw[if_pos ⟨i2,i3⟩]at hck
       by_cases hk0:k=0
       ·subst hk0;have R:∀ nq,HistRel l c w (.int .i64 1) (w2.drewN nq):=by
         refine fun nq=>⟨1,hkl2H.out,by go_num,?_,bel_drewN hbw2H.out nq⟩;rw[prevAt,if_pos rfl,Option.map_none,if_neg (by decide)]at hck;rw[show prevAt l 1=_ from hpnH.out];exact hck
        obtain⟨RH,hckH⟩:=hq2 R (Lib.hid hck);clear R hck;go_wp2_with (go_at_call 21;refine(within_r _ _ _ _).mono ?_;rintro e wz ⟨rfl,rfl⟩)
        go_quiet (fail)
        go_wp2;refine⟨?rel,?measure⟩
        case measure=>(simp[intOf];omega)
        case rel=>first | exact(RH.out _) | exact⟨rfl,(RH.out _)⟩
       ·obtain⟨j,rfl⟩:∃ j,k=j+1:=⟨k-1,by omega⟩;obtain⟨y,hy⟩:∃ y,l[j]? = some y:=⟨l[j]'(by have:=hllH.out;omega),List.getElem?_eq_getElem _⟩;obtain⟨_,_,d2,_,_⟩:=cells_TestRun (hlH.out.below hbw2H.out) hy;have hpr:prevAt l (j+1)=some y.at_:=by rw[prevAt,if_neg (by omega),show j+1-1=j from rfl,hy];rfl
        rw[hpr,Option.map_some]at hck;clear hpr;obtain⟨yt,hyt⟩:∃ t,y.at_=t:=⟨_,rfl⟩;rw[hyt]at d2 hck;obtain⟨hyH,hytH⟩:=hq2 hy (Lib.hid hyt);clear hy hyt
        by_cases hlt2:at_<yt
        ·rw[if_pos (by rw[decide_eq_true hlt2])]at hck;have hckH:=Lib.hid hck;clear hck;go_wp2_with (go_at_call 21;refine(within_r _ _ _ _).mono ?_;rintro e wz ⟨rfl,rfl⟩)
         go_quiet (fail)
         go_wp2;go_ret;exact⟨ret1_int hckH.out,bel_drewN hbw2H.out _⟩
        ·rw[if_neg (by rw[decide_eq_false hlt2];decide)]at hck;have hlt3:decide (at_<yt)=false:=decide_eq_false hlt2;have R:∀ nq,HistRel l c w (.int .i64 (j+1+1)) (w2.drewN nq):=by
          refine fun nq=>⟨j+1+1,hkl2H.out,by go_num,?_,bel_drewN hbw2H.out nq⟩;rw[hpnH.out];exact hck
         obtain⟨hckH,RH⟩:=hq2 hck (Lib.hid R);clear hck R;go_wp2_with (go_at_call 21;refine(within_r _ _ _ _).mono ?_;rintro e wz ⟨rfl,rfl⟩)
         go_quiet (fail)
         go_wp2;refine⟨?rel,?measure⟩
         case measure=>(simp[intOf];omega)
         case rel=>first | exact(RH.out _) | exact⟨rfl,(RH.out _)⟩
      ·rw[if_neg (fun h=>i3 h.2)]at hck;have i3:inR 0 100000 se=false:=by simpa using i3
       have hckH:=Lib.hid hck;clear hck;go_wp2_with (go_at_call 21;refine(within_r _ _ _ _).mono ?_;rintro e wz ⟨rfl,rfl⟩);go_ret;exact⟨ret1_int hckH.out,hbw2H.out⟩
     ·rw[if_neg (fun h=>i2 h.1)]at hck;have i2:inR 0 1000000000 at_=false:=by simpa using i2
      have hckH:=Lib.hid hck;clear hck;go_wp2_with (go_at_call 21;refine(within_r _ _ _ _).mono ?_;rintro e wz ⟨rfl,rfl⟩);go_ret;exact⟨ret1_int hckH.out,hbw2H.out⟩
  ·have e:l.drop k = []:=List.drop_eq_nil_of_le (by have:=hllH.out;omega);rw[e]at hck;have hc0:0=c:=by rw[← hck];unfold histErr;rfl
   obtain⟨hckH,hbH,eH,hc0H⟩:=hq2 hck (hq2 hb (hq2 e (Lib.hid hc0)));clear hck hb e hc0;go_wp2;go_ret;exact⟨ret1_int hc0H.out,hbH.out⟩
theorem rhist_any (A:Option Addr) (len cap:Nat) (l:List TestRun) (w:World) (hm:MaxLenAt w) (hl:SlAt RTestRun w A len l) (hsz:∀ r∈l,r.test.size<4294967281) (c:Int) (hF:histF l=c) :
  Calls Tryz.prog 19 #[.slice A len cap] w fun e w'=>e = .returned (.int .i64 c)∧Below w.heap.size w w':=by
 unfold histF at hF;rw[hl.1]at hF
 by_cases h:len≤3000
 ·rw[if_pos h]at hF;exact rhist_ok A len cap l w hm h hl hsz c hF
 ·rw[if_neg h]at hF;subst hF;clear hl;go_enter Tryz.func19,Tryz.ntmps19;go_wp2;go_ret;exact⟨rfl,Below.refl _ _⟩
end Go.Proofs.YtcdpdaloceengaaGreatDoor.C10