/-
 Several texts of mine as one, without what is not wanted here: XEp, XExI, XPowX, XFlX, XChA, XChF, XChH.
-/
import Derived.Test.YtdiaabeollcjaaaGreatDoorTlAC10
import Derived.Lib.ReplaceLaws
import Derived.Lib.Join
import Derived.Lib.ItoaNum
import Derived.Lib.Atoi
import Derived.Test.YtdiaabeollcjaaaGreatDoorTlShelf
import Derived.Lib.AppendIntMem
import Derived.Lib.ItoaLen
import Derived.Lib.AtoiBound
import Derived.Lib.AtoiErrMem
import Derived.Test.YtdiaabeollcjaaaGreatDoorCards
import Derived.LaidSub
import Derived.Lib.LaidTab
set_option linter.unusedVariables false
set_option linter.unusedSimpArgs false
set_option maxRecDepth 100000
set_option maxHeartbeats 8000000
namespace Go.Proofs.YtdiaabeollcjaaaGreatDoor.C10
open Go.ChangeShapes Go.WideShapes Go.Deep Go.RowKit
def cutN (b:List UInt8):Nat:=if Lib.indexByte b 10 = -1 then b.length else (Lib.indexByte b 10).toNat+1
def linesK:Nat→List UInt8→List (List UInt8)
 | 0,_=>[]
 | k+1,b=>if b = [] then [] else b.take (cutN b)::linesK k (b.drop (cutN b))
def linesP (b:List UInt8):List (List UInt8):=linesK b.length b
def trimNl (s:List UInt8):List UInt8:=Lib.trimSuffix s [10]
def endedP (s:List UInt8):List UInt8:=trimNl s ++ [10]
def incW:List UInt8:=[105,110,99,108,117,100,101,32]
def inclP (s:List UInt8):Option ByteArray :=
 if Lib.hasPrefix (trimNl s) incW=true∧pathB (bsOf (Lib.trimPrefix (trimNl s) incW))=true then some (bsOf (Lib.trimPrefix (trimNl s) incW)) else none
def numP (s:ByteArray):Int:=(Lib.atoi s.data.toList).getD 0
def valK:List Var→ByteArray→Option (List UInt8)
 | [],_=>none
 | v::r,n=>if v.name=n then some (v.value.data.toList ++ [10]) else valK r n
def sayP (l:List ByteArray) (told:ByteArray):ByteArray:=bsOf (told.data.toList++Lib.join (l.map (·.data.toList)) [32] ++ [10])
def sortP (b:List UInt8):List UInt8:=((compB (sortB (und ((linesP b).map trimNl)))).map fun s=>s.data.toList ++ [10]).flatten
def replP (b old new:List UInt8):List UInt8:=Lib.replaceK old new (Lib.count b old) b
def wSort:ByteArray:=⟨#[115,111,114,116]⟩
def wCount:ByteArray:=⟨#[99,111,117,110,116]⟩
def wFirst:ByteArray:=⟨#[102,105,114,115,116]⟩
def wChange:ByteArray:=⟨#[99,104,97,110,103,101]⟩
def wDigest:ByteArray:=⟨#[100,105,103,101,115,116]⟩
def fnP (c:List ByteArray) (b:List UInt8):List UInt8 :=
 if wd c 0=wSort then sortP b
 else if wd c 0=wCount then Lib.itoa ((linesP b).length:Nat) ++ [10]
 else if wd c 0=wFirst then ((linesP b).take (min (numP (wd c 2)) ((linesP b).length:Nat)).toNat).flatten
 else if wd c 0=wChange then replP b (wd c 2).data.toList (wd c 3).data.toList
 else if wd c 0=wDigest then (digF b).data.toList ++ [10]
 else b
def epOf (x:Action):EP where
 dg:=digF
 isP:=pathB
 lns:=linesP
 ended:=endedP
 incl:=inclP
 num:=numP
 val:=valK x.vars.l
 say:=sayP
 fn:=fnP
 outs:=x.outputs.l
 inclP:=fun s p h=>by
  unfold inclP at h
  split at h
  ·rename_i hc
   injection h with h;rw[← h];exact hc.2
  ·cases h
/-! ### lines -/
theorem cutN_pos {b:List UInt8} (h:b≠[]):1≤cutN b:=by
 unfold cutN
 split
 ·exact Nat.pos_of_ne_zero fun e=>h (List.eq_nil_of_length_eq_zero e)
 ·omega
theorem index_lt:∀ (b:List UInt8) (c:UInt8),-1≤Lib.indexByte b c∧(Lib.indexByte b c<b.length)
 | [],c=>by simp[Lib.indexByte]
 | x::r,c=>by
  have ih:=index_lt r c;unfold Lib.indexByte
  split
  ·simp <;> omega
  ·split
   ·simp <;> omega
   ·simp <;> omega
theorem cutN_le (b:List UInt8):cutN b≤b.length:=by
 have:=index_lt b 10;unfold cutN
 split <;> omega
theorem linesK_more:∀ (k m:Nat) (b:List UInt8),b.length≤k→b.length≤m→linesK k b=linesK m b
 | 0,m,b,h,h'=>by
  obtain rfl:b = []:=List.eq_nil_of_length_eq_zero (by omega)
  cases m <;> simp[linesK]
 | k+1,0,b,h,h'=>by
  obtain rfl:b = []:=List.eq_nil_of_length_eq_zero (by omega);simp[linesK]
 | k+1,m+1,b,h,h'=>by
  unfold linesK
  by_cases hb:b = []
  ·rw[if_pos hb,if_pos hb]
  ·have h1:=cutN_pos hb;rw[if_neg hb,if_neg hb,linesK_more k m _ (by rw[List.length_drop];omega) (by rw[List.length_drop];omega)]
theorem linesP_nil:linesP [] = []:=rfl
theorem linesP_cons {b:List UInt8} (h:b≠[]):linesP b=b.take (cutN b)::linesP (b.drop (cutN b)):=by
 have h1:=cutN_pos h;have h2:1≤b.length:=Nat.pos_of_ne_zero fun e=>h (List.eq_nil_of_length_eq_zero e);unfold linesP;obtain⟨k,hk⟩:∃ k,b.length=k+1:=⟨b.length-1,by omega⟩;rw[hk,linesK,if_neg h,linesK_more k _ _ (by rw[List.length_drop];omega) (Nat.le_refl _)]
theorem linesP_all:∀ (k:Nat) (b:List UInt8),b.length≤k→(linesP b).flatten=b∧(linesP b).length≤b.length∧∀ s∈linesP b,1≤s.length
 | 0,b,h=>by
  obtain rfl:b = []:=List.eq_nil_of_length_eq_zero (by omega);exact⟨rfl,Nat.le_refl _,fun s hs=>by cases hs⟩
 | k+1,b,h=>by
  by_cases hb:b = []
  ·subst hb;exact⟨rfl,Nat.le_refl _,fun s hs=>by cases hs⟩
  ·have h1:=cutN_pos hb;have h2:=cutN_le b;obtain⟨i1,i2,i3⟩:=linesP_all k (b.drop (cutN b)) (by rw[List.length_drop];omega);rw[List.length_drop]at i2;rw[linesP_cons hb];refine⟨by rw[List.flatten_cons,i1,List.take_append_drop],by rw[List.length_cons];omega,fun s hs=>?_⟩
   rcases List.mem_cons.1 hs with rfl | hs
   ·rw[List.length_take];omega
   ·exact i3 s hs
theorem mem_length_le {b:List UInt8} {s:List UInt8} (h:s∈linesP b):s.length≤b.length:=by
 have h1:=(linesP_all b.length b (Nat.le_refl _)).1;have:∀ (L:List (List UInt8)),s∈L→s.length≤L.flatten.length:=by
  intro L
  induction L with
  | nil=>intro h;cases h
  | cons y r ih =>
   intro h;rw[List.flatten_cons,List.length_append]
   rcases List.mem_cons.1 h with rfl | h
   ·omega
   ·have:=ih h;omega
 have:=this _ h
 rwa [h1]at this
def PowJ (w : World) : Prop := Lib.TabIs Tryz.prog w "internal/strconv.uint64pow10" .u64 Lib.pow10Tab
theorem PowJ.below {w w':World} (h:PowJ w) (hb:Below w.heap.size w w'):PowJ w':=Lib.tabBelow_of_tabIs h w' hb
theorem itoX_any (n:Nat) (hn:n≤1000000000) (w:World) (ht:PowJ w):Calls Tryz.prog 95 #[.int .i64 n] w fun e w'=>e = .returned (.string (bsOf (Lib.itoa n)))∧Below w.heap.size w w':=by
 refine(Tryz.strconv_Itoa n (by omega) (by omega) w ht).mono ?_;rintro e w' ⟨rfl,k,os,rfl⟩;exact⟨rfl,Lib.below_grow _ _ (Nat.le_refl _) _ _⟩
theorem itoX_len (n:Nat) (hn:n≤1000000000):(Lib.itoa n).length≤21:=Lib.itoa_length_le n (by omega) (by omega)
def NumW (s:ByteArray):Prop:=1≤s.size∧s.size≤6∧∀ b∈s.data.toList,48≤b.toNat∧b.toNat≤57
theorem decFrom_all:∀ (l:List UInt8) (acc:Nat),(∀ b∈l,48≤b.toNat∧b.toNat≤57)→∃ n,Lib.decFrom acc l=some n∧n<(acc+1)*10 ^ l.length
 | [],acc,_=>⟨acc,rfl,by simp⟩
 | b::r,acc,h=>by
  have hb:=h b List.mem_cons_self;obtain⟨n,h1,h2⟩:=decFrom_all r (acc*10+(b.toNat-48)) fun c hc=>h c (List.mem_cons_of_mem _ hc);refine⟨n,?_,?_⟩
  ·unfold Lib.decFrom Lib.digitVal;rw[if_pos hb];exact h1
  ·refine Nat.lt_of_lt_of_le h2 ?_;rw[List.length_cons,Nat.pow_succ,Nat.mul_comm (10 ^ r.length) 10,← Nat.mul_assoc];exact Nat.mul_le_mul_right _ (by omega)
theorem numW_atoi {s:ByteArray} (h:NumW s):Lib.atoi s.data.toList=some (numP s)∧0≤numP s∧numP s≤999999:=by
 obtain⟨h1,h2,h3⟩:=h;have hl:s.data.toList.length=s.size:=(Lib.size_eq s).symm;obtain⟨n,hn1,hn2⟩:=decFrom_all s.data.toList 0 h3;have hn3:n<10 ^ 6:=by
  refine Nat.lt_of_lt_of_le hn2 ?_;rw[Nat.zero_add,Nat.one_mul];exact Nat.pow_le_pow_right (by omega) (by omega)
 have ha:Lib.atoi s.data.toList=some (n:Int):=by
  cases hs:s.data.toList with
  | nil=>rw[hs]at hl;simp at hl;omega
  | cons b r =>
   have hb:=h3 b (by rw[hs];exact List.mem_cons_self);have n1:(b==45)=false:=by
    rw[beq_eq_false_iff_ne];intro e;rw[e]at hb;exact absurd hb.1 (by decide)
   have n2:(b==43)=false:=by
    rw[beq_eq_false_iff_ne];intro e;rw[e]at hb;exact absurd hb.1 (by decide)
   unfold Lib.atoi;simp only[n1,n2,Bool.false_eq_true,if_false];rw[hs]at hn1;unfold Lib.decNat;simp only[List.isEmpty_cons,Bool.false_eq_true,if_false,hn1,Option.map_some]
 have e:numP s=n:=by unfold numP;rw[ha];rfl
 rw[e];exact⟨ha,by omega,by omega⟩
theorem atoX_any (s:ByteArray) (h:NumW s) (w:World):Calls Tryz.prog 61 #[.string s] w fun e w'=>e = .returned (.tuple #[.int .i64 (numP s),.nilIface])∧Below w.heap.size w w':=by
 refine(Tryz.strconv_Atoi s (numP s) (by have:=h.2.1;omega) (numW_atoi h).1 w).mono ?_;rintro e w' ⟨rfl,t,rfl⟩;exact⟨rfl,Lib.bytesWorld_below _ _ t⟩
structure CmdOk (c:List ByteArray):Prop where
 pos:1≤c.length
 len:c.length≤50
 sz:∀ s∈c,1≤s.size∧s.size≤300
 form:(wd c 0=wJoin∧3≤c.length∧∀ p∈c.drop 1,pathB p=true) ∨
  ((wd c 0=wSort∨wd c 0=wCount∨wd c 0=wExpand∨wd c 0=wMake∨wd c 0=wDigest∨wd c 0=wList)∧c.length=3∧∀ p∈c.drop 1,pathB p=true) ∨
  (wd c 0=wFirst∧c.length=4∧pathB (wd c 1)=true∧NumW (wd c 2)∧pathB (wd c 3)=true) ∨
  (wd c 0=wChange∧c.length=5∧pathB (wd c 1)=true∧pathB (wd c 4)=true) ∨
  (wd c 0=wPick∧4≤c.length∧∀ p∈c.drop 1,pathB p=true) ∨
  (wd c 0=wVar∧c.length=3∧pathB (wd c 1)=true) ∨
  (wd c 0=wTell∧2≤c.length) ∨
  (wd c 0=wNeed∧c.length=2∧pathB (wd c 1)=true) ∨
  (wd c 0=wSame∧c.length=3∧pathB (wd c 1)=true∧pathB (wd c 2)=true) ∨
  (wd c 0=wFail∧c.length=2∧NumW (wd c 1))
theorem powJ_one {W : World} (h : laidMetH Tryz.prog [("internal/strconv.uint64pow10", Rows.laid_internal_strconv_uint64pow10)] W) : PowJ W := by
 have h2 : laidMet Tryz.prog [("internal/strconv.uint64pow10", Lib.tabData .u64 Lib.pow10Tab)] W := h;exact Lib.tabIs_of_head (g:=5) (t:=232) (e:=94) (n:=20) (by kernel_rfl) (by kernel_rfl) Tryz.underlying232 Tryz.underlying94 (by kernel_rfl) (by kernel_rfl) h2
end Go.Proofs.YtdiaabeollcjaaaGreatDoor.C10
namespace Go.Proofs.YtdiaabeollcjaaaGreatDoor.C10
open Go.RowKit
def clAt (h:ByteArray→Bool) (s:ByteArray) (k:Nat):Bool:=if hk:k<s.size then decide (s[k].toNat=47)&&h (s.extract 0 k) else false
def clashP (h:ByteArray→Bool) (s:ByteArray):Bool:=(List.range s.size).any (clAt h s)
def hasF (l:List File) (p:ByteArray):Bool:=l.any fun y=>decide (y.path=p)
def totF (l:List File):Nat:=(l.map (·.bytes.l.length)).sum
structure FilesX (l:List File):Prop where
 len:l.length≤1000
 row:∀ (k:Nat) y,l[k]? = some y→pathB y.path=true∧y.bytes.l.length≤100000
 ord:∀ (k:Nat) y z,l[k]? = some y→l[k+1]? = some z→sle z.path y.path=false
 cl:∀ (k:Nat) y,l[k]? = some y→clashP (hasF l) y.path=false
 tot:totF l≤2000000
end Go.Proofs.YtdiaabeollcjaaaGreatDoor.C10
namespace Go.Proofs.YtdiaabeollcjaaaGreatDoor.C10
open Go.ChangeShapes Go.WideShapes Go.Deep Go.RowKit
def YesB (p:Prop) (w:World) (e:Ending) (w':World):Prop:=∃ b,e = .returned (.bool b)∧Below w.heap.size w w'∧(b=true→p)
def wpr (b:UInt8):Bool:=decide (33≤b.toNat∧b.toNat≤126)
def awB (s:ByteArray):Bool:=s.data.toList.all wpr&&(decide (1≤s.size)&&decide (s.size≤300))
def AwRel (s:ByteArray) (a:Bool) (w:World) (i:Value) (wr:World):Prop:=w=wr∧∃ k:Nat,k≤s.size∧i = .int .i64 k∧a=(s.data.toList.drop k).all wpr
theorem aword_any (s:ByteArray) (hs:s.size≤9223372036854775807) (w:World) (b:Bool) (hb:awB s=b):Calls Tryz.prog 77 #[.string s] w fun e w'=>e = .returned (.bool b)∧w=w':=by
 obtain⟨a,ha⟩:∃ a,a=s.data.toList.all wpr:=⟨_,rfl⟩;unfold awB at hb;rw[← ha]at hb;have hst:AwRel s a w (.int .i64 0) w:=⟨rfl,0,Nat.zero_le _,rfl,ha⟩;obtain⟨hbH,hstH⟩:=hq2 hb (Lib.hid hst);clear hb hst;clear ha;go_enter Tryz.func77,Tryz.ntmps77;go_wp2_with fail
 go_loopw [6] (fun i wr=>AwRel s a w i wr) (fun i _=>s.size-(intOf i).toNat)
 case atStart=>exact hstH.out
 case round =>
  clear hstH;obtain⟨rfl,k,hk,rfl,hr⟩:=hrel
  by_cases hlt:k<s.size
  ·have hs2:=all_step hlt hr;clear hr
   cases hp:wpr s[k]
   ·rw[hp,Bool.false_and]at hs2;have hb:=hbH.out;rw[hs2,Bool.false_and]at hb;subst hb;have hp2:((s[k]).toNat:Int)<33∨¬ ((s[k]).toNat:Int)<33∧(126:Int)<(s[k]).toNat:=by
     unfold wpr at hp;have:=of_decide_eq_false hp;omega
    clear hp hs2 hbH
    rcases hp2 with h1 | ⟨h1,h2⟩
    ·go_wp2_with fail;go_ret;exact⟨rfl,rfl⟩
    ·go_wp2_with fail;go_ret;exact⟨rfl,rfl⟩
   ·rw[hp,Bool.true_and]at hs2;have R:AwRel s a w (.int .i64 (k+1)) w:=⟨rfl,k+1,by omega,by go_num,hs2⟩;have h1:¬ ((s[k]).toNat:Int)<33:=by unfold wpr at hp;have:=of_decide_eq_true hp;omega
    have h2:¬ (126:Int)<(s[k]).toNat:=by unfold wpr at hp;have:=of_decide_eq_true hp;omega
    clear hp hs2;have RH:=Lib.hid R;clear R;go_wp2_with fail;refine⟨?rel,?measure⟩
    case measure=>(simp[intOf];omega)
    case rel=>first | exact RH.out | exact⟨rfl,RH.out⟩
  ·obtain rfl:k=s.size:=by omega
   have e:s.data.toList.drop s.size = []:=List.drop_eq_nil_of_le (by simp);rw[e]at hr;have ha2:a=true:=hr;clear hr e;subst ha2;go_wp2_with fail
   all_goals (go_ret;refine⟨ret_bool ?_,rfl⟩;rw[← hbH.out];first | (rw[Bool.eq_iff_iff];simp only[Bool.and_eq_true,decide_eq_true_eq,true_and,Bool.false_eq_true];omega) | (simp;omega))
theorem awB_size {s:ByteArray} (h:awB s=true):1≤s.size∧s.size≤300:=by
 unfold awB at h;rw[Bool.and_eq_true,Bool.and_eq_true]at h;exact⟨of_decide_eq_true h.2.1,of_decide_eq_true h.2.2⟩
abbrev Ss:={ s:ByteArray // s.size≤maxLen }
instance:Inhabited Ss:=⟨⟨⟨#[]⟩,by decide⟩⟩
def encS (s:Ss):Value:=.string s.1
theorem word_fn (w:World):PredAt Tryz.prog 76 #[] encS (fun s=>!awB s.1) w:=fun W r _=>by
 obtain⟨s,hs⟩:=r;obtain⟨b,hb⟩:∃ b,awB s=b:=⟨_,rfl⟩;show Calls Tryz.prog 76 #[.string s] W (fun e w'=>e = .returned (.bool (!awB s))∧∃ q,w'=W.drewN q);rw[hb];have hcall:=aword_any s (by unfold maxLen at hs;omega) W b hb;have hcallH:=Lib.hid hcall;clear hcall;go_enter Tryz.func76,Tryz.ntmps76;go_wp2_with fail;refine hcallH.out.mono ?_;rintro e w1 ⟨rfl,rfl⟩;go_wp2_with fail;go_ret;exact⟨rfl,0,rfl⟩
def dsetA:List UInt8:=[48,49,50,51,52,53,54,55,56,57]
theorem dsetA_dig (b:UInt8):dsetA.contains b=decide (48≤b.toNat∧b.toNat≤57):=by
 have:=byte_all (p:=fun b=>dsetA.contains b==decide (48≤b.toNat∧b.toNat≤57)) (by decide +kernel) b
 simpa using this
theorem trim_digA (s:ByteArray) (w:World) (hs:s.size≤9223372036854775807) :
  Calls Tryz.prog 75 #[.string s,.string ⟨#[48,49,50,51,52,53,54,55,56,57]⟩] w fun e w'=>e = .returned (.string ⟨(Lib.trimS s.data.toList dsetA).toArray⟩)∧Below w.heap.size w w' :=
 Any.strings_Trim_laid Tryz.lays160 (by kernel_rfl) s ⟨#[48,49,50,51,52,53,54,55,56,57]⟩ w hs (by decide) (ascii_of_all (by decide))
theorem number_any (s:ByteArray) (hs:s.size≤9223372036854775807) (w:World):Calls Tryz.prog 125 #[.string s,.int .i64 6] w (YesB (NumW s) w):=by
 obtain⟨Z,hZ⟩:∃ Z,YesB (NumW s) w=Z:=⟨_,rfl⟩;have hZ':∀ e W,YesB (NumW s) w e W→Z e W:=fun e W h=>by rw[← hZ];exact h
 rw[hZ];clear hZ;have R0:=hZ' (.returned (.bool false)) w ⟨false,rfl,Below.refl _ _,fun h=>by cases h⟩
 by_cases h1:1≤s.size∧s.size≤6
 ·obtain⟨h1,h6⟩:=h1;have i1:(1:Int)≤(s.size:Int):=by omega
  have i6:(s.size:Int)≤6:=by omega
  have i0:0<s.size:=by omega
  cases hd:s.data.toList.all (dsetA.contains ·)
  ·obtain⟨c,r,hcr⟩:=trim_some hd;have htr:=trim_digA s w hs;rw[hcr]at htr;clear hd hcr;obtain⟨hZ'H,R0H,htrH⟩:=hq2 hZ' (hq2 R0 (Lib.hid htr));clear hZ' R0 htr;go_enter Tryz.func125,Tryz.ntmps125;go_wp2_with fail;refine htrH.out.mono ?_;rintro e w1 ⟨rfl,hb1⟩;have R:=hZ'H.out (.returned (.bool false)) w1 ⟨false,rfl,hb1,fun h=>by cases h⟩;obtain⟨hb1H,RH⟩:=hq2 hb1 (Lib.hid R);clear hb1 R;go_wp2_with fail
   all_goals exact RH.out
  ·have hcr:=trim_nil hd;have htr:=trim_digA s w hs;rw[hcr]at htr;have hnum:NumW s:=⟨h1,h6,fun b hb=>by
    have:=List.all_eq_true.1 hd b hb;rw[dsetA_dig]at this;exact of_decide_eq_true this⟩
   clear hd hcr;obtain⟨hZ'H,R0H,htrH,hnumH⟩:=hq2 hZ' (hq2 R0 (hq2 htr (Lib.hid hnum)));clear hZ' R0 htr hnum;go_enter Tryz.func125,Tryz.ntmps125;go_wp2_with fail;refine htrH.out.mono ?_;rintro e w1 ⟨rfl,hb1⟩;have R:∀ b,Z (.returned (.bool b)) w1:=fun b=>hZ'H.out _ _ ⟨b,rfl,hb1,fun _=>hnumH.out⟩;obtain⟨hb1H,RH⟩:=hq2 hb1 (Lib.hid R);clear hb1 R;go_wp2_with fail
   all_goals exact RH.out _
 ·obtain⟨hZ'H,R0H⟩:=hq2 hZ' (Lib.hid R0);clear hZ' R0;go_enter Tryz.func125,Tryz.ntmps125;go_wp2_with fail
  all_goals first
   | exact R0H.out
   | (exfalso;omega)
def formL:List (ByteArray × ByteArray):=[(wJoin,⟨#[112,112,43]⟩),(wSort,⟨#[112,112]⟩),(wCount,⟨#[112,112]⟩),(wExpand,⟨#[112,112]⟩),(wMake,⟨#[112,112]⟩),(wDigest,⟨#[112,112]⟩),(wList,⟨#[112,112]⟩),(wFirst,⟨#[112,110,112]⟩),(wChange,⟨#[112,119,119,112]⟩),(wPick,⟨#[112,112,112,43]⟩),(wVar,⟨#[112,119]⟩),(wTell,⟨#[119,43]⟩),(wNeed,⟨#[112]⟩),(wSame,⟨#[112,112]⟩),(wFail,⟨#[110]⟩)]
def FormAns (s:ByteArray) (w:World) (e:Ending) (w':World):Prop:=∃ f,e = .returned (.string f)∧w=w'∧(f=⟨#[]⟩∨(s,f)∈formL)
theorem form_any (s:ByteArray) (w:World):Calls Tryz.prog 78 #[.string s] w (FormAns s w):=by
 obtain⟨Z,hZ⟩:∃ Z,FormAns s w=Z:=⟨_,rfl⟩;have hZ':∀ e W,FormAns s w e W→Z e W:=fun e W h=>by rw[← hZ];exact h
 rw[hZ];clear hZ
 by_cases h0:s=wJoin
 ·have R:=hZ' (.returned (.string ⟨#[112,112,43]⟩)) w ⟨_,rfl,rfl,.inr (by rw[h0];unfold formL;simp)⟩;subst h0;unfold wJoin;obtain⟨hZ'H,RH⟩:=hq2 hZ' (Lib.hid R);clear hZ' R;go_enter Tryz.func78,Tryz.ntmps78;go_wp2_with fail;exact RH.out
 by_cases h1:s=wSort
 ·have R:=hZ' (.returned (.string ⟨#[112,112]⟩)) w ⟨_,rfl,rfl,.inr (by rw[h1];unfold formL;simp)⟩;subst h1;unfold wSort;obtain⟨hZ'H,RH⟩:=hq2 hZ' (Lib.hid R);clear hZ' R;go_enter Tryz.func78,Tryz.ntmps78;go_wp2_with fail;exact RH.out
 by_cases h2:s=wCount
 ·have R:=hZ' (.returned (.string ⟨#[112,112]⟩)) w ⟨_,rfl,rfl,.inr (by rw[h2];unfold formL;simp)⟩;subst h2;unfold wCount;obtain⟨hZ'H,RH⟩:=hq2 hZ' (Lib.hid R);clear hZ' R;go_enter Tryz.func78,Tryz.ntmps78;go_wp2_with fail;exact RH.out
 by_cases h3:s=wExpand
 ·have R:=hZ' (.returned (.string ⟨#[112,112]⟩)) w ⟨_,rfl,rfl,.inr (by rw[h3];unfold formL;simp)⟩;subst h3;unfold wExpand;obtain⟨hZ'H,RH⟩:=hq2 hZ' (Lib.hid R);clear hZ' R;go_enter Tryz.func78,Tryz.ntmps78;go_wp2_with fail;exact RH.out
 by_cases h4:s=wMake
 ·have R:=hZ' (.returned (.string ⟨#[112,112]⟩)) w ⟨_,rfl,rfl,.inr (by rw[h4];unfold formL;simp)⟩;subst h4;unfold wMake;obtain⟨hZ'H,RH⟩:=hq2 hZ' (Lib.hid R);clear hZ' R;go_enter Tryz.func78,Tryz.ntmps78;go_wp2_with fail;exact RH.out
 by_cases h5:s=wDigest
 ·have R:=hZ' (.returned (.string ⟨#[112,112]⟩)) w ⟨_,rfl,rfl,.inr (by rw[h5];unfold formL;simp)⟩;subst h5;unfold wDigest;obtain⟨hZ'H,RH⟩:=hq2 hZ' (Lib.hid R);clear hZ' R;go_enter Tryz.func78,Tryz.ntmps78;go_wp2_with fail;exact RH.out
 by_cases h6:s=wList
 ·have R:=hZ' (.returned (.string ⟨#[112,112]⟩)) w ⟨_,rfl,rfl,.inr (by rw[h6];unfold formL;simp)⟩;subst h6;unfold wList;obtain⟨hZ'H,RH⟩:=hq2 hZ' (Lib.hid R);clear hZ' R;go_enter Tryz.func78,Tryz.ntmps78;go_wp2_with fail;exact RH.out
 by_cases h7:s=wFirst
 ·have R:=hZ' (.returned (.string ⟨#[112,110,112]⟩)) w ⟨_,rfl,rfl,.inr (by rw[h7];unfold formL;simp)⟩;subst h7;unfold wFirst;obtain⟨hZ'H,RH⟩:=hq2 hZ' (Lib.hid R);clear hZ' R;go_enter Tryz.func78,Tryz.ntmps78;go_wp2_with fail;exact RH.out
 by_cases h8:s=wChange
 ·have R:=hZ' (.returned (.string ⟨#[112,119,119,112]⟩)) w ⟨_,rfl,rfl,.inr (by rw[h8];unfold formL;simp)⟩;subst h8;unfold wChange;obtain⟨hZ'H,RH⟩:=hq2 hZ' (Lib.hid R);clear hZ' R;go_enter Tryz.func78,Tryz.ntmps78;go_wp2_with fail;exact RH.out
 by_cases h9:s=wPick
 ·have R:=hZ' (.returned (.string ⟨#[112,112,112,43]⟩)) w ⟨_,rfl,rfl,.inr (by rw[h9];unfold formL;simp)⟩;subst h9;unfold wPick;obtain⟨hZ'H,RH⟩:=hq2 hZ' (Lib.hid R);clear hZ' R;go_enter Tryz.func78,Tryz.ntmps78;go_wp2_with fail;exact RH.out
 by_cases h10:s=wVar
 ·have R:=hZ' (.returned (.string ⟨#[112,119]⟩)) w ⟨_,rfl,rfl,.inr (by rw[h10];unfold formL;simp)⟩;subst h10;unfold wVar;obtain⟨hZ'H,RH⟩:=hq2 hZ' (Lib.hid R);clear hZ' R;go_enter Tryz.func78,Tryz.ntmps78;go_wp2_with fail;exact RH.out
 by_cases h11:s=wTell
 ·have R:=hZ' (.returned (.string ⟨#[119,43]⟩)) w ⟨_,rfl,rfl,.inr (by rw[h11];unfold formL;simp)⟩;subst h11;unfold wTell;obtain⟨hZ'H,RH⟩:=hq2 hZ' (Lib.hid R);clear hZ' R;go_enter Tryz.func78,Tryz.ntmps78;go_wp2_with fail;exact RH.out
 by_cases h12:s=wNeed
 ·have R:=hZ' (.returned (.string ⟨#[112]⟩)) w ⟨_,rfl,rfl,.inr (by rw[h12];unfold formL;simp)⟩;subst h12;unfold wNeed;obtain⟨hZ'H,RH⟩:=hq2 hZ' (Lib.hid R);clear hZ' R;go_enter Tryz.func78,Tryz.ntmps78;go_wp2_with fail;exact RH.out
 by_cases h13:s=wSame
 ·have R:=hZ' (.returned (.string ⟨#[112,112]⟩)) w ⟨_,rfl,rfl,.inr (by rw[h13];unfold formL;simp)⟩;subst h13;unfold wSame;obtain⟨hZ'H,RH⟩:=hq2 hZ' (Lib.hid R);clear hZ' R;go_enter Tryz.func78,Tryz.ntmps78;go_wp2_with fail;exact RH.out
 by_cases h14:s=wFail
 ·have R:=hZ' (.returned (.string ⟨#[110]⟩)) w ⟨_,rfl,rfl,.inr (by rw[h14];unfold formL;simp)⟩;subst h14;unfold wFail;obtain⟨hZ'H,RH⟩:=hq2 hZ' (Lib.hid R);clear hZ' R;go_enter Tryz.func78,Tryz.ntmps78;go_wp2_with fail;exact RH.out
 have g0:=(Lib.bytes_beq_false_iff s wJoin).2 h0;rw[show wJoin.toList = [106,111,105,110] by rw[ByteArray.toList_eq];rfl]at g0;clear h0;have g1:=(Lib.bytes_beq_false_iff s wSort).2 h1;rw[show wSort.toList = [115,111,114,116] by rw[ByteArray.toList_eq];rfl]at g1;clear h1;have g2:=(Lib.bytes_beq_false_iff s wCount).2 h2;rw[show wCount.toList = [99,111,117,110,116] by rw[ByteArray.toList_eq];rfl]at g2;clear h2;have g3:=(Lib.bytes_beq_false_iff s wExpand).2 h3;rw[show wExpand.toList = [101,120,112,97,110,100] by rw[ByteArray.toList_eq];rfl]at g3;clear h3;have g4:=(Lib.bytes_beq_false_iff s wMake).2 h4;rw[show wMake.toList = [109,97,107,101] by rw[ByteArray.toList_eq];rfl]at g4;clear h4;have g5:=(Lib.bytes_beq_false_iff s wDigest).2 h5;rw[show wDigest.toList = [100,105,103,101,115,116] by rw[ByteArray.toList_eq];rfl]at g5;clear h5;have g6:=(Lib.bytes_beq_false_iff s wList).2 h6;rw[show wList.toList = [108,105,115,116] by rw[ByteArray.toList_eq];rfl]at g6;clear h6;have g7:=(Lib.bytes_beq_false_iff s wFirst).2 h7;rw[show wFirst.toList = [102,105,114,115,116] by rw[ByteArray.toList_eq];rfl]at g7;clear h7;have g8:=(Lib.bytes_beq_false_iff s wChange).2 h8;rw[show wChange.toList = [99,104,97,110,103,101] by rw[ByteArray.toList_eq];rfl]at g8;clear h8;have g9:=(Lib.bytes_beq_false_iff s wPick).2 h9;rw[show wPick.toList = [112,105,99,107] by rw[ByteArray.toList_eq];rfl]at g9;clear h9;have g10:=(Lib.bytes_beq_false_iff s wVar).2 h10;rw[show wVar.toList = [118,97,114] by rw[ByteArray.toList_eq];rfl]at g10
 clear h10;have g11:=(Lib.bytes_beq_false_iff s wTell).2 h11;rw[show wTell.toList = [116,101,108,108] by rw[ByteArray.toList_eq];rfl]at g11;clear h11;have g12:=(Lib.bytes_beq_false_iff s wNeed).2 h12;rw[show wNeed.toList = [110,101,101,100] by rw[ByteArray.toList_eq];rfl]at g12;clear h12;have g13:=(Lib.bytes_beq_false_iff s wSame).2 h13;rw[show wSame.toList = [115,97,109,101] by rw[ByteArray.toList_eq];rfl]at g13;clear h13;have g14:=(Lib.bytes_beq_false_iff s wFail).2 h14;rw[show wFail.toList = [102,97,105,108] by rw[ByteArray.toList_eq];rfl]at g14;clear h14;have R:=hZ' (.returned (.string ⟨#[]⟩)) w ⟨_,rfl,rfl,.inl rfl⟩;obtain⟨hZ'H,RH⟩:=hq2 hZ' (Lib.hid R);clear hZ' R;go_enter Tryz.func78,Tryz.ntmps78;go_wp2_with fail;exact RH.out
def okAt (F:ByteArray) (i:Nat) (x:ByteArray):Prop:=(F.data.toList[min i (F.size-1)]? = some 112→pathB x=true)∧(F.data.toList[min i (F.size-1)]? = some 110→NumW x)
def HasF (ws:List ByteArray) (F:ByteArray) (more:Bool):Prop:=F.size≤ws.length∧(F.size<ws.length→more=true)∧∀ i x,ws[i]? = some x→okAt F i x
def HfRel (ws:List ByteArray) (F:ByteArray) (w:World) (i:Value) (wr:World):Prop:=∃ k:Nat,k≤ws.length∧i = .int .i64 k∧Below w.heap.size w wr∧∀ j x,j<k→ws[j]? = some x→okAt F j x
theorem hasForm_any (A:Option Addr) (m c:Nat) (ws:List ByteArray) (w:World) (hm:MaxLenAt w) (hws:SlAt RStr w A m ws) (hm50:m≤50) (hz:∀ s∈ws,s.size≤300) (f F:ByteArray) (more:Bool) (hF1:1≤F.size) (hF9:F.size≤9)
  (hcut:Calls Tryz.prog 124 #[.string f,.string ⟨#[43]⟩] w fun e w'=>e = .returned (.tuple #[.string F,.bool more])∧w=w') :
  Calls Tryz.prog 79 #[.slice A m c,.string f] w (YesB (HasF ws F more) w):=by
 obtain⟨Z,hZ⟩:∃ Z,YesB (HasF ws F more) w=Z:=⟨_,rfl⟩;have hZ':∀ e W,YesB (HasF ws F more) w e W→Z e W:=fun e W h=>by rw[← hZ];exact h
 rw[hZ];clear hZ;have hln:=hws.1;have R0:∀ W,Below w.heap.size w W→Z (.returned (.bool false)) W:=fun W h=>hZ' _ _ ⟨false,rfl,h,fun h=>by cases h⟩;have R00:=R0 w (Below.refl _ _);obtain⟨hZ'H,hmH,hwsH,hzH,hcutH,R0H,R00H⟩:=hq2 hZ' (hq2 hm (hqb hws hz hcut R0 (Lib.hid R00)));clear hZ' hm hws hz hcut R0 R00;go_enter Tryz.func79,Tryz.ntmps79;go_wp2_with fail;refine hcutH.out.mono ?_;rintro e w1 ⟨rfl,rfl⟩
 by_cases hbad:m<F.size∨(F.size<m∧more=false)
 ·rcases hbad with h | ⟨h,rfl⟩
  ·have i1:(m:Int)<(F.size:Int):=by omega
   go_wp2_with fail
   all_goals exact R00H.out
  ·have i1:¬ (m:Int)<(F.size:Int):=by omega
   have i2:(F.size:Int)<(m:Int):=by omega
   go_wp2_with fail
   all_goals exact R00H.out
 ·have hle:F.size≤m:=by omega
  have hmo:F.size<m→more=true:=fun h=>by cases more with | true=>rfl | false=>exact absurd (.inr ⟨h,rfl⟩) hbad
  have i1:¬ (m:Int)<(F.size:Int):=by omega
  have hst:HfRel ws F w (.int .i64 0) w:=⟨0,Nat.zero_le _,rfl,Below.refl _ _,fun j x h=>absurd h (by omega)⟩;clear hbad;obtain⟨hstH,hmoH⟩:=hq2 hst (Lib.hid hmo);clear hst hmo
  by_cases i2:(F.size:Int)<(m:Int)
  ·have hmt:=hmoH.out (by omega);subst hmt;go_wp2_with fail;have d2:decide ((F.size:Int)<(m:Int))=true:=decide_eq_true i2;have d2n:decide (F.size<m)=true:=decide_eq_true (by omega);have d1:decide ((m:Int)<(F.size:Int))=false:=decide_eq_false (by omega);have d1n:decide (m<F.size)=false:=decide_eq_false (by omega)
   (try simp only[d1,d2,d1n,d2n,Bool.not_true,Bool.not_false,Bool.or_false,Bool.false_or,Bool.and_false,Bool.and_true])
   clear d1 d2 d1n d2n
   go_loopw [31] (fun i wr=>HfRel ws F w i wr) (fun i _=>m-(intOf i).toNat)
   case atStart=>exact hstH.out
   case round =>
    clear hstH;obtain⟨k,hk,rfl,hb,hall⟩:=hrel
    by_cases hlt:k<m
    ·obtain⟨x,hx⟩:∃ x,ws[k]? = some x:=⟨ws[k]'(by omega),List.getElem?_eq_getElem _⟩;have hwr:=hwsH.out.below hb;obtain⟨b1,o1,hA1,_⟩:=hwr.2.1 (by omega);subst hA1;have cy:=cell_Str hwr hx;have hxz:=hzH.out x (List.mem_of_getElem? hx);obtain⟨kk,hkk,hkk2,hkk3⟩:∃ kk:Nat,min (k:Int) ((F.size:Int)-1)=kk∧kk<F.size∧kk=min k (F.size-1):=⟨min k (F.size-1),by omega,by omega,rfl⟩;have hch:F.data.toList[min k (F.size-1)]? = some F[kk]:=by rw[← hkk3];exact str_get hkk2
     have hpa:=fun b (hb':pathB x=b)=>isPath_any x wr (hmH.out.below hb) b hb';have hnu:=number_any x (by omega) wr;have hkl:k+1≤ws.length:=by omega
     have hstep:∀ W,Below w.heap.size w W→okAt F k x→HfRel ws F w (.int .i64 (k+1)) W:=fun W hW ho=>⟨k+1,hkl,by go_num,hW,fun j y hj hy=>by
      rcases Nat.lt_or_ge j k with h | h
      ·exact hall j y h hy
      ·obtain rfl:j=k:=by omega
       rw[hx]at hy;injection hy with hy;subst hy;exact ho⟩
     have hwrs:=hb.size;clear hall hkk3;obtain⟨hbH,hwrH,hxH,hchH,hpaH,hnuH,hstepH⟩:=hq2 hb (hq2 hwr (hqb hx hch hpa hnu (Lib.hid hstep)));clear hb hwr hx hch hpa hnu hstep
     by_cases hp:F[kk].toNat=112
     ·obtain⟨pb,hpb⟩:∃ b,pathB x=b:=⟨_,rfl⟩;have hpb1:=hpaH.out pb hpb;have hp1:((F[kk].toNat:Int)==112)=true:=by simp;omega
      have hpb1H:=Lib.hid hpb1;clear hpb1;go_wp2_with fail;refine hpb1H.out.mono ?_;rintro e w2 ⟨rfl,hb2⟩;have hb02:=hbH.out.trans (hb2.mono hwrs)
      cases pb
      ·have R:=R0H.out w2 hb02;obtain⟨hb02H,RH⟩:=hq2 hb02 (Lib.hid R);clear hb02 R;go_wp2_with fail;exact RH.out
      ·have R:=hstepH.out w2 hb02 ⟨fun _=>hpb,fun h=>by rw[hchH.out]at h;injection h with h;rw[h]at hp;exact absurd hp (by decide)⟩;obtain⟨hb02H,RH⟩:=hq2 hb02 (Lib.hid R);clear hb02 R;go_wp2_with fail;refine⟨?rel,?measure⟩
       case measure=>(simp[intOf];omega)
       case rel=>first | exact RH.out | exact⟨rfl,RH.out⟩
     ·by_cases hn:F[kk].toNat=110
      ·have hp1:((F[kk].toNat:Int)==112)=false:=by simp;omega
       have hn1:((F[kk].toNat:Int)==110)=true:=by simp;omega
       go_wp2_with fail;refine hnuH.out.mono ?_;rintro e w2 ⟨pb,rfl,hb2,hpb⟩;have hb02:=hbH.out.trans (hb2.mono hwrs)
       cases pb
       ·have R:=R0H.out w2 hb02;obtain⟨hb02H,RH⟩:=hq2 hb02 (Lib.hid R);clear hb02 R;go_wp2_with fail;exact RH.out
       ·have R:=hstepH.out w2 hb02 ⟨fun h=>by rw[hchH.out]at h;injection h with h;rw[h]at hp;exact absurd rfl hp,fun _=>hpb rfl⟩;obtain⟨hb02H,RH⟩:=hq2 hb02 (Lib.hid R);clear hb02 R;go_wp2_with fail;refine⟨?rel,?measure⟩
        case measure=>(simp[intOf];omega)
        case rel=>first | exact RH.out | exact⟨rfl,RH.out⟩
      ·have hp1:((F[kk].toNat:Int)==112)=false:=by simp;omega
       have hn1:((F[kk].toNat:Int)==110)=false:=by simp;omega
       have R:=hstepH.out wr hbH.out ⟨fun h=>by rw[hchH.out]at h;injection h with h;rw[h]at hp;exact absurd rfl hp,fun h=>by rw[hchH.out]at h;injection h with h;rw[h]at hn;exact absurd rfl hn⟩;have RH:=Lib.hid R;clear R;go_wp2_with fail;refine⟨?rel,?measure⟩
       case measure=>(simp[intOf];omega)
       case rel=>first | exact RH.out | exact⟨rfl,RH.out⟩
    ·have R:=hZ'H.out (.returned (.bool true)) wr ⟨true,rfl,hb,fun _=>⟨by omega,fun h=>by first | rfl | exact hmoH.out (by omega),fun j y hy=>hall j y (by have:=(List.getElem?_eq_some_iff.1 hy).1;omega) hy⟩⟩;clear hall;obtain⟨hbH,RH⟩:=hq2 hb (Lib.hid R);clear hb R;go_wp2_with fail;exact RH.out
  ·go_wp2_with fail;have d2:decide ((F.size:Int)<(m:Int))=false:=decide_eq_false (by omega);have d2n:decide (F.size<m)=false:=decide_eq_false (by omega);have d1:decide ((m:Int)<(F.size:Int))=false:=decide_eq_false (by omega);have d1n:decide (m<F.size)=false:=decide_eq_false (by omega)
   (try simp only[d1,d2,d1n,d2n,Bool.not_true,Bool.not_false,Bool.or_false,Bool.false_or,Bool.and_false,Bool.and_true])
   clear d1 d2 d1n d2n
   go_loopw [31] (fun i wr=>HfRel ws F w i wr) (fun i _=>m-(intOf i).toNat)
   case atStart=>exact hstH.out
   case round =>
    clear hstH;obtain⟨k,hk,rfl,hb,hall⟩:=hrel
    by_cases hlt:k<m
    ·obtain⟨x,hx⟩:∃ x,ws[k]? = some x:=⟨ws[k]'(by omega),List.getElem?_eq_getElem _⟩;have hwr:=hwsH.out.below hb;obtain⟨b1,o1,hA1,_⟩:=hwr.2.1 (by omega);subst hA1;have cy:=cell_Str hwr hx;have hxz:=hzH.out x (List.mem_of_getElem? hx);obtain⟨kk,hkk,hkk2,hkk3⟩:∃ kk:Nat,min (k:Int) ((F.size:Int)-1)=kk∧kk<F.size∧kk=min k (F.size-1):=⟨min k (F.size-1),by omega,by omega,rfl⟩;have hch:F.data.toList[min k (F.size-1)]? = some F[kk]:=by rw[← hkk3];exact str_get hkk2
     have hpa:=fun b (hb':pathB x=b)=>isPath_any x wr (hmH.out.below hb) b hb';have hnu:=number_any x (by omega) wr;have hkl:k+1≤ws.length:=by omega
     have hstep:∀ W,Below w.heap.size w W→okAt F k x→HfRel ws F w (.int .i64 (k+1)) W:=fun W hW ho=>⟨k+1,hkl,by go_num,hW,fun j y hj hy=>by
      rcases Nat.lt_or_ge j k with h | h
      ·exact hall j y h hy
      ·obtain rfl:j=k:=by omega
       rw[hx]at hy;injection hy with hy;subst hy;exact ho⟩
     have hwrs:=hb.size;clear hall hkk3;obtain⟨hbH,hwrH,hxH,hchH,hpaH,hnuH,hstepH⟩:=hq2 hb (hq2 hwr (hqb hx hch hpa hnu (Lib.hid hstep)));clear hb hwr hx hch hpa hnu hstep
     by_cases hp:F[kk].toNat=112
     ·obtain⟨pb,hpb⟩:∃ b,pathB x=b:=⟨_,rfl⟩;have hpb1:=hpaH.out pb hpb;have hp1:((F[kk].toNat:Int)==112)=true:=by simp;omega
      have hpb1H:=Lib.hid hpb1;clear hpb1;go_wp2_with fail;refine hpb1H.out.mono ?_;rintro e w2 ⟨rfl,hb2⟩;have hb02:=hbH.out.trans (hb2.mono hwrs)
      cases pb
      ·have R:=R0H.out w2 hb02;obtain⟨hb02H,RH⟩:=hq2 hb02 (Lib.hid R);clear hb02 R;go_wp2_with fail;exact RH.out
      ·have R:=hstepH.out w2 hb02 ⟨fun _=>hpb,fun h=>by rw[hchH.out]at h;injection h with h;rw[h]at hp;exact absurd hp (by decide)⟩;obtain⟨hb02H,RH⟩:=hq2 hb02 (Lib.hid R);clear hb02 R;go_wp2_with fail;refine⟨?rel,?measure⟩
       case measure=>(simp[intOf];omega)
       case rel=>first | exact RH.out | exact⟨rfl,RH.out⟩
     ·by_cases hn:F[kk].toNat=110
      ·have hp1:((F[kk].toNat:Int)==112)=false:=by simp;omega
       have hn1:((F[kk].toNat:Int)==110)=true:=by simp;omega
       go_wp2_with fail;refine hnuH.out.mono ?_;rintro e w2 ⟨pb,rfl,hb2,hpb⟩;have hb02:=hbH.out.trans (hb2.mono hwrs)
       cases pb
       ·have R:=R0H.out w2 hb02;obtain⟨hb02H,RH⟩:=hq2 hb02 (Lib.hid R);clear hb02 R;go_wp2_with fail;exact RH.out
       ·have R:=hstepH.out w2 hb02 ⟨fun h=>by rw[hchH.out]at h;injection h with h;rw[h]at hp;exact absurd rfl hp,fun _=>hpb rfl⟩;obtain⟨hb02H,RH⟩:=hq2 hb02 (Lib.hid R);clear hb02 R;go_wp2_with fail;refine⟨?rel,?measure⟩
        case measure=>(simp[intOf];omega)
        case rel=>first | exact RH.out | exact⟨rfl,RH.out⟩
      ·have hp1:((F[kk].toNat:Int)==112)=false:=by simp;omega
       have hn1:((F[kk].toNat:Int)==110)=false:=by simp;omega
       have R:=hstepH.out wr hbH.out ⟨fun h=>by rw[hchH.out]at h;injection h with h;rw[h]at hp;exact absurd rfl hp,fun h=>by rw[hchH.out]at h;injection h with h;rw[h]at hn;exact absurd rfl hn⟩;have RH:=Lib.hid R;clear R;go_wp2_with fail;refine⟨?rel,?measure⟩
       case measure=>(simp[intOf];omega)
       case rel=>first | exact RH.out | exact⟨rfl,RH.out⟩
    ·have R:=hZ'H.out (.returned (.bool true)) wr ⟨true,rfl,hb,fun _=>⟨by omega,fun h=>by first | rfl | exact hmoH.out (by omega),fun j y hy=>hall j y (by have:=(List.getElem?_eq_some_iff.1 hy).1;omega) hy⟩⟩;clear hall;obtain⟨hbH,RH⟩:=hq2 hb (Lib.hid R);clear hb R;go_wp2_with fail;exact RH.out
end Go.Proofs.YtdiaabeollcjaaaGreatDoor.C10