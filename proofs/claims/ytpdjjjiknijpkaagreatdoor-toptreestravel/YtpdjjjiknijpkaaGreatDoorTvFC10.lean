/-
 Several texts of mine as one, without what is not wanted here: XSortS, XNdC.
-/
import Derived.Sort.OwnSorted
import Derived.Sort.KeysCollected
import Derived.Lib.OwnBridge
import Derived.Lib.SlicesCompact
import Derived.Test.YtpdjjjiknijpkaaGreatDoorTvEC10
import Derived.Lib.IndexBytes
set_option linter.unusedVariables false
set_option linter.unusedSimpArgs false
set_option maxRecDepth 100000
set_option maxHeartbeats 8000000
namespace Go.Proofs.YtpdjjjiknijpkaaGreatDoor.C10
open Go.ChangeShapes Go.WideShapes Go.Deep Go.RowKit Go.Sort
def bsOf (x:List UInt8):ByteArray:=⟨x.toArray⟩
theorem bsOf_data (s:ByteArray):bsOf s.data.toList=s:=by cases s;simp[bsOf]
theorem data_bsOf (x:List UInt8):(bsOf x).data.toList=x:=by simp[bsOf]
def dat (l:List ByteArray):List (List UInt8):=l.map (·.data.toList)
def und (l:List (List UInt8)):List ByteArray:=l.map bsOf
theorem und_dat (l:List ByteArray):und (dat l)=l:=by simp[und,dat,Function.comp_def,bsOf_data]
theorem dat_und (l:List (List UInt8)):dat (und l)=l:=by simp[und,dat,Function.comp_def,data_bsOf]
theorem vals_dat (l:List ByteArray):l.flatMap RStr.vals=(dat l).map encStr:=by
 have h:l.flatMap RStr.vals=l.map Value.string:=by
  induction l with
  | nil=>rfl
  | cons x s ih=>rw[List.flatMap_cons,ih];rfl
 rw[h,dat,Lib.map_encStr]
theorem own_dat {e:TypeId} {w:World} {base:Nat} {v:Value} {l:List ByteArray} (h:Own RStr e w base v l):w.ownsRow base e 1 v l.length ((dat l).map encStr):=by
 have:=h.1
 rwa [vals_dat]at this
theorem own_und {e:TypeId} {w:World} {base n:Nat} {v:Value} {l:List (List UInt8)} (h:w.ownsRow base e 1 v n (l.map encStr)) (hn:n=l.length) (hs:∀ x∈l,x.length≤maxLen):Own RStr e w base v (und l):=by
 subst hn;refine⟨?_,fun x hx=>?_⟩
 ·rw[vals_dat,dat_und,show (und l).length=l.length by simp[und]];exact h
 ·obtain⟨y,hy,rfl⟩:=List.mem_map.1 hx;have:=hs y hy;show y.toArray.size≤maxLen
  simpa using this
def sortB (l:List ByteArray):List ByteArray:=und ((dat l).mergeSort (fun x y=>decide (x≤y)))
theorem mem_und {l:List (List UInt8)} {s:ByteArray}:s∈und l↔s.data.toList∈l:=by
 constructor
 ·intro h;obtain⟨y,hy,rfl⟩:=List.mem_map.1 h
  rwa [data_bsOf]
 ·intro h;exact List.mem_map.2 ⟨_,h,bsOf_data s⟩
theorem mem_dat {l:List ByteArray} {x:List UInt8}:x∈dat l↔bsOf x∈l:=by
 constructor
 ·intro h;obtain⟨y,hy,rfl⟩:=List.mem_map.1 h
  rwa [bsOf_data]
 ·intro h;exact List.mem_map.2 ⟨_,h,data_bsOf x⟩
theorem mem_sortB {l:List ByteArray} {s:ByteArray}:s∈sortB l↔s∈l:=by
 rw[sortB,mem_und,List.mem_mergeSort,mem_dat,bsOf_data]
theorem strKeys_spec {H:Type} {P:Program} {k:TypeId} {R:Value→Option (DataW H × List MemPlace)} {w:World} {b n:Nat} {D0:DataW H} (hown:w.ownsMap P k R b n D0) (K:Maps.Keyed P k) (hk:P.underlying k=some .string) :
  (strKeys D0).Nodup∧∀ x,x∈strKeys D0↔Maps.has D0 (.string x)=true:=by
 obtain⟨es,hD,hpw,_⟩:=hown.entries K;obtain⟨es',hD',hko⟩:=hown.keysOf;obtain rfl:es=es':=by rw[hD]at hD';simpa using hD'
 subst hD;have hstr:∀ p∈es,∃ x,p.1 = .string x:=fun p hp=>by
  obtain⟨v,hv⟩:=hko p hp;obtain⟨x,_,hx,_⟩:=Maps.keyOf_str hk hv;exact⟨x,hx⟩
 refine⟨?_,fun x=>?_⟩
 ·show (es.map fun p=>strOf p.1).Nodup;refine List.pairwise_map.2 (hpw.imp_of_mem fun {p q} hp' hq' hne e=>hne ?_);obtain⟨a,ha⟩:=hstr p hp';obtain⟨b,hb⟩:=hstr q hq';rw[ha,hb]at e ⊢;exact congrArg _ e
 ·rw[Maps.has_eq,List.any_eq_true];show x∈(es.map fun p=>strOf p.1)↔_;rw[List.mem_map]
  constructor
  ·rintro⟨p,hp',rfl⟩;obtain⟨a,ha⟩:=hstr p hp';exact⟨p,hp',by rw[ha];simp[Lit.sameKey,strOf]⟩
  ·rintro⟨p,hp',hs⟩;obtain⟨a,ha⟩:=hstr p hp';rw[ha]at hs;exact⟨p,hp',by rw[ha];simpa[Lit.sameKey,strOf]using hs⟩
theorem sort_own (A:Option Addr) (n cap:Nat) (l:List ByteArray) (w:World) (base:Nat) (h:Own RStr 9 w base (.slice A n cap) l) (hn:n≤1000000) :
  Calls Tryz.prog 24 #[.slice A n cap] w fun e w'=>e = .returned (.tuple #[])∧Own RStr 9 w' base (.slice A n cap) (sortB l)∧w.grownBy w' (Value.ownBlock (.slice A n cap)):=by
 have hd:=own_dat h;have hl:=h.len
 rcases hd.2 with ⟨e0,hn0⟩ | ⟨g,cap',cur,e0,hb,hg,h1,h2,h3,h4⟩
 ·injection e0 with e1 e2 e3;subst e1 e2 e3;obtain rfl:l = []:=List.eq_nil_of_length_eq_zero hl;refine(Tryz.slices_Sort_string_none none 0 w).mono ?_;rintro e w' ⟨rfl,rfl⟩;exact⟨rfl,by rw[show sortB [] = [] by simp[sortB,dat,und]];exact h,World.grownBy.refl _ _⟩
 ·injection e0 with e1 e2 e3;subst e1 e3;subst e2;have hdl:(dat l).length=l.length:=by simp[dat]
  have hlt:g<w.heap.size:=(Array.getElem?_eq_some_iff.1 hg).1;have hc:=Tryz.slices_Sort_string g 0 cap (dat l) w (holds_of_block hg (by rw[hdl];simpa using h4)) hlt (by rw[hdl];omega);rw[hdl]at hc;refine hc.mono ?_;rintro e w' ⟨rfl,m,os,rfl⟩;have hr:=ownsRow_sorted (n:=m) (os:=os) (ss:=dat l) (ts:=(dat l).mergeSort fun x y=>decide (x≤y)) (by simp) hb hg (by rw[hdl];exact h1) h2 h3;rw[hdl]at hr;refine⟨rfl,own_und hr (by simp[dat]) (fun x hx=>?_),grownBy_sorted _⟩;have hx:=List.mem_mergeSort.1 hx;rw[mem_dat]at hx;have:=h.2 _ hx;have h5:x.toArray.size≤maxLen:=this
  simpa using h5
end Go.Proofs.YtpdjjjiknijpkaaGreatDoor.C10
namespace Go.Proofs.YtpdjjjiknijpkaaGreatDoor.C10
open Go.ChangeShapes Go.WideShapes Go.Deep Go.RowKit Go.Lib
def cutC (c0:UInt8):Byt→Byt × Option Byt
 | []=>([],none)
 | c::r=>if c=c0 then ([],some r) else (c::(cutC c0 r).1,(cutC c0 r).2)
theorem cutP_C:∀ (p:Byt),cutC 47 p=cutP p
 | []=>rfl
 | c::r=>by rw[cutC,cutP,cutP_C r]
theorem cut_one (c0:UInt8):∀ (s:Byt),Lib.cut s [c0]=((cutC c0 s).1,(cutC c0 s).2.getD [],(cutC c0 s).2.isSome)
 | []=>by
  unfold Lib.cut;rw[Lib.index_one];rfl
 | b::l=>by
  have ih:=cut_one c0 l;unfold Lib.cut at ih ⊢;rw[Lib.index_one]at ih ⊢;unfold Lib.indexByte cutC
  by_cases hb:b=c0
  ·subst hb;simp
  ·have h1:(b==c0)=false:=by simpa using hb
   rw[h1,if_neg hb];simp only[Bool.false_eq_true,if_false];have hge:=Lib.indexByte_ge l c0
   by_cases hm:Lib.indexByte l c0 = -1
   ·rw[hm]at ih ⊢;simp only[beq_self_eq_true,if_true];rw[if_neg (by decide)]at ih ⊢;rw[Prod.mk.injEq,Prod.mk.injEq]at ih;obtain⟨i1,i2,i3⟩:=ih;rw[← i1,← i2,← i3]
   ·have h2:(Lib.indexByte l c0 == -1)=false:=by simpa using hm
    rw[h2];simp only[Bool.false_eq_true,if_false];rw[if_pos (by omega)]at ih ⊢;rw[Prod.mk.injEq,Prod.mk.injEq]at ih;obtain⟨i1,i2,i3⟩:=ih;have e:(Lib.indexByte l c0+1).toNat=(Lib.indexByte l c0).toNat+1:=by omega
    rw[e,← i1,← i2,← i3];simp
end Go.Proofs.YtpdjjjiknijpkaaGreatDoor.C10