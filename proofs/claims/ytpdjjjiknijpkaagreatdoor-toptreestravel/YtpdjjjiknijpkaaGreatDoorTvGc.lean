/-
 Several texts of mine as one, without what is not wanted here: XTextP, XTrA, XTrB, XTrC, XRange.
-/
import Derived.Test.YtpdjjjiknijpkaaGreatDoorTvGb
import Derived.Lib.Join
import Init
import Derived.Maps.Ext
import Derived.StringKeys
set_option linter.unusedVariables false
set_option linter.unusedSimpArgs false
set_option maxRecDepth 100000
set_option maxHeartbeats 8000000
namespace Go.Proofs.YtpdjjjiknijpkaaGreatDoor
open Go.RowKit
theorem index_sep {c:UInt8}:∀ (u r:List UInt8),c ∉ u→Lib.index (u++c::r) [c]=u.length
 | [],r,_=>by simp[Lib.index,List.isPrefixOf]
 | b::u,r,h=>by
  have hb:c≠b:=fun e=>h (by rw[e];exact List.mem_cons_self);have ih:=index_sep u r (fun e=>h (List.mem_cons_of_mem _ e));show Lib.index (b::(u++c::r)) [c]=_;have hp:([c]:List UInt8).isPrefixOf (b::(u++c::r))=false:=by simp[List.isPrefixOf,hb]
  have h1:((u.length:Int) == -1)=false:=by rw[beq_eq_false_iff_ne];omega
  rw[Lib.index,ih,hp,h1];simp
theorem cut_sep {c:UInt8} (u r:List UInt8) (h:c ∉ u):Lib.cut (u++c::r) [c]=(u,r,true):=by
 unfold Lib.cut;rw[index_sep u r h,if_pos (by omega)];simp only[Int.toNat_natCast,List.length_singleton,Prod.mk.injEq,and_true];refine⟨by simp,?_⟩;rw[show u++c::r=(u ++ [c])++r by simp];exact List.drop_left' (by simp)
theorem splitK_join {c:UInt8}:∀ (x:List UInt8) (r:List (List UInt8)),(∀ w∈x::r,c ∉ w)→Lib.splitK [c] 0 r.length (x++Lib.joinTail [c] r)=x::r
 | x,[],h=>by simp[Lib.splitK,Lib.joinTail]
 | x,y::r,h=>by
  have e:x++Lib.joinTail [c] (y::r)=x++c::(y++Lib.joinTail [c] r):=by simp[Lib.joinTail]
  have ih:=splitK_join y r (fun w hw=>h w (List.mem_cons_of_mem _ hw));have h1:((x.length:Int) == -1)=false:=by rw[beq_eq_false_iff_ne];omega
  rw[e,List.length_cons,Lib.splitK,index_sep _ _ (h x List.mem_cons_self),h1,if_neg (by decide)];simp only[Int.toNat_natCast,List.length_singleton,Nat.add_zero];rw[show x++c::(y++Lib.joinTail [c] r)=(x ++ [c])++(y++Lib.joinTail [c] r) by simp,List.drop_left' (by simp),ih]
  congr 1
  rw[List.append_assoc];exact List.take_left' rfl
theorem count_join {c:UInt8}:∀ (x:List UInt8) (r:List (List UInt8)),(∀ w∈x::r,c ∉ w)→(x++Lib.joinTail [c] r).count c=r.length
 | x,[],h=>by
  have:=List.count_eq_zero.2 (h x List.mem_cons_self)
  simpa[Lib.joinTail]using this
 | x,y::r,h=>by
  have ih:=count_join y r (fun w hw=>h w (List.mem_cons_of_mem _ hw));have h0:=List.count_eq_zero.2 (h x List.mem_cons_self);rw[show x++Lib.joinTail [c] (y::r)=x++([c]++(y++Lib.joinTail [c] r)) by simp[Lib.joinTail],List.count_append,List.count_append,ih,h0];simp;omega
theorem bytes_ext {a b:ByteArray} (h:a.data.toList=b.data.toList):a=b:=by
 cases a;cases b;simpa using h
theorem map_inj_bytes:∀ (l m:List ByteArray),l.map (·.data.toList)=m.map (·.data.toList)→l=m
 | [],[],_=>rfl
 | [],_::_,h=>by simp at h
 | _::_,[],h=>by simp at h
 | a::l,b::m,h=>by
  rw[List.map_cons,List.map_cons,List.cons.injEq]at h;rw[bytes_ext h.1,map_inj_bytes l m h.2]
theorem words_join (x:ByteArray) (r:List ByteArray) (h:∀ w∈x::r,(32:UInt8) ∉ w.data.toList) :
  wordsOf ⟨(Lib.join ((x::r).map (·.data.toList)) [32]).toArray⟩=x::r:=by
 have h':∀ w∈x.data.toList::r.map (·.data.toList),(32:UInt8) ∉ w:=fun w hw=>by
  rcases List.mem_cons.1 hw with rfl | hw
  ·exact h x List.mem_cons_self
  ·obtain⟨z,hz,rfl⟩:=List.mem_map.1 hw;exact h z (List.mem_cons_of_mem _ hz)
 have hs:=splitK_join x.data.toList (r.map (·.data.toList)) h';have hc:=count_join x.data.toList (r.map (·.data.toList)) h';rw[List.length_map]at hs hc;have hj:Lib.join ((x::r).map (·.data.toList)) [32]=x.data.toList++Lib.joinTail [32] (r.map (·.data.toList)):=by rw[List.map_cons,Lib.join_cons]
 have hcb:Lib.countB ⟨(Lib.join ((x::r).map (·.data.toList)) [32]).toArray⟩ ⟨#[32]⟩=r.length:=by
  have:Lib.countB ⟨(Lib.join ((x::r).map (·.data.toList)) [32]).toArray⟩ ⟨#[32]⟩=Lib.count (Lib.join ((x::r).map (·.data.toList)) [32]) [32]:=rfl;rw[this,Lib.count_one,hj,hc]
 have hd:=Lib.splitB_data ⟨#[32]⟩ 0 r.length ⟨(Lib.join ((x::r).map (·.data.toList)) [32]).toArray⟩;have hd2:(wordsOf ⟨(Lib.join ((x::r).map (·.data.toList)) [32]).toArray⟩).map (·.data.toList)=(x::r).map (·.data.toList):=by
  unfold wordsOf;rw[hcb,hd];show Lib.splitK [32] 0 r.length (Lib.join ((x::r).map (·.data.toList)) [32])=_;rw[hj,hs];rfl
 exact map_inj_bytes _ _ hd2
def lineL (ws:List ByteArray):List UInt8:=Lib.join (ws.map (·.data.toList)) [32] ++ [10]
theorem join_mem {b:UInt8} {c:UInt8}:∀ (ws:List (List UInt8)),b∈Lib.join ws [c]→b=c∨∃ w∈ws,b∈w
 | [],h=>by rw[Lib.join_nil]at h;cases h
 | x::r,h=>by
  rw[Lib.join_cons,List.mem_append]at h
  rcases h with h | h
  ·exact .inr ⟨x,List.mem_cons_self,h⟩
  ·unfold Lib.joinTail at h;obtain⟨z,hz,hb⟩:=List.mem_flatten.1 h;obtain⟨y,hy,rfl⟩:=List.mem_map.1 hz
   rcases List.mem_append.1 hb with hb | hb
   ·exact .inl (List.mem_singleton.1 hb)
   ·exact .inr ⟨y,List.mem_cons_of_mem _ hy,hb⟩
theorem line_cut (ws:List ByteArray) (rest:List UInt8) (h:∀ w∈ws,(10:UInt8) ∉ w.data.toList):Lib.cut (lineL ws++rest) [10]=(Lib.join (ws.map (·.data.toList)) [32],rest,true):=by
 unfold lineL;rw[List.append_assoc,List.singleton_append];refine cut_sep _ _ fun hm=>?_
 rcases join_mem _ hm with h1 | ⟨w,hw,hb⟩
 ·exact absurd h1 (by decide)
 ·obtain⟨z,hz,rfl⟩:=List.mem_map.1 hw;exact h z hz hb
theorem line_ne (ws:List ByteArray) (rest:List UInt8):lineL ws++rest≠[]:=by unfold lineL;simp
end Go.Proofs.YtpdjjjiknijpkaaGreatDoor
namespace Go.Proofs.YtpdjjjiknijpkaaGreatDoor
abbrev Byt:=List UInt8
structure TFi where
 path:Byt
 run:Bool
 bs:Byt
deriving DecidableEq
structure TN where
 name:Byt
 file:Option TFi
 sub:List TFi
deriving DecidableEq
def cutP:Byt→Byt × Option Byt
 | []=>([],none)
 | c::r=>if c=47 then ([],some r) else (c::(cutP r).1,(cutP r).2)
theorem cutP_none:∀ {p:Byt},(cutP p).2=none→(cutP p).1=p∧(47:UInt8) ∉ p
 | [],_=>⟨rfl,by simp⟩
 | c::r,h=>by
  unfold cutP at h ⊢
  by_cases hc:c=47
  ·rw[if_pos hc]at h;cases h
  ·rw[if_neg hc]at h ⊢;obtain⟨h1,h2⟩:=cutP_none (p:=r) h;refine⟨by simp only;rw[h1],?_⟩;rw[List.mem_cons,not_or];exact⟨fun e=>hc e.symm,h2⟩
theorem cutP_some:∀ {p r:Byt},(cutP p).2=some r→p=(cutP p).1++47::r∧(47:UInt8) ∉ (cutP p).1
 | [],r,h=>by cases h
 | c::q,r,h=>by
  unfold cutP at h ⊢
  by_cases hc:c=47
  ·rw[if_pos hc]at h ⊢;injection h with h;subst h hc;exact⟨rfl,by simp⟩
  ·rw[if_neg hc]at h ⊢;obtain⟨h1,h2⟩:=cutP_some (p:=q) h;refine⟨by simp only[List.cons_append];rw[← h1],?_⟩;rw[List.mem_cons,not_or];exact⟨fun e=>hc e.symm,h2⟩
theorem cutP_app:∀ (n r:Byt),(47:UInt8) ∉ n→cutP (n++47::r)=(n,some r)
 | [],r,_=>by rw[List.nil_append,cutP,if_pos rfl]
 | c::n,r,h=>by
  rw[List.mem_cons,not_or]at h;rw[List.cons_append,cutP,if_neg (fun e=>h.1 e.symm),cutP_app n r h.2]
theorem cutP_whole:∀ (n:Byt),(47:UInt8) ∉ n→cutP n=(n,none)
 | [],_=>rfl
 | c::n,h=>by
  rw[List.mem_cons,not_or]at h;rw[cutP,if_neg (fun e=>h.1 e.symm),cutP_whole n h.2]
def cutF (f:TFi) (r:Byt):TFi:=⟨r,f.run,f.bs⟩
def grp:List TFi→List TN
 | []=>[]
 | f::l=>match (cutP f.path).2 with
  | none=>⟨(cutP f.path).1,some f,[]⟩::grp l
  | some r=>match grp l with
   | x::t=>if x.file=none∧x.name=(cutP f.path).1 then ⟨x.name,none,cutF f r::x.sub⟩::t else ⟨(cutP f.path).1,none,[cutF f r]⟩::x::t
   | []=>[⟨(cutP f.path).1,none,[cutF f r]⟩]
def addN:List TN→TFi→List TN
 | [],f=>match (cutP f.path).2 with
  | none=>[⟨(cutP f.path).1,some f,[]⟩]
  | some r=>[⟨(cutP f.path).1,none,[cutF f r]⟩]
 | [x],f=>match (cutP f.path).2 with
  | none=>[x,⟨(cutP f.path).1,some f,[]⟩]
  | some r=>if x.file=none∧x.name=(cutP f.path).1 then [⟨x.name,none,x.sub ++ [cutF f r]⟩] else [x,⟨(cutP f.path).1,none,[cutF f r]⟩]
 | x::y::t,f=>x::addN (y::t) f
theorem addN_cons (x:TN) (t:List TN) (f:TFi) (ht:t≠[]):addN (x::t) f=x::addN t f:=by
 cases t with
 | nil=>exact absurd rfl ht
 | cons y t=>rw[addN]
def putN (f:TFi) (l:List TN):List TN :=
 match (cutP f.path).2 with
 | none=>⟨(cutP f.path).1,some f,[]⟩::l
 | some r=>match l with
  | x::t=>if x.file=none∧x.name=(cutP f.path).1 then ⟨x.name,none,cutF f r::x.sub⟩::t else ⟨(cutP f.path).1,none,[cutF f r]⟩::x::t
  | []=>[⟨(cutP f.path).1,none,[cutF f r]⟩]
theorem grp_cons (f:TFi) (l:List TFi):grp (f::l)=putN f (grp l):=by
 rw[grp];unfold putN
 split <;> rfl
theorem put_add (f g:TFi) (l:List TN) (hl:l≠[]):putN f (addN l g)=addN (putN f l) g:=by
 cases l with
 | nil=>exact absurd rfl hl
 | cons x t =>
  unfold putN
  cases hc:(cutP f.path).2 with
  | none=>show _::addN (x::t) g=addN (_::x::t) g;rw[addN_cons _ (x::t) _ (by simp)]
  | some r =>
   simp only
   cases t with
   | nil =>
    by_cases hx:x.file=none∧x.name=(cutP f.path).1
    ·rw[if_pos hx];rw[addN,addN]
     cases hg:(cutP g.path).2 with
     | none=>simp only;rw[if_pos hx]
     | some s =>
      simp only
      by_cases hn:x.name=(cutP g.path).1
      ·rw[if_pos ⟨hx.1,hn⟩,if_pos ⟨trivial,hn⟩];simp only;rw[if_pos ⟨trivial,hx.2⟩,List.cons_append]
      ·rw[if_neg (fun h=>hn h.2),if_neg (fun h=>hn h.2)];simp only;rw[if_pos hx]
    ·rw[if_neg hx];rw[addN_cons _ [x] _ (by simp),addN]
     cases hg:(cutP g.path).2 with
     | none=>simp only;rw[if_neg hx]
     | some s =>
      simp only
      by_cases hn:x.file=none∧x.name=(cutP g.path).1
      ·rw[if_pos hn];simp only;rw[if_neg (fun h=>hx ⟨hn.1,h.2⟩)]
      ·rw[if_neg hn];simp only;rw[if_neg hx]
   | cons y t =>
    rw[addN_cons x (y::t) g (by simp)];simp only
    by_cases hx:x.file=none∧x.name=(cutP f.path).1
    ·rw[if_pos hx,if_pos hx,addN_cons _ (y::t) _ (by simp)]
    ·rw[if_neg hx,if_neg hx,addN_cons _ (x::y::t) _ (by simp),addN_cons x (y::t) g (by simp)]
theorem putN_ne (f:TFi) (l:List TN):putN f l≠[]:=by
 unfold putN
 split
 ·simp
 ·split
  ·split <;> simp
  ·simp
theorem grp_ne {l:List TFi} (h:l≠[]):grp l≠[]:=by
 cases l with
 | nil=>exact absurd rfl h
 | cons f l=>rw[grp_cons];exact putN_ne _ _
theorem grp_snoc:∀ (l:List TFi) (g:TFi),grp (l ++ [g])=addN (grp l) g
 | [],g=>by
  rw[List.nil_append,grp_cons];unfold putN;show _=addN [] g;unfold addN;rfl
 | [f],g=>by
  rw[List.cons_append,List.nil_append,grp_cons,grp_cons f [],grp_cons g []];show putN f (putN g [])=addN (putN f []) g;unfold putN
  cases hg:(cutP g.path).2 with
  | none =>
   simp only
   cases hf:(cutP f.path).2 with
   | none=>simp only;rw[addN,hg]
   | some r =>
    simp only;rw[addN,hg];simp
  | some s =>
   simp only
   cases hf:(cutP f.path).2 with
   | none=>simp only;rw[addN,hg];simp
   | some r =>
    simp only;rw[addN,hg];simp only
    by_cases hn:(cutP g.path).1=(cutP f.path).1
    ·rw[if_pos ⟨trivial,hn⟩,if_pos ⟨trivial,hn.symm⟩,hn];rfl
    ·rw[if_neg (fun h=>hn h.2),if_neg (fun h=>hn h.2.symm)]
 | f::h::l,g=>by
  rw[List.cons_append,grp_cons,grp_snoc (h::l) g,grp_cons f (h::l),put_add _ _ _ (grp_ne (by simp))]
def backF (n:Byt) (f:TFi):TFi:=⟨n++47::f.path,f.run,f.bs⟩
def filesN (x:TN):List TFi:=match x.file with
 | some f=>[f]
 | none=>x.sub.map (backF x.name)
theorem grp_files:∀ (l:List TFi),(grp l).flatMap filesN=l
 | []=>rfl
 | f::l=>by
  have ih:=grp_files l;rw[grp_cons];unfold putN
  cases hc:(cutP f.path).2 with
  | none=>simp only[List.flatMap_cons];rw[ih];rfl
  | some r =>
   have hf:backF (cutP f.path).1 (cutF f r)=f:=by
    obtain⟨h1,_⟩:=cutP_some hc;obtain⟨p,a,b⟩:=f;unfold backF cutF;simp only at h1 ⊢;rw[← h1]
   cases hg:grp l with
   | nil =>
    rw[hg]at ih;simp only[List.flatMap_cons,List.flatMap_nil,List.append_nil];show [backF (cutP f.path).1 (cutF f r)]=f::l;rw[hf];have:l = []:=by rw[← ih];rfl
    rw[this]
   | cons x t =>
    rw[hg]at ih;simp only
    by_cases hx:x.file=none∧x.name=(cutP f.path).1
    ·rw[if_pos hx,List.flatMap_cons];rw[List.flatMap_cons]at ih;have e1:filesN x=x.sub.map (backF x.name):=by unfold filesN;rw[hx.1]
     rw[e1]at ih;show (cutF f r::x.sub).map (backF x.name)++_=_;rw[List.map_cons,List.cons_append,ih,hx.2,hf]
    ·rw[if_neg hx,List.flatMap_cons];show [backF (cutP f.path).1 (cutF f r)]++_=_;rw[ih,hf];rfl
def splitP:Byt→List Byt
 | []=>[[]]
 | c::r=>if c=47 then []::splitP r else match splitP r with
  | h::t=>(c::h)::t
  | []=>[[c]]
theorem splitP_app:∀ (n r:Byt),(47:UInt8) ∉ n→splitP (n++47::r)=n::splitP r
 | [],r,_=>by rw[List.nil_append,splitP,if_pos rfl]
 | c::n,r,h=>by
  rw[List.mem_cons,not_or]at h;rw[List.cons_append,splitP,if_neg (fun e=>h.1 e.symm),splitP_app n r h.2]
theorem splitP_whole:∀ (n:Byt),(47:UInt8) ∉ n→splitP n = [n]
 | [],_=>rfl
 | c::n,h=>by
  rw[List.mem_cons,not_or]at h;rw[splitP,if_neg (fun e=>h.1 e.symm),splitP_whole n h.2]
structure PartT where
 ok:Byt→Bool
 ne:∀ {s},ok s=true→s≠[]
 ch:∀ {s},ok s=true→∀ c∈s,c≠32∧c≠10∧c≠47
structure WF (P:PartT) (l:List TFi):Prop where
 ord:l.Pairwise fun a b=>a.path<b.path
 clash:∀ a∈l,∀ b∈l,¬ (a.path ++ [47]) <+: b.path
 part:∀ a∈l,∀ s∈splitP a.path,P.ok s=true
theorem blt_irrefl (a:Byt):¬ a<a:=List.lt_irrefl a
theorem blt_app (p a b:Byt):p++a<p++b↔a<b:=by
 induction p with
 | nil=>rfl
 | cons c p ih =>
  rw[List.cons_append,List.cons_append,List.cons_lt_cons_iff]
  constructor
  ·rintro(h | ⟨_,h⟩)
   ·exact absurd h (by rw[UInt8.lt_iff_toNat_lt];omega)
   ·exact ih.1 h
  ·intro h;exact .inr ⟨rfl,ih.2 h⟩
theorem pre_mid:∀ (p a h b:Byt),p <+: a→p <+: b→a<h→(h=b∨h<b)→p <+: h
 | [],_,h,_,_,_,_,_=>List.nil_prefix
 | c::p,a,h,b,ha,hb,h1,h2=>by
  obtain⟨x,rfl⟩:=ha;obtain⟨y,rfl⟩:=hb
  rcases h2 with rfl | h2
  ·exact⟨y,rfl⟩
  ·cases h with
   | nil=>simp at h1
   | cons d h =>
    rw[List.cons_append,List.cons_lt_cons_iff]at h1 h2;have hcd:c=d:=by
     rcases h1 with h1 | ⟨h1,_⟩
     ·rcases h2 with h2 | ⟨h2,_⟩
      ·rw[UInt8.lt_iff_toNat_lt]at h1 h2;omega
      ·exact h2.symm
     ·exact h1
    subst hcd;have h1':p++x<h:=by
     rcases h1 with h1 | ⟨_,h1⟩
     ·exact absurd h1 (by rw[UInt8.lt_iff_toNat_lt];omega)
     ·exact h1
    have h2':h<p++y:=by
     rcases h2 with h2 | ⟨_,h2⟩
     ·exact absurd h2 (by rw[UInt8.lt_iff_toNat_lt];omega)
     ·exact h2
    have:=pre_mid p (p++x) h (p++y) ⟨x,rfl⟩ ⟨y,rfl⟩ h1' (.inr h2');obtain⟨z,rfl⟩:=this;exact⟨z,rfl⟩
structure NodeOk (x:TN):Prop where
 name:(47:UInt8) ∉ x.name
 file:∀ f,x.file=some f→f.path=x.name∧x.sub = []
 dir:x.file=none→x.sub≠[]
theorem grp_ok:∀ (l:List TFi),∀ x∈grp l,NodeOk x
 | [],x,hx=>by cases hx
 | f::l,x,hx=>by
  have ih:=grp_ok l;rw[grp_cons]at hx;unfold putN at hx
  cases hc:(cutP f.path).2 with
  | none =>
   rw[hc]at hx;obtain⟨h1,h2⟩:=cutP_none hc
   rcases List.mem_cons.1 hx with rfl | hx
   ·exact⟨by rw[h1];exact h2,fun g hg=>(by injection hg with hg;subst hg;exact⟨h1.symm,rfl⟩),fun h=>by cases h⟩
   ·exact ih x hx
  | some r =>
   rw[hc]at hx;obtain⟨h1,h2⟩:=cutP_some hc
   cases hg:grp l with
   | nil =>
    rw[hg]at hx
    rcases List.mem_cons.1 hx with rfl | hx
    ·exact⟨h2,fun g hg=>(by cases hg),fun _=>by simp⟩
    ·cases hx
   | cons y t =>
    rw[hg]at hx ih;simp only at hx
    by_cases hy:y.file=none∧y.name=(cutP f.path).1
    ·rw[if_pos hy]at hx
     rcases List.mem_cons.1 hx with rfl | hx
     ·exact⟨(ih y List.mem_cons_self).name,fun g hg=>(by cases hg),fun _=>by simp⟩
     ·exact ih x (List.mem_cons_of_mem _ hx)
    ·rw[if_neg hy]at hx
     rcases List.mem_cons.1 hx with rfl | hx
     ·exact⟨h2,fun g hg=>(by cases hg),fun _=>by simp⟩
     ·exact ih x hx
theorem node_sub {l:List TFi} {x:TN} (hx:x∈grp l):(filesN x).Sublist l:=by
 have h:=grp_files l;obtain⟨a,b,hab⟩:=List.append_of_mem hx;rw[hab,List.flatMap_append,List.flatMap_cons]at h;rw[← h];exact((List.sublist_append_left (filesN x) _).trans (List.sublist_append_right _ _))
theorem WF.sub {P:PartT} {l:List TFi} (h:WF P l) {x:TN} (hx:x∈grp l) (hf:x.file=none):WF P x.sub:=by
 have hs:=node_sub hx;have e:filesN x=x.sub.map (backF x.name):=by unfold filesN;rw[hf]
 rw[e]at hs;have hn:=(grp_ok l x hx).name;refine⟨?_,fun a ha b hb hp=>?_,fun a ha s hs2=>?_⟩
 ·have:=h.ord.sublist hs;rw[List.pairwise_map]at this;refine this.imp fun {a b} hab=>?_;have hab:x.name++47::a.path<x.name++47::b.path:=hab;rw[blt_app,List.cons_lt_cons_iff]at hab
  rcases hab with hab | ⟨_,hab⟩
  ·exact absurd hab (by rw[UInt8.lt_iff_toNat_lt];omega)
  ·exact hab
 ·have ma:=hs.subset (List.mem_map.2 ⟨a,ha,rfl⟩);have mb:=hs.subset (List.mem_map.2 ⟨b,hb,rfl⟩);refine h.clash _ ma _ mb ?_;obtain⟨t,ht⟩:=hp;refine⟨t,?_⟩;show x.name++47::a.path ++ [47]++t=x.name++47::b.path;rw[← ht];simp
 ·have ma:=hs.subset (List.mem_map.2 ⟨a,ha,rfl⟩);refine h.part _ ma s ?_;show s∈splitP (x.name++47::a.path);rw[splitP_app _ _ hn];exact List.mem_cons_of_mem _ hs2
theorem WF.name {P:PartT} {l:List TFi} (h:WF P l) {x:TN} (hx:x∈grp l):P.ok x.name=true:=by
 have ho:=grp_ok l x hx;have hs:=node_sub hx
 cases hf:x.file with
 | some f =>
  have e:filesN x = [f]:=by unfold filesN;rw[hf]
  rw[e]at hs;have hm:=hs.subset (List.mem_singleton.2 rfl);have:=h.part f hm x.name;rw[(ho.file f hf).1,splitP_whole _ ho.name]at this;exact this (List.mem_singleton.2 rfl)
 | none =>
  have e:filesN x=x.sub.map (backF x.name):=by unfold filesN;rw[hf]
  rw[e]at hs;obtain⟨a,t,ha⟩:∃ a t,x.sub=a::t:=by
   cases hsb:x.sub with
   | nil=>exact absurd hsb (ho.dir hf)
   | cons a t=>exact⟨a,t,rfl⟩
  rw[ha]at hs;have hm:=hs.subset (List.mem_map.2 ⟨a,List.mem_cons_self,rfl⟩);refine h.part _ hm x.name ?_;show x.name∈splitP (x.name++47::a.path);rw[splitP_app _ _ ho.name];exact List.mem_cons_self
theorem WF.tail {P:PartT} {f:TFi} {l:List TFi} (h:WF P (f::l)):WF P l :=
 ⟨(List.pairwise_cons.1 h.ord).2,fun a ha b hb=>h.clash a (List.mem_cons_of_mem _ ha) b (List.mem_cons_of_mem _ hb),fun a ha=>h.part a (List.mem_cons_of_mem _ ha)⟩
theorem grp_head (f:TFi) (l:List TFi):∃ x t,grp (f::l)=x::t∧x.name=(cutP f.path).1∧(x.file=none↔∃ r,(cutP f.path).2=some r):=by
 rw[grp_cons];unfold putN
 cases hc:(cutP f.path).2 with
 | none=>exact⟨_,_,rfl,rfl,fun h=>(by cases h),fun ⟨r,h⟩=>by cases h⟩
 | some r =>
  simp only
  cases hg:grp l with
  | nil=>exact⟨_,_,rfl,rfl,fun _=>⟨r,rfl⟩,fun _=>rfl⟩
  | cons y t =>
   simp only
   by_cases hy:y.file=none∧y.name=(cutP f.path).1
   ·rw[if_pos hy];exact⟨_,_,rfl,hy.2,fun _=>⟨r,rfl⟩,fun _=>rfl⟩
   ·rw[if_neg hy];exact⟨_,_,rfl,rfl,fun _=>⟨r,rfl⟩,fun _=>rfl⟩
theorem mem_file {l:List TFi} {x:TN} (hx:x∈grp l) {f:TFi} (hf:x.file=some f):f∈l∧f.path=x.name:=by
 have hs:=node_sub hx;have e:filesN x = [f]:=by unfold filesN;rw[hf]
 rw[e]at hs;exact⟨hs.subset (List.mem_singleton.2 rfl),((grp_ok l x hx).file f hf).1⟩
theorem mem_dir {l:List TFi} {x:TN} (hx:x∈grp l) (hf:x.file=none):∃ g∈l,(x.name ++ [47]) <+: g.path:=by
 have hs:=node_sub hx;have e:filesN x=x.sub.map (backF x.name):=by unfold filesN;rw[hf]
 rw[e]at hs;obtain⟨a,t,ha⟩:∃ a t,x.sub=a::t:=by
  cases hsb:x.sub with
  | nil=>exact absurd hsb ((grp_ok l x hx).dir hf)
  | cons a t=>exact⟨a,t,rfl⟩
 rw[ha]at hs;have hm:=hs.subset (List.mem_map.2 ⟨a,List.mem_cons_self,rfl⟩);exact⟨_,hm,a.path,by show x.name ++ [47]++a.path=x.name++47::a.path;simp⟩
theorem grp_names {P:PartT}:∀ (l:List TFi),WF P l→(grp l).Pairwise fun x y=>x.name≠y.name
 | [],_=>by rw[grp];exact List.Pairwise.nil
 | f::l,h=>by
  have ih:=grp_names l h.tail;have hlt:=(List.pairwise_cons.1 h.ord).1;rw[grp_cons];unfold putN
  cases hc:(cutP f.path).2 with
  | none =>
   simp only;obtain⟨h1,h2⟩:=cutP_none hc;refine List.pairwise_cons.2 ⟨fun y hy e=>?_,ih⟩;have e:f.path=y.name:=by rw[← h1];exact e
   cases hf:y.file with
   | some g =>
    obtain⟨hg,hp⟩:=mem_file hy hf;have:=hlt g hg;rw[hp,e]at this;exact blt_irrefl _ this
   | none =>
    obtain⟨g,hg,hp⟩:=mem_dir hy hf;rw[← e]at hp;exact h.clash f List.mem_cons_self g (List.mem_cons_of_mem _ hg) hp
  | some r =>
   simp only;obtain⟨h1,h2⟩:=cutP_some hc;have hpf:((cutP f.path).1 ++ [47]) <+: f.path:=⟨r,by
    have e:(cutP f.path).1 ++ [47]++r=(cutP f.path).1++47::r:=by simp
    rw[e];exact h1.symm⟩
   cases hg:grp l with
   | nil=>exact List.pairwise_singleton _ _
   | cons x t =>
    simp only;rw[hg]at ih
    by_cases hx:x.file=none∧x.name=(cutP f.path).1
    ·rw[if_pos hx];obtain⟨i1,i2⟩:=List.pairwise_cons.1 ih;exact List.pairwise_cons.2 ⟨fun y hy=>i1 y hy,i2⟩
    ·rw[if_neg hx];refine List.pairwise_cons.2 ⟨fun y hy e=>?_,ih⟩;have e:(cutP f.path).1=y.name:=e;rw[← hg]at hy
     cases hf:y.file with
     | some g =>
      obtain⟨hgm,hp⟩:=mem_file hy hf;refine h.clash g (List.mem_cons_of_mem _ hgm) f List.mem_cons_self ?_;rw[hp,← e];exact hpf
     | none =>
      obtain⟨g,hgm,hp⟩:=mem_dir hy hf;rw[← e]at hp
      cases l with
      | nil=>cases hgm
      | cons h0 l =>
       obtain⟨x',t',hg',hn',hf'⟩:=grp_head h0 l;rw[hg']at hg;injection hg with hg1 hg2;subst hg1;have hh:h0.path=g.path∨h0.path<g.path:=by
        rcases List.mem_cons.1 hgm with rfl | hgm
        ·exact .inl rfl
        ·exact .inr ((List.pairwise_cons.1 h.tail.ord).1 g hgm)
       have hm:=pre_mid _ _ _ _ hpf hp (hlt h0 List.mem_cons_self) hh;obtain⟨s,hs⟩:=hm;have hs2:h0.path=(cutP f.path).1++47::s:=by rw[← hs];simp
       have hcc:=cutP_app (cutP f.path).1 s h2;rw[← hs2]at hcc;exact hx ⟨hf'.2 ⟨s,by rw[hcc]⟩,by rw[hn',hcc]⟩
def srtN (l:List TN):List TN:=l.mergeSort fun x y=>decide (x.name≤y.name)
def nodesS (l:List TFi):List TN:=srtN (grp l)
theorem nodesS_perm (l:List TFi):(nodesS l).Perm (grp l):=List.mergeSort_perm _ _
theorem nodesS_mem {l:List TFi} {x:TN}:x∈nodesS l↔x∈grp l:=(nodesS_perm l).mem_iff
theorem nodesS_ord {P:PartT} {l:List TFi} (h:WF P l):(nodesS l).Pairwise fun x y=>x.name<y.name:=by
 have h1:(nodesS l).Pairwise fun x y=>decide (x.name≤y.name)=true:=List.pairwise_mergeSort (fun a b c hab hbc=>by
  rw[decide_eq_true_iff]at hab hbc ⊢;exact List.le_trans hab hbc) (fun a b=>by
  rw[Bool.or_eq_true,decide_eq_true_iff,decide_eq_true_iff];exact List.le_total _ _) _
 have h2:(nodesS l).Pairwise fun x y=>x.name≠y.name:=((nodesS_perm l).pairwise_iff (fun h=>Ne.symm h)).2 (grp_names l h);refine(h1.and h2).imp fun {a b} hab=>?_;have:=of_decide_eq_true hab.1
 rcases List.le_total b.name a.name with h | h
 ·exact absurd (List.le_antisymm this h) hab.2
 ·exact Classical.byContradiction fun hn=>hab.2 (List.le_antisymm this (List.not_lt.1 hn))
theorem nodesS_uniq {P:PartT} {l:List TFi} (h:WF P l) {S:List TN} (hp:S.Perm (grp l)) (hs:S.Pairwise fun x y=>x.name≤y.name):S=nodesS l:=by
 have hd:(grp l).Pairwise fun x y=>x.name≠y.name:=grp_names l h;have hs2:S.Pairwise fun x y=>x.name≤y.name∧x.name≠y.name:=hs.and ((hp.pairwise_iff (fun h=>Ne.symm h)).2 hd);have hn:=(nodesS_ord h).imp fun {a b} hab=>(⟨List.le_of_lt hab,fun e=>List.lt_irrefl _ (e ▸ hab)⟩:a.name≤b.name∧a.name≠b.name);refine List.Perm.eq_of_pairwise (le:=fun a b:TN=>a.name≤b.name∧a.name≠b.name) (fun a b _ _ h1 h2=>absurd (List.le_antisymm h1.1 h2.1) h1.2) hs2 hn (hp.trans (nodesS_perm l).symm)
def dgB (b:Byt):Byt:=(digF b).data.toList
def sFile:Byt:=[102,105,108,101,32]
def sDir:Byt:=[100,105,114,32]
def lineX (rec:List TFi→Byt) (x:TN):Byt:=match x.file with
 | some f=>sFile++x.name ++ [32]++dgB f.bs ++ [32] ++ [if f.run=true then 120 else 45] ++ [10]
 | none=>sDir++x.name ++ [32]++dgB (rec x.sub) ++ [10]
def TD:Nat→List TFi→Byt
 | 0,_=>[]
 | n+1,l=>(nodesS l).flatMap (lineX (TD n))
theorem dgB_len (b:Byt):(dgB b).length=16:=by
 have h:=digF_size b;unfold dgB;exact h
theorem sub_path {l:List TFi} {x:TN} (hx:x∈grp l) (hf:x.file=none) {n:Nat} (hn:∀ f∈l,f.path.length≤n):∀ f∈x.sub,f.path.length+1+x.name.length≤n:=by
 intro f hfm;have hs:=node_sub hx;have e:filesN x=x.sub.map (backF x.name):=by unfold filesN;rw[hf]
 rw[e]at hs;have:=hn _ (hs.subset (List.mem_map.2 ⟨f,hfm,rfl⟩));have e2:(backF x.name f).path=x.name++47::f.path:=rfl;rw[e2,List.length_append,List.length_cons]at this;omega
theorem name_len {l:List TFi} {x:TN} (hx:x∈grp l) {n:Nat} (hn:∀ f∈l,f.path.length≤n):x.name.length≤n:=by
 cases hf:x.file with
 | some f =>
  obtain⟨h1,h2⟩:=mem_file hx hf;rw[← h2];exact hn f h1
 | none =>
  obtain⟨g,hg,t,ht⟩:=mem_dir hx hf;have:=hn g hg;rw[← ht,List.length_append,List.length_append]at this;omega
theorem sub_count {l:List TFi} {x:TN} (hx:x∈grp l):x.sub.length≤l.length:=by
 have hs:=node_sub hx
 cases hf:x.file with
 | some f=>rw[((grp_ok l x hx).file f hf).2];exact Nat.zero_le _
 | none =>
  have e:filesN x=x.sub.map (backF x.name):=by unfold filesN;rw[hf]
  rw[e]at hs;have:=hs.length_le
  rwa [List.length_map]at this
theorem grp_count:∀ (l:List TFi),(grp l).length≤l.length
 | []=>Nat.le_refl _
 | f::l=>by
  have ih:=grp_count l;rw[grp_cons];unfold putN
  cases hc:(cutP f.path).2 with
  | none=>simp only[List.length_cons];omega
  | some r =>
   simp only
   cases hg:grp l with
   | nil=>simp
   | cons x t =>
    rw[hg]at ih;simp only[List.length_cons]at ih ⊢
    split <;> simp only[List.length_cons] <;> omega
theorem path_pos {P:PartT} {l:List TFi} (h:WF P l):∀ f∈l,0<f.path.length:=by
 intro f hf
 rcases Nat.eq_zero_or_pos f.path.length with h0 | h0
 ·exfalso;have e:f.path = []:=List.eq_nil_of_length_eq_zero h0;have:=h.part f hf [] (by rw[e];unfold splitP;exact List.mem_singleton.2 rfl);exact P.ne this rfl
 ·exact h0
end Go.Proofs.YtpdjjjiknijpkaaGreatDoor
namespace Go.Proofs.YtpdjjjiknijpkaaGreatDoor
open Go.ChangeShapes Go.WideShapes Go.Deep Go.RowKit Go.Maps
section
variable {P:Program} {k:TypeId} {κ α:Type} {K:KD P k κ} {val:α→Value} {w w':World} {b r c cnt:Nat} {f:κ→Option α} {left:κ→Bool}
def TRange (K:KD P k κ) (val:α→Value) (w:World) (b r c:Nat) (f:κ→Option α) (left:κ→Bool) (cnt:Nat):Prop :=
 ∃ (D:DataW α) (lf:Lit→Bool),w.ranges P k (rdV val) b r c D lf cnt∧(∀ x,K.good x→Maps.has D (K.lit x)=(f x).isSome∧∀ a,f x=some a→∀ zd,D.atKey (K.lit x) zd = .held a)∧∀ x,K.good x→lf (K.lit x)=left x
theorem TRange.left_eq (h:TRange K val w b r c f left cnt):w.rangeLeft b r=cnt:=by obtain⟨_,_,h,_⟩:=h;exact h.left_eq
theorem TRange.lt (h:TRange K val w b r c f left cnt):r<w.heap.size:=by obtain⟨_,_,h,_⟩:=h;exact h.lt
theorem TRange.ltb (h:TRange K val w b r c f left cnt):b<w.heap.size:=by obtain⟨_,_,h,_⟩:=h;exact h.owns.lt
theorem TRange.kept {row:Option Nat} (h:TRange K val w b r c f left cnt) (hg:w.grownBy w' row) (hb:some b≠row) (hr:some r≠row):TRange K val w' b r c f left cnt:=by
 obtain⟨D,lf,h,q⟩:=h;exact⟨D,lf,h.kept hg hb hr,q⟩
theorem TRange.alloc (h:TRange K val w b r c f left cnt) (o:Obj):TRange K val (w.alloc o) b r c f left cnt:=h.kept (World.grownBy_alloc w o none) (by simp) (by simp)
theorem below_grown {B:Nat} (hb:Below B w w') (hB:B=w.heap.size):w.grownBy w' none:=by
 subst hB;exact⟨hb.os,hb.tape,hb.output,hb.size,fun k hk _=>hb.block k hk⟩
theorem TRange.below (h:TRange K val w b r c f left cnt) (hb:Below w.heap.size w w'):TRange K val w' b r c f left cnt:=h.kept (below_grown hb rfl) (by simp) (by simp)
variable {ops:Array Oper} {rest:List Oper} {o:Oper} {a:Act} {Q:Exit→Act→World→Prop}
theorem wpList_trange (hg:o.guard=none) (m:Operand) (t:TypeId) (hop:o.op=Op.range t m) {e:TypeId} (ht:P.underlying t=some (.map k e)) (hm:a.eval m = .map (some b)) (h:TMap K val w b f c)
  (hK:∀ w',TRange K val w' b w.heap.size c f (fun x=>(f x).isSome) c→w.grownBy w' none→w'.heap.size=w.heap.size+1→wpList P ops Q rest (a.put o.dst (.pointer (some ⟨w.heap.size,0,none⟩))) w') :
  wpList P ops Q (o::rest) a w:=by
 obtain⟨D,h,hs,hv⟩:=h;refine wpList_range_own w hg m t hop k e K.keyed ht (rdV val) b c D hm h ?_;intro w' hr hgr hsz;rw[hs]at hr;exact hK w' ⟨D,_,hr,hv,fun x hx=>(hv x hx).1⟩ hgr hsz
theorem wpList_tnext [DecidableEq κ] (hg:o.guard=none) (it:Operand) (hop:o.op=Op.next it false) (hit:a.eval it = .pointer (some ⟨r,0,none⟩)) (hi:InjV val) (h:TRange K val w b r c f left cnt)
  (hDone:cnt=0→(∀ x,K.good x→left x=false)→wpList P ops Q rest (a.put o.dst (.tuple #[.bool false])) w)
  (hMore:∀ (x:κ) (y:α) (w':World) (cnt':Nat),K.good x→left x=true→f x=some y→TRange K val w' b r c f (fun z=>left z && !decide (z=x)) cnt'→cnt'<cnt →
   w.grownBy w' (some r)→w'.heap.size=w.heap.size→(Instr.entry (.pointer (some ⟨r,0,none⟩))).run P w' = .ok (.tuple #[K.val x,val y]) w'→wpList P ops Q rest (a.put o.dst (.tuple #[.bool true,K.val x,val y])) w') :
  wpList P ops Q (o::rest) a w:=by
 obtain⟨D,lf,h,hv,hl⟩:=h;refine wpList_next_ranges w hg it hop k K.keyed (rdV val) K.val val (fun key kl hk=>by obtain⟨x,_,rfl,_⟩:=K.inv _ _ hk;exact⟨x,rfl⟩) (fun v y hy=>by obtain⟨c,rfl,_⟩:=rdV_inv hy;exact⟨c,rfl⟩)
  b r c D lf cnt hit h (fun h0 hd=>hDone h0 fun x hx=>by rw[← hl x hx];exact hd _) ?_
 intro x0 y kl yy w' cnt' hkey hlk hR hat hrg hlt hgr hsz hen;obtain⟨x,hx,ex,rfl⟩:=K.inv _ _ hkey;rw[ex]at hen ⊢;rw[rdV_of hi]at hR;obtain rfl:yy=(.held y,[]):=(Option.some.inj hR).symm;have hhas:=Maps.has_true_of_atKey hat;have hf:f x=some y:=by
  rw[(hv x hx).1]at hhas;obtain⟨a,ha⟩:=Option.isSome_iff_exists.1 hhas;have h1:=(hv x hx).2 a ha .nil;rw[hat]at h1;injection h1 with h1;rw[ha,h1]
 refine hMore x y w' cnt' hx (by rw[← hl x hx];exact hlk) hf ⟨D,_,hrg,hv,fun z hz=>?_⟩ hlt hgr hsz hen;simp only;rw[hl z hz]
 by_cases e:z=x
 ·subst e;rw[WideAt.sameKey_self (K.keyed.key (K.of_ z hz)),decide_eq_true rfl]
 ·rw[Maps.sameKey_ne (fun h=>e (K.inj _ _ hz hx h)),decide_eq_false e]
end
def KStr {P:Program} {k:TypeId} (hk:P.underlying k=some .string):KD P k ByteArray :=
 ⟨fun s=>.string s,fun s=>.string s.data.toList,fun s=>s.size≤maxLen,string_keyed hk,fun _ h=>WideMaps.keyOf_string_mk hk h,fun v l h=>by obtain⟨s,e1,e2,e3⟩:=WideMaps.string_of_keyOf hk h;exact⟨s,e3,e1,e2⟩,fun x y _ _ h=>by
  cases x;cases y
  simpa using h⟩
end Go.Proofs.YtpdjjjiknijpkaaGreatDoor