/-
 Several texts of mine as one, without what is not wanted here: XNdE, XWfX, XEnD, XPuA, XDtA.
-/
import Derived.Test.YtpdjjjiknijpkaaGreatDoorTvHC10
import Derived.RangeFuncOwn
set_option linter.unusedVariables false
set_option linter.unusedSimpArgs false
set_option maxRecDepth 100000
set_option maxHeartbeats 8000000
namespace Go.Proofs.YtpdjjjiknijpkaaGreatDoor.C10
open Go.ChangeShapes Go.WideShapes Go.Deep Go.RowKit Go.Lib
theorem same_permV {f:NV→Int} {l m:List NV} (h:SameCls f l m):l.Perm m:=by
 haveI:DecidableEq NV:=fun a b=>Classical.propDecidable (a=b)
 refine List.perm_iff_count.2 fun x=>?_;have h1:=congrArg (List.count x) (h (f x));unfold cls at h1;rw[List.count_filter (by simp),List.count_filter (by simp)]at h1;exact h1
theorem le_of_rk {C:List ByteArray} {x y:NV} (hy:y.name∈C) (h:fI C x≤fI C y):x.name.data.toList≤y.name.data.toList:=by
 refine List.not_lt.1 fun hlt=>?_;have h1:Op.bytesLess y.name.data.toList x.name.data.toList=true:=by rw[bytesLess_eq,decide_eq_true_iff];exact hlt
 rw[less_cmpB,decide_eq_true_iff]at h1;have h2:cmpS y.name x.name = -1:=h1;have:=rk_lt hy h2;unfold fI vC at h;omega
def nodeOf (Y:List TN) (x:NV):TN:=(Y.find? fun y=>y.name==x.name.data.toList).getD ⟨[],none,[]⟩
theorem nodeOf_at {Y:List TN} (hd:Y.Pairwise fun a b=>a.name≠b.name) {x:NV} {y:TN} (hy:y∈Y) (hn:x.name.data.toList=y.name):nodeOf Y x=y:=by
 unfold nodeOf
 induction Y with
 | nil=>cases hy
 | cons z Y ih =>
  obtain⟨h1,h2⟩:=List.pairwise_cons.1 hd;rw[List.find?_cons]
  rcases List.mem_cons.1 hy with rfl | hy
  ·rw[hn];simp
  ·have hne:(z.name==x.name.data.toList)=false:=by rw[hn];simpa using h1 y hy
   rw[hne];exact ih h2 hy
def NodesAns (b off:Nat) (l:List File) (W0:World) (e:Ending) (w':World):Prop :=
 ∃ A n c D,e = .returned (.slice A n c)∧n≤1000∧SlAt (RNV (l.map nmF)) w' A n D∧D.length=(nodesS (l.map tfOf)).length ∧
  (∀ (j:Nat) x y,D[j]? = some x→(nodesS (l.map tfOf))[j]? = some y→NodeC W0 b off l w' x y)∧Below W0.heap.size W0 w'
theorem nodes_any (P:PartT) (b off m cap:Nat) (l:List File) (W0:World) (hmx:MaxLenAt W0) (hl:SlAt RFile W0 (some ⟨b,off,none⟩) m l) (hm:m≤1000) (h0:0<m) (hz:∀ y∈l,y.path.size≤200) (hwf:WF P (l.map tfOf)) :
  Calls Tryz.prog 40 #[.slice (some ⟨b,off,none⟩) m cap] W0 (NodesAns b off l W0):=by
 refine nodes_loop b off m cap l W0 hmx hl hm hz _ fun A n c D w1 hnm hNd=>?_;have hYne:grp (l.map tfOf)≠[]:=grp_ne (by
  intro e;have:=congrArg List.length e;rw[List.length_map,hl.1]at this;simp at this;omega)
 have hDn:D.length=n:=hNd.own.len;have hn0:0<n:=by
  have h1:=hNd.len
  rcases Nat.eq_zero_or_pos n with h | h
  ·exact absurd (List.eq_nil_of_length_eq_zero (by omega)) hYne
  ·exact h
 obtain⟨g,hA⟩:=own_form hNd.own hn0;subst hA;have hrow:RowV (l.map nmF) w1 g 0 n D:=⟨hNd.own.slAt,fun j=>own_fz hNd.own (0+j),(hNd.own.1.lt g rfl).2⟩;refine(stable_any (l.map nmF) g 0 n c D w1 (by omega) hrow).mono ?_;rintro e w2 ⟨rfl,M,hso,hcl,hrow2,hsr⟩;refine⟨rfl,some ⟨g,0,none⟩,n,c,M,rfl,by omega,hrow2.sl,?_,?_,?_⟩
 ·have h1:=(same_permV hcl).length_eq;rw[(nodesS_perm _).length_eq,h1,hNd.len]
 ·have hd:=grp_names (l.map tfOf) hwf;have hp:=same_permV hcl;have hb2:Below W0.heap.size W0 w2:=hNd.bel.grown hsr hNd.bel.size fun k hk=>by injection hk with hk;subst hk;exact(hNd.own.1.lt g rfl).1
  have hmem:∀ x∈D,∃ y,y∈grp (l.map tfOf)∧NodeC W0 b off l w2 x y:=fun x hx=>by
   obtain⟨i,hi,rfl⟩:=List.mem_iff_getElem.1 hx;have hiY:i<(grp (l.map tfOf)).length:=by have:=hNd.len;omega
   have hc:=hNd.each i _ _ (List.getElem?_eq_getElem hi) (List.getElem?_eq_getElem hiY);refine⟨_,List.getElem_mem hiY,hc.kept hsr ?_ hb2⟩
   cases hq:(slN D[i]).ownBlock with
   | none=>exact .inl rfl
   | some q=>exact .inr fun e=>by injection e with e;subst e;exact hNd.dis2 i _ _ (List.getElem?_eq_getElem hi) hq rfl
  have hDf:D.map (nodeOf (grp (l.map tfOf)))=grp (l.map tfOf):=by
   refine List.ext_getElem (by rw[List.length_map,hNd.len]) fun i h1 h2=>?_;rw[List.getElem_map];rw[List.length_map]at h1;have hc:=hNd.each i _ _ (List.getElem?_eq_getElem h1) (List.getElem?_eq_getElem h2);exact nodeOf_at hd (List.getElem_mem h2) hc.name
  have hMp:(M.map (nodeOf (grp (l.map tfOf)))).Perm (grp (l.map tfOf)):=by
   have:=hp.map (nodeOf (grp (l.map tfOf)))
   rwa [hDf]at this
  have hnm2:∀ x∈M,(nodeOf (grp (l.map tfOf)) x).name=x.name.data.toList:=fun x hx=>by
   obtain⟨y,hy,hc⟩:=hmem x (hp.mem_iff.1 hx);rw[nodeOf_at hd hy hc.name,hc.name]
  have hMs:(M.map (nodeOf (grp (l.map tfOf)))).Pairwise fun x y=>x.name≤y.name:=by
   rw[List.pairwise_map];have h1:M.Pairwise fun x y=>fI (l.map nmF) x≤fI (l.map nmF) y:=hso;refine h1.imp_of_mem fun {x y} hx hy h=>?_;rw[hnm2 x hx,hnm2 y hy];exact le_of_rk (hrow2.sl.2.2 y hy) h
  have hE:=nodesS_uniq hwf hMp hMs;intro j x y hx hy;rw[← hE,List.getElem?_map,hx]at hy;injection hy with hy;subst hy;obtain⟨y,hym,hc⟩:=hmem x (hp.mem_iff.1 (List.mem_of_getElem? hx));rw[nodeOf_at hd hym hc.name];exact hc
 ·exact hNd.bel.grown hsr hNd.bel.size fun k hk=>by injection hk with hk;subst hk;exact(hNd.own.1.lt g rfl).1
theorem nodes_nil (A:Option Addr) (c:Nat) (W0:World):Calls Tryz.prog 40 #[.slice A 0 c] W0 fun e w'=>e = .returned (.slice none 0 0)∧Below W0.heap.size W0 w':=by
 have hst:=stable_nil W0;unfold gV at hst;have hstH:=Lib.hid hst;clear hst;go_enter Tryz.func40,Tryz.ntmps40;go_wp2_with fail
 go_loopw [3,11] (fun v i wr=>v = .slice none 0 0∧i = .int .i64 0∧wr=W0) (fun _ _ _=>0)
 case atStart=>exact⟨rfl,rfl,rfl⟩
 case round =>
  obtain⟨rfl,rfl,rfl⟩:=hrel;go_wp2_with fail;refine hstH.out.mono ?_;rintro e w1 ⟨rfl,rfl⟩;go_wp2;go_ret;exact⟨rfl,Below.refl _ _⟩
end Go.Proofs.YtpdjjjiknijpkaaGreatDoor.C10
namespace Go.Proofs.YtpdjjjiknijpkaaGreatDoor.C10
open Go.RowKit
theorem pch_ne {c:UInt8} (h:pch c=true):c≠32∧c≠10∧c≠47:=by
 unfold pch at h;rw[decide_eq_true_iff]at h;refine⟨fun e=>?_,fun e=>?_,fun e=>?_⟩ <;> (subst e;revert h;decide)
def partT:PartT where
 ok:=partL
 ne:=by
  intro s h e;subst e
  revert h;decide
 ch:=by
  intro s h c hc;unfold partL at h;simp only[Bool.and_eq_true]at h;exact pch_ne (List.all_eq_true.1 h.1.1.1 c hc)
theorem index_sepP {c:UInt8}:∀ (u r:List UInt8),c ∉ u→Lib.index (u++c::r) [c]=u.length
 | [],r,_=>by simp[Lib.index,List.isPrefixOf]
 | b::u,r,h=>by
  have hb:c≠b:=fun e=>h (by rw[e];exact List.mem_cons_self);have ih:=index_sepP u r (fun e=>h (List.mem_cons_of_mem _ e));show Lib.index (b::(u++c::r)) [c]=_;have hp:([c]:List UInt8).isPrefixOf (b::(u++c::r))=false:=by simp[List.isPrefixOf,hb]
  have h1:((u.length:Int) == -1)=false:=by rw[beq_eq_false_iff_ne];omega
  rw[Lib.index,ih,hp,h1];simp
theorem splitK_P:∀ (m:Nat) (s:Byt),s.length≤m→Lib.splitK [47] 0 (s.count 47) s=splitP s
 | m,s,hm=>by
  cases hc:(cutP s).2 with
  | none =>
   obtain⟨h1,h2⟩:=cutP_none hc;rw[List.count_eq_zero.2 h2,splitP_whole s h2];rfl
  | some r =>
   obtain⟨h1,h2⟩:=cutP_some hc;obtain⟨n,hn⟩:∃ n,(cutP s).1=n:=⟨_,rfl⟩;rw[hn]at h1 h2;have hl:s.length=n.length+(r.length+1):=by rw[h1];simp
   match m,hm with
   | 0,hm=>omega
   | m+1,hm =>
    have ih:=splitK_P m r (by omega);have hct:s.count 47=r.count 47+1:=by rw[h1,List.count_append,List.count_eq_zero.2 h2];simp
    have hi:Lib.index s [47]=n.length:=by rw[h1];exact index_sepP n r h2
    have h3:((n.length:Int) == -1)=false:=by rw[beq_eq_false_iff_ne];omega
    rw[hct,Lib.splitK,hi,h3,if_neg (by decide),Int.toNat_natCast,Nat.add_zero];have e1:s.take n.length=n:=by rw[h1];simp
    have e2:s.drop (n.length + [(47:UInt8)].length)=r:=by rw[h1];simp
    rw[e1,e2,ih,h1,splitP_app n r h2]
theorem parts_P (s:ByteArray):(parts s).map (·.data.toList)=splitP s.data.toList:=by
 unfold parts;rw[show Lib.countB s ⟨#[47]⟩=s.data.toList.count 47 from Lib.count_one 47 s.data.toList,Lib.splitB_data];exact splitK_P _ _ (Nat.le_refl _)
theorem pathB_part {s:ByteArray} (h:pathB s=true):∀ p∈splitP s.data.toList,partL p=true:=by
 intro p hp;rw[← parts_P]at hp;obtain⟨x,hx,rfl⟩:=List.mem_map.1 hp;unfold pathB at h;rw[Bool.and_eq_true]at h;exact List.all_eq_true.1 h.2 x hx
theorem lt_of_sle {a b:ByteArray} (h:sle b a=false):a.data.toList<b.data.toList:=by
 rw[sle_cmp,decide_eq_false_iff_not]at h;have h1:cmpS a b = -1:=by
  have:=cmpS_swap a b
  rcases cmpS_range a b with e | e | e
  ·exact e
  ·omega
  ·omega
 have h2:Op.bytesLess a.data.toList b.data.toList=true:=by rw[less_cmpB,decide_eq_true_iff];exact h1
 rwa [bytesLess_eq,decide_eq_true_iff]at h2
theorem pair_of_next {α:Type} {r:α→α→Prop} (ht:∀ a b c,r a b→r b c→r a c):∀ (l:List α),(∀ (k:Nat) y z,l[k]? = some y→l[k+1]? = some z→r y z)→l.Pairwise r
 | [],_=>List.Pairwise.nil
 | [a],_=>List.pairwise_singleton _ _
 | a::b::l,h=>by
  have ih:=pair_of_next ht (b::l) (fun k y z h1 h2=>h (k+1) y z h1 h2);have hab:=h 0 a b rfl rfl;refine List.pairwise_cons.2 ⟨fun x hx=>?_,ih⟩
  rcases List.mem_cons.1 hx with rfl | hx
  ·exact hab
  ·exact ht _ _ _ hab ((List.pairwise_cons.1 ih).1 x hx)
theorem wf_of {l:List File} (h:FilesX l):WF partT (l.map tfOf):=by
 refine⟨?_,fun a ha b hb hp=>?_,fun a ha s hs=>?_⟩
 ·refine pair_of_next (r:=fun a b:TFi=>a.path<b.path) (fun a b c (h1:a.path<b.path) (h2:b.path<c.path)=>(List.lt_trans h1 h2:a.path<c.path)) _ fun k y z hy hz=>?_;rw[List.getElem?_map]at hy hz;obtain⟨y',hy',rfl⟩:=Option.map_eq_some_iff.1 hy;obtain⟨z',hz',rfl⟩:=Option.map_eq_some_iff.1 hz;exact lt_of_sle (h.ord k y' z' hy' hz')
 ·obtain⟨x,hx,rfl⟩:=List.mem_map.1 ha;obtain⟨y,hy,rfl⟩:=List.mem_map.1 hb;obtain⟨t,ht⟩:=hp;have ht:x.path.data.toList ++ [47]++t=y.path.data.toList:=ht;obtain⟨j,hj,rfl⟩:=List.mem_iff_getElem.1 hy;have hc:=h.cl j _ (List.getElem?_eq_getElem hj);have hsz:x.path.size<(l[j]).path.size:=by
   have:=congrArg List.length ht;simp only[List.length_append,List.length_singleton]at this;rw[Lib.size_eq,Lib.size_eq];omega
  unfold clashP at hc;rw[List.any_eq_false]at hc;have hk:=hc x.path.size (List.mem_range.2 hsz);apply hk;unfold clAt;rw[dif_pos hsz,Bool.and_eq_true,decide_eq_true_iff];have hg:(l[j]).path.data.toList[x.path.size]? = some 47:=by
   rw[← ht,List.append_assoc,List.getElem?_append_right (by rw[Lib.size_eq];omega)];rw[Lib.size_eq];simp
  have hg2:=str_get hsz;rw[hg]at hg2;injection hg2 with hg2;refine⟨by rw[← hg2];rfl,?_⟩;unfold hasF;rw[List.any_eq_true];refine⟨x,hx,?_⟩;rw[decide_eq_true_iff];have e:((l[j]).path.extract 0 x.path.size).data.toList=x.path.data.toList:=by
   rw[ByteArray.data_extract,Array.toList_extract,← ht];have e2:x.path.size=x.path.data.toList.length:=Lib.size_eq _;rw[e2,List.append_assoc];simp
  cases hxp:x.path with
  | mk d =>
   rw[hxp]at e
   cases hq:(l[j]).path.extract 0 (⟨d⟩:ByteArray).size with
   | mk d2 =>
    rw[hq]at e;have:d2=d:=by
     cases d;cases d2;simpa using e
    rw[this]
 ·obtain⟨x,hx,rfl⟩:=List.mem_map.1 ha;obtain⟨j,hj,rfl⟩:=List.mem_iff_getElem.1 hx;exact pathB_part (h.row j _ (List.getElem?_eq_getElem hj)).1 s hs
structure Ent where
 name:ByteArray
 digest:ByteArray
 dir:Bool
 run:Bool
instance:Inhabited Ent:=⟨⟨ByteArray.empty,ByteArray.empty,false,false⟩⟩
structure EntOk (e:Ent):Prop where
 name:partB e.name=true
 size:e.name.size≤200
 dig:digB e.digest=true
 run:e.dir=true→e.run=false
def lineE (e:Ent):Byt:=if e.dir=true then sDir++e.name.data.toList ++ [32]++e.digest.data.toList ++ [10] else sFile++e.name.data.toList ++ [32]++e.digest.data.toList ++ [32] ++ [if e.run=true then 120 else 45] ++ [10]
def wsF:ByteArray:=⟨#[102,105,108,101]⟩
def wsD:ByteArray:=⟨#[100,105,114]⟩
def wsR (r:Bool):ByteArray:=if r=true then ⟨#[120]⟩ else ⟨#[45]⟩
def wdE (e:Ent):List ByteArray:=if e.dir=true then [wsD,e.name,e.digest] else [wsF,e.name,e.digest,wsR e.run]
theorem lineE_words (e:Ent):lineE e=lineL (wdE e):=by
 unfold lineE wdE lineL
 cases e.dir
 ·simp only[Bool.false_eq_true,if_false]
  cases e.run <;> simp[Lib.join,wsF,wsR,sFile]
 ·simp only[if_true];simp[Lib.join,wsD,sDir]
theorem part_ch {s:ByteArray} (h:partB s=true):∀ c∈s.data.toList,c≠32∧c≠10∧c≠47:=fun c hc=>partT.ch (s:=s.data.toList) h c hc
theorem dig_ch {s:ByteArray} (h:digB s=true):∀ c∈s.data.toList,c≠32∧c≠10∧c≠47:=by
 intro c hc;unfold digB at h;rw[Bool.and_eq_true,List.all_eq_true]at h;have h1:=h.2 c hc;refine⟨fun e=>?_,fun e=>?_,fun e=>?_⟩ <;> (subst e;revert h1;decide)
theorem words_ch {e:Ent} (h:EntOk e):∀ w∈wdE e,∀ c∈w.data.toList,c≠32∧c≠10:=by
 intro w hw c hc;unfold wdE at hw;have h1:=fun c hc=>part_ch h.name c hc;have h2:=fun c hc=>dig_ch h.dig c hc
 split at hw
 ·simp only[List.mem_cons,List.not_mem_nil,or_false]at hw
  rcases hw with rfl | rfl | rfl
  ·have:c∈[100,105,114]:=hc;refine⟨fun e=>?_,fun e=>?_⟩ <;> (subst e;revert this;decide)
  ·exact⟨(h1 c hc).1,(h1 c hc).2.1⟩
  ·exact⟨(h2 c hc).1,(h2 c hc).2.1⟩
 ·simp only[List.mem_cons,List.not_mem_nil,or_false]at hw
  rcases hw with rfl | rfl | rfl | rfl
  ·have:c∈[102,105,108,101]:=hc;refine⟨fun e=>?_,fun e=>?_⟩ <;> (subst e;revert this;decide)
  ·exact⟨(h1 c hc).1,(h1 c hc).2.1⟩
  ·exact⟨(h2 c hc).1,(h2 c hc).2.1⟩
  ·unfold wsR at hc
   split at hc
   ·have:c∈[120]:=hc;refine⟨fun e=>?_,fun e=>?_⟩ <;> (subst e;revert this;decide)
   ·have:c∈[45]:=hc;refine⟨fun e=>?_,fun e=>?_⟩ <;> (subst e;revert this;decide)
def lnE (e:Ent):ByteArray:=⟨(Lib.join ((wdE e).map (·.data.toList)) [32]).toArray⟩
theorem lnE_words {e:Ent} (h:EntOk e):wordsOf (lnE e)=wdE e:=by
 have hc:=words_ch h;unfold lnE;unfold wdE at hc ⊢
 split
 ·rename_i hd
  rw[if_pos hd]at hc;exact words_join _ _ (fun w hw hm=>(hc w hw 32 hm).1 rfl)
 ·rename_i hd
  rw[if_neg hd]at hc;exact words_join _ _ (fun w hw hm=>(hc w hw 32 hm).1 rfl)
theorem lnE_size {e:Ent} (h:EntOk e):(lnE e).size≤300:=by
 have hd:=digB_size h.dig;have hn:=h.size;have e1:(lnE e).size=(Lib.join ((wdE e).map (·.data.toList)) [32]).length:=by rw[Lib.size_eq];rfl
 rw[Lib.size_eq]at hd hn;rw[e1];unfold wdE
 split
 ·simp only[List.map_cons,List.map_nil,Lib.join_cons,Lib.joinTail,List.length_append,List.flatten_cons,List.flatten_nil,List.length_nil,List.length_cons];have:wsD.data.toList.length=3:=rfl;omega
 ·simp only[List.map_cons,List.map_nil,Lib.join_cons,Lib.joinTail,List.length_append,List.flatten_cons,List.flatten_nil,List.length_nil,List.length_cons];have:wsF.data.toList.length=4:=rfl;have h2:(wsR e.run).data.toList.length=1:=by unfold wsR;split <;> rfl
  omega
theorem cut_lines {e:Ent} (h:EntOk e) (r:Byt):Lib.cut (lineE e++r) [10]=((lnE e).data.toList,r,true):=by
 rw[lineE_words,line_cut _ _ (fun w hw hm=>(words_ch h w hw 10 hm).2 rfl)];rfl
theorem lineE_ne (e:Ent) (r:Byt):lineE e++r≠[]:=by rw[lineE_words];exact line_ne _ _
def entN (rec:List TFi→Byt) (y:TN):Ent:=match y.file with
 | some f=>⟨⟨y.name.toArray⟩,digF f.bs,false,f.run⟩
 | none=>⟨⟨y.name.toArray⟩,digF (rec y.sub),true,false⟩
theorem lineX_E (rec:List TFi→Byt) (y:TN):lineX rec y=lineE (entN rec y):=by
 unfold lineX entN lineE
 cases y.file with
 | some f=>simp only[Bool.false_eq_true,if_false];rfl
 | none=>simp only[if_true];rfl
theorem TD_E (n:Nat) (l:List TFi):TD (n+1) l=((nodesS l).map (entN (TD n))).flatMap lineE:=by
 show (nodesS l).flatMap (lineX (TD n))=_;rw[List.flatMap_map]
 congr 1
 funext y
 exact lineX_E _ _
theorem entN_ok {n:Nat} {rec:List TFi→Byt} {l:List TFi} (h:WF partT l) (hn:∀ f∈l,f.path.length≤200) {y:TN} (hy:y∈nodesS l):EntOk (entN rec y):=by
 have hp:=h.name (nodesS_mem.1 hy);have hl:=name_len (nodesS_mem.1 hy) hn;have hnm:(entN rec y).name=⟨y.name.toArray⟩:=by unfold entN;cases y.file <;> rfl
 refine⟨by rw[hnm];exact hp,by rw[hnm,Lib.size_eq];exact hl,by unfold entN;cases y.file <;> exact digB_digT _,?_⟩;unfold entN
 cases y.file with
 | some f=>intro h;cases h
 | none=>intro _;rfl
end Go.Proofs.YtpdjjjiknijpkaaGreatDoor.C10
namespace Go.Proofs.YtpdjjjiknijpkaaGreatDoor.C10
open Go.ChangeShapes Go.WideShapes Go.Deep Go.RowKit Go.Lib Go.Maps
structure SV where
 A:Option Addr
 n:Nat
 c:Nat
def valV (x:SV):Value:=.slice x.A x.n x.c
theorem injV:InjV valV:=fun a b h=>by
 cases a;cases b
 simp[valV]at h;obtain⟨h1,h2,h3⟩:=h;subst h1;subst h2;subst h3;rfl
noncomputable def KSV:KD Tryz.prog 9 ByteArray:=KStr Tryz.underlying9
theorem zeroV (w:World):(zeroValue 39).run Tryz.prog w = .ok (valV ⟨none,0,0⟩) w:=by kernel_rfl
def FoundAt (w:World) (mb:Nat) (F:ByteArray→Option Byt) (cnt:Nat):Prop :=
 ∃ f,TMap KSV valV w mb f cnt∧∀ d,(f d=none∧F d=none)∨∃ v bs,f d=some v∧F d=some bs∧(RSl RU8).ok w ⟨v.A,v.n,v.c,bs⟩
theorem FoundAt.below {w w':World} {mb:Nat} {F:ByteArray→Option Byt} {cnt:Nat} (h:FoundAt w mb F cnt) (hb:Below w.heap.size w w'):FoundAt w' mb F cnt:=by
 obtain⟨f,hf,h2⟩:=h;refine⟨f,hf.below hb hf.lt,fun d=>?_⟩
 rcases h2 d with h | ⟨v,bs,a,b,c⟩
 ·exact .inl h
 ·exact .inr ⟨v,bs,a,b,(RSl RU8).mono _ _ _ hb c⟩
theorem tmap_cell {k:TypeId} {κ α:Type} {K:KD Tryz.prog k κ} {val:α→Value} {w w':World} {b c:Nat} {f:κ→Option α} (h:TMap K val w b f c) (hg:w.grownBy w' (some b)) {a:Addr} {v:Value} (hc:w.cell? a=some v):w'.cell? a=some v:=by
 refine cell_kept hc hg fun r hr=>?_;obtain rfl:b=r:=by injection hr
 obtain⟨D,⟨es,clock,he,_⟩,_⟩:=h;exact⟨_,he,rfl⟩
theorem u8_kept {k:TypeId} {κ α:Type} {K:KD Tryz.prog k κ} {val:α→Value} {w w':World} {b c:Nat} {f:κ→Option α} (h:TMap K val w b f c) (hg:w.grownBy w' (some b)) {d:SlD UInt8} (hs:(RSl RU8).ok w d):(RSl RU8).ok w' d:=by
 obtain⟨⟨h1,h2,h3⟩,h4⟩:=hs;refine⟨⟨h1,fun hn=>?_,fun _ _=>trivial⟩,h4⟩;obtain⟨b0,off,hA,hc⟩:=h2 hn;exact⟨b0,off,hA,fun i x hx j v hv=>tmap_cell h hg (hc i x hx j v hv)⟩
def putF (F:ByteArray→Option Byt) (b:Byt):ByteArray→Option Byt:=if (F (digF b)).isSome=true then F else fun d=>if d=digF b then some b else F d
def PuAns (wb mb:Nat) (F:ByteArray→Option Byt) (cnt:Nat) (b:Byt) (w:World) (e:Ending) (w':World):Prop :=
 e = .returned (.string (digF b))∧(∃ cnt',cnt'≤cnt+1∧FoundAt w' mb (putF F b) cnt')∧Kp (fun k=>k=mb) w w'∧(∀ (a:Addr) v,w.cell? a=some v→w'.cell? a=some v)
theorem put_any (wb mb:Nat) (F:ByteArray→Option Byt) (cnt:Nat) (hcnt:cnt≤1000000) (A:Option Addr) (m c:Nat) (l:Byt) (w:World) (hw:w.cell? ⟨wb,0,none⟩=some (.map (some mb))) (hF:FoundAt w mb F cnt) (hl:(RSl RU8).ok w ⟨A,m,c,l⟩) (hm:m≤100000000) :
  Calls Tryz.prog 41 #[.pointer (some ⟨wb,0,none⟩),.slice A m c] w (PuAns wb mb F cnt l w):=by
 obtain⟨Z,hZ⟩:∃ Z,PuAns wb mb F cnt l w=Z:=⟨_,rfl⟩;have hZ':∀ e W,PuAns wb mb F cnt l w e W→Z e W:=fun e W h=>by rw[← hZ];exact h
 rw[hZ];clear hZ;obtain⟨hZ'H,hFH,hlH⟩:=hq2 hZ' (hq2 hF (Lib.hid hl));clear hZ' hF hl;go_enter Tryz.func41,Tryz.ntmps41;go_wp2_with fail;refine(digest_any A m c l w hlH.out.1 (by omega)).mono ?_;rintro e w1 ⟨rfl,hb1⟩;have hw1:=keepC hb1 hw;have hF1:=hFH.out.below hb1;obtain⟨f,hf,hf2⟩:=hF1;have hdz:(digF l).size≤maxLen:=by rw[digF_size];decide
 obtain⟨d,hd⟩:∃ d,digF l=d:=⟨_,rfl⟩;rw[hd]at hdz ⊢;have hlk:=(hf.look (t:=48) Tryz.underlying48 (z0:=⟨none,0,0⟩) (zeroV w1) injV (x:=d) hdz).2;clear hw
 cases hfd:f d with
 | some v =>
  rw[hfd]at hlk;have hFd:(F (digF l)).isSome=true:=by
   rw[hd]
   rcases hf2 d with ⟨h,_⟩ | ⟨v',bs,h1,h2,h3⟩
   ·rw[hfd]at h;cases h
   ·rw[h2];rfl
  have hlk:(Instr.lookup 48 (.map (some mb)) (.string d) true).run Tryz.prog w1 = .ok (.tuple #[.slice v.A v.n v.c,.bool true]) w1:=hlk;have R:=hZ'H.out (.returned (.string d)) w1 ⟨by rw[hd],⟨cnt,by omega,by unfold putF;rw[if_pos hFd];exact⟨f,hf,hf2⟩⟩,Kp.of_below hb1,fun a v h=>keepC hb1 h⟩;clear hfd hFd;obtain⟨hb1H,hfH,hf2H,hdH,RH⟩:=hqb hb1 hf hf2 hd (Lib.hid R);clear hb1 hf hf2 hd R;go_wp2_with fail;exact RH.out
 | none =>
  rw[hfd]at hlk;have hFd:¬ (F (digF l)).isSome=true:=by
   rw[hd]
   rcases hf2 d with ⟨_,h⟩ | ⟨v',bs,h1,h2,h3⟩
   ·rw[h];simp
   ·rw[hfd]at h1;cases h1
  have hlk:(Instr.lookup 48 (.map (some mb)) (.string d) true).run Tryz.prog w1 = .ok (.tuple #[.slice none 0 0,.bool false]) w1:=hlk;obtain⟨hb1H,hfH,hf2H,hdH,hFdH,hfdH⟩:=hq2 hb1 (hqb hf hf2 hd hFd (Lib.hid hfd));clear hb1 hf hf2 hd hFd hfd;go_wp2_with fail;refine startR (R:=Rk (fun _=>True) (fun V=>V.cell? ⟨wb,0,none⟩=some (.map (some mb))) 7 7) (by kernel_rfl) ?_;have hC:w1.drew.cell? ⟨wb,0,none⟩=some (.map (some mb)):=hw1;refine takeC (i:=0) (d:=some 21) (v:=?_) rfl rfl (by kernel_rfl) (by kernel_rfl) (by kernel_rfl) (by kernel_rfl) (fun _ _ _ h=>h) (Or.inl ⟨by rfl,?_⟩) hC ?_
  rotate_left
  ·(intro w hSw;(try dsimp only at hSw);go_simp;(try with_reducible rfl))
  (try simp only[Act.put,List.setIfInBounds_toArray,List.set_cons_zero,List.set_cons_succ])
  refine takeC (i:=1) (d:=some 22) (v:=?_) rfl rfl (by kernel_rfl) (by kernel_rfl) (by kernel_rfl) (by kernel_rfl) (fun _ _ _ h=>h) (Or.inl ⟨by rfl,?_⟩) hC ?_
  rotate_left
  ·(intro w hSw;(try dsimp only at hSw);go_simp;(try with_reducible rfl))
  (try simp only[Act.put,List.setIfInBounds_toArray,List.set_cons_zero,List.set_cons_succ])
  refine takeC (i:=2) (d:=some 23) (v:=?_) rfl rfl (by kernel_rfl) (by kernel_rfl) (by kernel_rfl) (by kernel_rfl) (fun _ _ _ h=>h) (Or.inl ⟨by rfl,?_⟩) hC ?_
  rotate_left
  ·(intro w hSw;(try dsimp only at hSw);go_simp;(try with_reducible rfl))
  (try simp only[Act.put,List.setIfInBounds_toArray,List.set_cons_zero,List.set_cons_succ])
  refine takeC (i:=3) (d:=some 24) (v:=?_) rfl rfl (by kernel_rfl) (by kernel_rfl) (by kernel_rfl) (by kernel_rfl) (fun _ _ _ h=>h) (Or.inl ⟨by rfl,?_⟩) hC ?_
  rotate_left
  ·(intro w hSw;(try dsimp only at hSw);go_simp;(try with_reducible rfl))
  (try simp only[Act.put,List.setIfInBounds_toArray,List.set_cons_zero,List.set_cons_succ])
  refine takeC (i:=4) (d:=some 25) (v:=?_) rfl rfl (by kernel_rfl) (by kernel_rfl) (by kernel_rfl) (by kernel_rfl) (fun _ _ _ h=>h) (Or.inl ⟨by rfl,?_⟩) hC ?_
  rotate_left
  ·(intro w hSw;(try dsimp only at hSw);go_simp;(try with_reducible rfl))
  (try simp only[Act.put,List.setIfInBounds_toArray,List.set_cons_zero,List.set_cons_succ])
  refine takeC (i:=5) (d:=some 26) (v:=?_) rfl rfl (by kernel_rfl) (by kernel_rfl) (by kernel_rfl) (by kernel_rfl) (fun _ _ _ h=>h) (Or.inl ⟨by rfl,?_⟩) hC ?_
  rotate_left
  ·(intro w hSw;(try dsimp only at hSw);go_simp;(try with_reducible rfl))
  (try simp only[Act.put,List.setIfInBounds_toArray,List.set_cons_zero,List.set_cons_succ])
  refine oneR (i:=6) (by kernel_rfl) rfl (fun K hK=>?_);go_simp;go_at_call 63;have hbd:Below w.heap.size w w1.drew:=hb1H.out.trans ((Below.refl w1.heap.size w1).drew.mono hb1H.out.size);refine(clone_bytes A m c l w1.drew ((RSl RU8).mono _ _ _ hbd hlH.out) (by omega)).mono ?_;rintro e w7 ⟨A',c',rfl,hown,hb7⟩;have hb17:Below w1.heap.size w1 w7:=(Below.refl w1.heap.size w1).drew.trans hb7;have hC7:w7.cell? ⟨wb,0,none⟩=some (.map (some mb)):=keepC hb17 hw1;have hm7:=hfH.out.below hb17 hfH.out.lt;obtain⟨w8,hrun,hm8,ht8⟩:=hm7.store (t:=48) Tryz.underlying48 injV (by simp only[maxLen];omega) (x:=d) hdz (⟨A',m,c'⟩:SV);have hrun:(Instr.mapUpdate 48 (.map (some mb)) (.string d) (.slice A' m c')).run Tryz.prog w7 = .ok () w8:=hrun;have R:=hZ'H.out (.returned (.string d)) w8 (by
   have hg8:=ht8.grown;refine⟨by rw[hdH.out],⟨_,?_,_,hm8,fun q=>?_⟩,(Kp.of_below (hb1H.out.trans (hb17.mono hb1H.out.size))).trans (Kp.of_grown hg8 fun k hk=>by injection hk with hk;exact hk.symm),fun a v h=>tmap_cell hm7 hg8 (keepC hb17 (keepC hb1H.out h))⟩
   ·split <;> omega
   ·unfold putF;rw[if_neg hFdH.out,hdH.out];unfold upd
    by_cases e:q=d
    ·rw[if_pos e,if_pos e];have hok:(RSl RU8).ok w7 ⟨A',m,c',l⟩:=by
      refine⟨hown.slAt,hown.cap_le,?_,?_⟩
      ·rcases hown.1.2 with ⟨h1,_⟩ | ⟨g,cap',cur,hvv,_,_,_,h2,_⟩
       ·injection h1 with _ _ h3;show c'≤maxLen;omega
       ·injection hvv with _ _ h3;show c'≤maxLen;omega
      ·intro hA;have hA:A'=none:=hA
       rcases hown.1.2 with ⟨h1,_⟩ | ⟨g,cap',cur,hvv,_⟩
       ·injection h1 with _ _ h3
       ·injection hvv with h1 _ _;rw[hA]at h1;cases h1
     exact .inr ⟨⟨A',m,c'⟩,l,rfl,rfl,u8_kept hm7 hg8 hok⟩
    ·rw[if_neg e,if_neg e]
     rcases hf2H.out q with h | ⟨v,bs,h1,h2,h3⟩
     ·exact .inl h
     ·exact .inr ⟨v,bs,h1,h2,u8_kept hm7 hg8 ((RSl RU8).mono _ _ _ hb17 h3)⟩)
  clear hm8 ht8 hm7 hown hb7 hb17 hbd hlk;have RH:=Lib.hid R;clear R;refine hK.out _ _ ⟨fun _ _ _=>trivial,fun _ _=>hC7⟩ ?_;clear hK K
  (try simp only[Act.put,List.setIfInBounds_toArray,List.set_cons_zero,List.set_cons_succ])
  clear hC;have hC:=hC7;refine oneR (i:=7) (by kernel_rfl) rfl (fun K hK=>?_);go_simp;refine hK.out _ _ ⟨fun h=>absurd rfl h,fun h=>absurd rfl h⟩ ?_;clear hK K
  (try simp only[Act.put,List.setIfInBounds_toArray,List.set_cons_zero,List.set_cons_succ])
  refine doneR (by kernel_rfl) ?_ _;clear hC hC7 hrun;go_wp2_with fail;exact RH.out
end Go.Proofs.YtpdjjjiknijpkaaGreatDoor.C10
namespace Go.Proofs.YtpdjjjiknijpkaaGreatDoor.C10
open Go.ChangeShapes Go.WideShapes Go.Deep Go.RowKit Go.Lib
structure NodeM (w:World) (x:NV) (y:TN):Prop where
 name:x.name.data.toList=y.name
 file:∀ f,y.file=some f→∃ (q o:Nat) (z:File),x.ptr=some ⟨q,o,none⟩∧w.cell? ⟨q,o,none⟩=some (.string z.path)∧w.cell? ⟨q,o+1,none⟩=some (.bool z.run)∧w.cell? ⟨q,o+2,none⟩=some (.slice z.bytes.A z.bytes.n z.bytes.cap)∧RFile.ok w z∧tfOf z=f
 dir:y.file=none→x.ptr=none∧∃ fl:List File,(RSl RFile).ok w ⟨x.A,x.n,x.cap,fl⟩∧fl.map tfOf=y.sub
theorem NodeM.below {w w':World} {x:NV} {y:TN} (h:NodeM w x y) (hb:Below w.heap.size w w'):NodeM w' x y:=by
 refine⟨h.name,fun f hf=>?_,fun hd=>?_⟩
 ·obtain⟨q,o,z,h1,h2,h3,h4,h5,h6⟩:=h.file f hf;exact⟨q,o,z,h1,keepC hb h2,keepC hb h3,keepC hb h4,RFile.mono _ _ _ hb h5,h6⟩
 ·obtain⟨h1,fl,h2,h3⟩:=h.dir hd;exact⟨h1,fl,(RSl RFile).mono _ _ _ hb h2,h3⟩
theorem own_okR {α:Type} {R:Rd α} {e:TypeId} {w:World} {base:Nat} {A:Option Addr} {n c:Nat} {l:List α} (h:Own R e w base (.slice A n c) l):(RSl R).ok w ⟨A,n,c,l⟩:=by
 refine⟨h.slAt,h.cap_le,?_,?_⟩
 ·rcases h.1.2 with ⟨h1,_⟩ | ⟨g,cap',cur,hvv,_,_,_,h2,_⟩
  ·injection h1 with _ _ h3;show c≤maxLen;omega
  ·injection hvv with _ _ h3;show c≤maxLen;omega
 ·intro hA;have hA:A=none:=hA
  rcases h.1.2 with ⟨h1,_⟩ | ⟨g,cap',cur,hvv,_⟩
  ·injection h1 with _ _ h3
  ·injection hvv with h1 _ _;rw[hA]at h1;cases h1
theorem nodeM_of {W0:World} {b off m:Nat} {l:List File} {w:World} {x:NV} {y:TN} (h:NodeC W0 b off l w x y) (hl:SlAt RFile w (some ⟨b,off,none⟩) m l):NodeM w x y:=by
 refine⟨h.name,fun f hf=>?_,fun hd=>⟨h.dir hd,?_⟩⟩
 ·obtain⟨i,z,h1,h2,h3⟩:=h.file f hf;obtain⟨d0,d1,d2⟩:=cells_File hl h1;exact⟨b,off+i*3,z,h3,d0,d1,d2,hl.2.2 z (List.mem_of_getElem? h1),h2⟩
 ·obtain⟨fl,h1,h2,_⟩:=h.sub;exact⟨fl,own_okR h1,h2⟩
structure DirIn (C:List ByteArray) (w:World) (A:Option Addr) (n:Nat) (D:List NV) (Y:List TN):Prop where
 sl:SlAt (RNV C) w A n D
 len:D.length=Y.length
 each:∀ (j:Nat) x y,D[j]? = some x→Y[j]? = some y→NodeM w x y
structure YOk (P:PartT) (N:Nat) (Y:List TN):Prop where
 name:∀ y∈Y,y.name.length≤200
 wf:∀ y∈Y,y.file=none→WF P y.sub
 ne:∀ y∈Y,y.file=none→y.sub≠[]
 path:∀ y∈Y,y.file=none→∀ f∈y.sub,f.path.length≤N
 cnt:∀ y∈Y,y.sub.length≤1000
 bs:∀ y∈Y,∀ f,y.file=some f→f.bs.length≤100000
 bsub:∀ y∈Y,y.file=none→∀ f∈y.sub,f.bs.length≤100000
theorem yok_of {P:PartT} {N:Nat} {l:List TFi} (h:WF P l) (hN:∀ f∈l,f.path.length≤N+1) (hN2:N+1≤200) (hc:l.length≤1000) (hbs:∀ f∈l,f.bs.length≤100000):YOk P N (nodesS l):=by
 refine⟨fun y hy=>?_,fun y hy hf=>?_,fun y hy hf=>?_,fun y hy hf f hfm=>?_,fun y hy=>?_,fun y hy f hf=>hbs f (mem_file (nodesS_mem.1 hy) hf).1,fun y hy hf f hfm=>?_⟩
 ·exact Nat.le_trans (name_len (nodesS_mem.1 hy) hN) hN2
 ·exact h.sub (nodesS_mem.1 hy) hf
 ·exact(grp_ok l y (nodesS_mem.1 hy)).dir hf
 ·have:=sub_path (nodesS_mem.1 hy) hf hN f hfm;omega
 ·exact Nat.le_trans (sub_count (nodesS_mem.1 hy)) hc
 ·have hs:=node_sub (nodesS_mem.1 hy);have e:filesN y=y.sub.map (backF y.name):=by unfold filesN;rw[hf]
  rw[e]at hs;exact hbs (backF y.name f) (hs.subset (List.mem_map.2 ⟨f,hfm,rfl⟩))
theorem nodes_in (P:PartT) (N:Nat) (A:Option Addr) (m cap:Nat) (l:List File) (w:World) (hmx:MaxLenAt w) (hl:(RSl RFile).ok w ⟨A,m,cap,l⟩) (hm:m≤1000) (hz:∀ y∈l,y.path.size≤200) (hwf:WF P (l.map tfOf)) :
  Calls Tryz.prog 40 #[.slice A m cap] w fun e w'=>∃ C A' n' c' D,e = .returned (.slice A' n' c')∧n'≤1000∧DirIn C w' A' n' D (nodesS (l.map tfOf))∧Below w.heap.size w w':=by
 rcases Nat.eq_zero_or_pos m with h0 | h0
 ·subst h0;obtain rfl:l = []:=List.eq_nil_of_length_eq_zero hl.1.1;refine(nodes_nil A cap w).mono ?_;rintro e w' ⟨rfl,hb⟩;have hY:nodesS ([]:List TFi) = []:=List.eq_nil_of_length_eq_zero (by rw[(nodesS_perm []).length_eq];rfl);exact⟨[],none,0,0,[],rfl,Nat.zero_le _,⟨⟨rfl,fun h=>absurd h (by decide),fun x hx=>by cases hx⟩,by rw[List.map_nil,hY];rfl,fun j x y hx=>by simp at hx⟩,hb⟩
 ·obtain⟨b,off,hA,_⟩:=hl.1.2.1 h0;have hA:A=some ⟨b,off,none⟩:=hA;subst hA;refine(nodes_any P b off m cap l w hmx hl.1 hm h0 hz hwf).mono ?_;rintro e w' ⟨A',n',c',D,rfl,hn',hsl,hlen,heach,hb⟩;exact⟨_,A',n',c',D,rfl,hn',⟨hsl,hlen,fun j x y hx hy=>nodeM_of (heach j x y hx hy) (hl.1.below hb)⟩,hb⟩
end Go.Proofs.YtpdjjjiknijpkaaGreatDoor.C10