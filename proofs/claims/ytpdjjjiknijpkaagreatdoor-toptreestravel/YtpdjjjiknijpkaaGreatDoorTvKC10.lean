/-
 Several texts of mine as one, without what is not wanted here: XMsE, XFoD, XQuS, XApW, XTwoR.
-/
import Derived.Test.YtpdjjjiknijpkaaGreatDoorTvJC10
import Derived.ArgAppend
set_option linter.unusedVariables false
set_option linter.unusedSimpArgs false
set_option maxRecDepth 100000
set_option maxHeartbeats 8000000
namespace Go.Proofs.YtpdjjjiknijpkaaGreatDoor.C10
open Go.ChangeShapes Go.WideShapes Go.Deep Go.RowKit Go.Sort Go.Maps
def Good (L:List TFi) (O:List ObT):Prop:=∀ x∈O,x.bytes.l∈Cs 200 L∧x.dig=digF x.bytes.l
theorem Good.text {L:List TFi} {O:List ObT} (h:Good L O) (hf:Faith (Cs 200 L)) {x:ObT} (hx:x∈O) {b:Byt} (hb:b∈Cs 200 L) (hd:x.dig=digF b):x.bytes.l=b:=hf _ (h x hx).1 _ hb ((h x hx).2.symm.trans hd)
theorem ents_nil {n:Nat} {l:List TFi} (h:ents n l = []):l = []:=by
 unfold ents at h;have h1:nodesS l = []:=List.map_eq_nil_iff.1 h;have h2:grp l = []:=by
  cases hg:grp l with
  | nil=>rfl
  | cons y t =>
   have:=(nodesS_mem (l:=l) (x:=y)).2 (by rw[hg];exact List.mem_cons_self);rw[h1]at this;cases this
 cases l with
 | nil=>rfl
 | cons f l=>exact absurd h2 (grp_ne (by simp))
theorem ents_dig {L:List TFi} (hL:TreeOk L) {n:Nat} {l:List TFi} (h:IsDir L n l) {e:Ent} (he:e∈ents n l):(e.dir=true→∃ m k,IsDir L m k∧e.digest=digF (TD (m+1) k))∧∃ b∈Cs 200 L,e.digest=digF b:=by
 obtain⟨y,hy,rfl⟩:=List.mem_map.1 he
 cases hf:y.file with
 | some f =>
  have e1:(entN (TD n) y).dir=false∧(entN (TD n) y).digest=digF f.bs:=by unfold entN;rw[hf];exact⟨rfl,rfl⟩
  exact⟨(by rw[e1.1];intro h;cases h),f.bs,(h.ok hL).cs _ (Cs_file hy hf),e1.2⟩
 | none =>
  obtain⟨m,rfl,hm⟩:=h.node hL hy hf;have e1:(entN (TD (m+1)) y).digest=digF (TD (m+1) y.sub):=by unfold entN;rw[hf]
  exact⟨fun _=>⟨m,_,hm,e1⟩,_,(hm.ok hL).cs _ (Cs_self m _),e1⟩
def Tr (f:ByteArray→Option Bool) (d:ByteArray):Prop:=(f d).getD false=true
theorem Tr.upd {f:ByteArray→Option Bool} {d x:ByteArray}:Tr (upd f d true) x↔x=d∨Tr f x:=by
 unfold Tr Go.Proofs.YtpdjjjiknijpkaaGreatDoor.upd
 by_cases e:x=d
 ·simp[e]
 ·simp[e]
theorem MsInv.start {L:List TFi} {O:List ObT}:MsInv L O [digF (TD 200 L)] (Tr (upd (fun _=>none) (digF (TD 200 L)) true)) (Tr fun _=>none):=by
 have h0:∀ d,Tr (upd (fun _=>none) (digF (TD 200 L)) true) d→d=digF (TD 200 L):=fun d h=>by
  rcases Tr.upd.1 h with h | h
  ·exact h
  ·cases h
 refine⟨Tr.upd.2 (.inl rfl),fun d hd=>⟨199,L,.root,h0 d hd⟩,fun d hd=>?_,fun d hd hn=>?_,fun d hd=>by cases hd⟩
 ·rw[List.mem_singleton]at hd;exact Tr.upd.2 (.inl hd)
 ·exact absurd (List.mem_singleton.2 (h0 d hd)) hn
theorem MsInv.lost {L:List TFi} (hL:TreeOk L) {O:List ObT} {d:ByteArray} {td:List ByteArray} {s g:ByteArray→Option Bool} (h:MsInv L O (d::td) (Tr s) (Tr g)) (hn:¬ InS O d):MsInv L O td (Tr s) (Tr (upd g d true)):=by
 have hm:∀ x,Tr g x→Tr (upd g d true) x:=fun x hx=>Tr.upd.2 (.inr hx);refine⟨h.root,h.dir,fun x hx=>h.todo x (List.mem_cons_of_mem _ hx),fun x hx hnt=>?_,fun x hx=>?_⟩
 ·by_cases e:x=d
  ·exact .inl (Tr.upd.2 (.inl e))
  ·exact(h.done x hx (by simp[e,hnt])).mono (fun _ h=>h) hm
 ·rcases Tr.upd.1 hx with rfl | h1
  ·obtain⟨n,l,hd,e⟩:=h.dir x (h.todo x List.mem_cons_self);exact⟨hn,_,(hd.ok hL).cs _ (Cs_self n l),e⟩
  ·exact h.gone x h1
structure MsIn (L:List TFi) (O:List ObT) (d:ByteArray) (E:List Ent) (k:Nat) (td:List ByteArray) (s g:ByteArray→Option Bool):Prop where
 inv:MsInv L O (d::td) (Tr s) (Tr g)
 seenE:∀ (j:Nat) e,j<k→E[j]? = some e→Seen1 O (Tr s) (Tr g) e
theorem MsIn.start {L:List TFi} {O:List ObT} {d:ByteArray} {E:List Ent} {td:List ByteArray} {s g:ByteArray→Option Bool} (h:MsInv L O (d::td) (Tr s) (Tr g)):MsIn L O d E 0 td s g:=⟨h,fun j e hj _=>by omega⟩
theorem MsIn.ents_succ {O:List ObT} {E:List Ent} {k:Nat} {s g s' g':ByteArray→Option Bool} (h:∀ (j:Nat) e,j<k→E[j]? = some e→Seen1 O (Tr s) (Tr g) e) (hs:∀ d,Tr s d→Tr s' d) (hg:∀ d,Tr g d→Tr g' d) {x:Ent} (hx:E[k]? = some x) (hn:Seen1 O (Tr s') (Tr g') x) :
  ∀ (j:Nat) e,j<k+1→E[j]? = some e→Seen1 O (Tr s') (Tr g') e:=fun j e hj he=>by
 rcases Nat.lt_or_ge j k with h1 | h1
 ·exact(h j e h1 he).mono hs hg
 ·obtain rfl:j=k:=by omega
  rw[hx]at he;injection he with he;subst he;exact hn
theorem MsIn.file {L:List TFi} {O:List ObT} {d:ByteArray} {E:List Ent} {k:Nat} {td:List ByteArray} {s g:ByteArray→Option Bool} (h:MsIn L O d E k td s g) {x:Ent} (hx:E[k]? = some x) (hd:x.dir=false) (ho:InS O x.digest):MsIn L O d E (k+1) td s g :=
 ⟨h.inv,MsIn.ents_succ h.seenE (fun _ h=>h) (fun _ h=>h) hx (by unfold Seen1;rw[if_neg (by rw[hd];decide)];exact .inr ho)⟩
theorem MsIn.lost {L:List TFi} {O:List ObT} {d:ByteArray} {E:List Ent} {k:Nat} {td:List ByteArray} {s g:ByteArray→Option Bool} (h:MsIn L O d E k td s g) {x:Ent} (hx:E[k]? = some x) (hd:x.dir=false) (ho:¬ InS O x.digest) (hb:∃ b∈Cs 200 L,x.digest=digF b):MsIn L O d E (k+1) td s (upd g x.digest true):=by
 have hm:∀ y,Tr g y→Tr (upd g x.digest true) y:=fun y hy=>Tr.upd.2 (.inr hy);refine⟨⟨h.inv.root,h.inv.dir,h.inv.todo,fun y hy hn=>(h.inv.done y hy hn).mono (fun _ h=>h) hm,fun y hy=>?_⟩,MsIn.ents_succ h.seenE (fun _ h=>h) hm hx (by unfold Seen1;rw[if_neg (by rw[hd];decide)];exact .inl (Tr.upd.2 (.inl rfl)))⟩
 rcases Tr.upd.1 hy with rfl | h1
 ·exact⟨ho,hb⟩
 ·exact h.inv.gone y h1
theorem MsIn.old {L:List TFi} {O:List ObT} {d:ByteArray} {E:List Ent} {k:Nat} {td:List ByteArray} {s g:ByteArray→Option Bool} (h:MsIn L O d E k td s g) {x:Ent} (hx:E[k]? = some x) (hd:x.dir=true) (ho:Tr s x.digest):MsIn L O d E (k+1) td s g :=
 ⟨h.inv,MsIn.ents_succ h.seenE (fun _ h=>h) (fun _ h=>h) hx (by unfold Seen1;rw[if_pos hd];exact ho)⟩
theorem MsIn.fresh {L:List TFi} {O:List ObT} {d:ByteArray} {E:List Ent} {k:Nat} {td:List ByteArray} {s g:ByteArray→Option Bool} (h:MsIn L O d E k td s g) {x:Ent} (hx:E[k]? = some x) (hd:x.dir=true) (hb:∃ m l,IsDir L m l∧x.digest=digF (TD (m+1) l)):MsIn L O d E (k+1) (td ++ [x.digest]) (upd s x.digest true) g:=by
 have hm:∀ y,Tr s y→Tr (upd s x.digest true) y:=fun y hy=>Tr.upd.2 (.inr hy);refine⟨⟨hm _ h.inv.root,fun y hy=>?_,fun y hy=>?_,fun y hy hn=>?_,h.inv.gone⟩,MsIn.ents_succ h.seenE hm (fun _ h=>h) hx (by unfold Seen1;rw[if_pos hd];exact Tr.upd.2 (.inl rfl))⟩
 ·rcases Tr.upd.1 hy with rfl | h1
  ·exact hb
  ·exact h.inv.dir y h1
 ·rw[← List.cons_append]at hy
  rcases List.mem_append.1 hy with h1 | h1
  ·exact hm _ (h.inv.todo y h1)
  ·exact Tr.upd.2 (.inl (List.mem_singleton.1 h1))
 ·rcases Tr.upd.1 hy with rfl | h1
  ·exact absurd (by simp) hn
  ·exact(h.inv.done y h1 (fun hm=>hn (by rw[← List.cons_append];exact List.mem_append_left _ hm))).mono hm (fun _ h=>h)
theorem MsIn.done {L:List TFi} (hL:TreeOk L) (hf:Faith (Cs 200 L)) {O:List ObT} {d:ByteArray} {E:List Ent} {td:List ByteArray} {s g:ByteArray→Option Bool} (h:MsIn L O d E E.length td s g) (hin:InS O d) {n:Nat} {l:List TFi} (hl:IsDir L n l) (he:E=ents n l) (hd:d=digF (TD (n+1) l)):MsInv L O td (Tr s) (Tr g):=by
 refine⟨h.inv.root,h.inv.dir,fun y hy=>h.inv.todo y (List.mem_cons_of_mem _ hy),fun y hy hn=>?_,h.inv.gone⟩
 by_cases e:y=d
 ·subst e;refine .inr ⟨hin,fun n' l' hl' hd' x hx=>?_⟩;have:=ents_same hL hf hl hl' (hd ▸ hd');rw[← this,← he]at hx;obtain⟨j,hj,hx⟩:=List.getElem_of_mem hx;exact h.seenE j x hj (by rw[List.getElem?_eq_getElem hj,hx])
 ·exact h.inv.done y hy (by simp[e,hn])
def mapN (w:World) (b:Nat):Nat:=match w.heap[b]? with
 | some (.map es _)=>es.size
 | _=>0
theorem mapN_of {α:Type} {val:α→Value} {w:World} {b c:Nat} {f:ByteArray→Option α} (h:TMap KB val w b f c):mapN w b=c:=by
 obtain⟨D,⟨es,clock,he,F,hsz,hD⟩,hs,hv⟩:=h;unfold mapN;rw[he];have e1:Maps.size D=es.size:=by rw[hD];simp[Maps.size,length_sorted]
 simp only;omega
theorem nodup_lenM:∀ {l m:List (List UInt8)},l.Nodup→(∀ s∈l,s∈m)→l.length≤m.length
 | [],_,_,_=>Nat.zero_le _
 | x::r,m,hd,hs=>by
  obtain⟨a,b,rfl⟩:=List.append_of_mem (hs x List.mem_cons_self);have h2:=List.nodup_cons.1 hd;have:=nodup_lenM (m:=a++b) h2.2 fun s h=>by
   have:=hs s (List.mem_cons_of_mem _ h)
   rcases List.mem_append.1 this with h3 | h3
   ·exact List.mem_append.2 (.inl h3)
   ·rcases List.mem_cons.1 h3 with rfl | h3
    ·exact absurd h h2.1
    ·exact List.mem_append.2 (.inr h3)
  simp only[List.length_cons,List.length_append]at this ⊢;omega
theorem tmapB_count {α:Type} {val:α→Value} {w:World} {b c:Nat} {f:ByteArray→Option α} (h:TMap KB val w b f c) (L:List ByteArray) (hL:∀ p,p.size≤maxLen→(f p).isSome=true→p∈L):c≤L.length:=by
 obtain⟨D,hown,hs,hv⟩:=h;obtain⟨hnd,hmem⟩:=strKeys_spec hown KB.keyed Tryz.underlying9;have hle:=strKeys_le hown Tryz.underlying9;have h2:(strKeys D).length=Maps.size D:=by
  obtain⟨es,hD,_⟩:=hown.entries KB.keyed;subst hD;simp[strKeys,Maps.size]
 have hsub:∀ x∈strKeys D,x∈L.map (·.data.toList):=fun x hx=>by
  have hz:=hle x hx;have hb:(bsOf x).size≤maxLen:=by have e:(bsOf x).size=x.length:=List.size_toArray;rw[e];exact hz
  have h1:=(hv (bsOf x) hb).1;have h3:=(hmem x).1 hx;refine List.mem_map.2 ⟨bsOf x,hL _ hb ?_,data_bsOf x⟩;rw[← h1];have e:KB.lit (bsOf x) = .string x:=by show Lit.string (bsOf x).data.toList=_;rw[data_bsOf]
  rw[e];exact h3
 have:=nodup_lenM hnd hsub;rw[List.length_map]at this;omega
theorem small_map {w:World} {b c:Nat} {f:ByteArray→Option Bool} (h:TMap KB valB w b f c) (hf:∀ d,(f d).isSome=true→Tr f d) {C:List Byt} (hC:∀ d,Tr f d→∃ x∈C,d=digF x):c≤C.length:=by
 have:=tmapB_count h (C.map digF) fun p _ hp=>by
  obtain⟨x,hx,e⟩:=hC p (hf p hp);exact List.mem_map.2 ⟨x,hx,e.symm⟩
 rwa [List.length_map]at this
theorem tr_upd {f:ByteArray→Option Bool} (h:∀ d,(f d).isSome=true→Tr f d) (d:ByteArray):∀ x,(upd f d true x).isSome=true→Tr (upd f d true) x:=fun x hx=>by
 by_cases e:x=d
 ·exact Tr.upd.2 (.inl e)
 ·exact Tr.upd.2 (.inr (h x (by unfold Go.Proofs.YtpdjjjiknijpkaaGreatDoor.upd at hx;rwa [if_neg e]at hx)))
end Go.Proofs.YtpdjjjiknijpkaaGreatDoor.C10
namespace Go.Proofs.YtpdjjjiknijpkaaGreatDoor.C10
open Go.RowKit
def pathF (p:Byt) (f:TFi):TFi:=⟨p++f.path,f.run,f.bs⟩
def outN (rec:Byt→List TFi→List TFi) (p:Byt) (y:TN):List TFi:=match y.file with
 | some f=>[⟨p++y.name,f.run,f.bs⟩]
 | none=>rec (p++y.name ++ [47]) y.sub
def outF:Nat→Byt→List TFi→List TFi
 | 0,_,_=>[]
 | n+1,p,l=>(nodesS l).flatMap (outN (outF n) p)
theorem flatMap_perm {α β:Type} {f g:α→List β}:∀ (l:List α),(∀ a∈l,(f a).Perm (g a))→(l.flatMap f).Perm (l.flatMap g)
 | [],_=>.nil
 | a::l,h=>by
  rw[List.flatMap_cons,List.flatMap_cons];exact(h a List.mem_cons_self).append (flatMap_perm l fun b hb=>h b (List.mem_cons_of_mem _ hb))
theorem flatMap_perm2 {α β:Type} {f:α→List β} {l m:List α} (h:l.Perm m):(l.flatMap f).Perm (m.flatMap f):=by
 induction h with
 | nil=>exact .nil
 | cons x h ih=>rw[List.flatMap_cons,List.flatMap_cons];exact(List.Perm.refl _).append ih
 | swap x y l =>
  rw[List.flatMap_cons,List.flatMap_cons,List.flatMap_cons,List.flatMap_cons,← List.append_assoc,← List.append_assoc];exact List.perm_append_comm.append (List.Perm.refl _)
 | trans _ _ h1 h2=>exact h1.trans h2
theorem outF_perm {P:PartT}:∀ (n:Nat) (p:Byt) (l:List TFi),WF P l→(∀ f∈l,f.path.length≤n)→(outF n p l).Perm (l.map (pathF p))
 | 0,p,l,hw,hn=>by
  cases l with
  | nil=>exact .nil
  | cons f l =>
   have h1:=hn f List.mem_cons_self;have h2:=path_pos hw f List.mem_cons_self;omega
 | n+1,p,l,hw,hn=>by
  unfold outF;have h1:((nodesS l).flatMap (outN (outF n) p)).Perm ((grp l).flatMap fun y=>(filesN y).map (pathF p)):=by
   refine(flatMap_perm2 (nodesS_perm l)).trans (flatMap_perm _ fun y hy=>?_)
   cases hf:y.file with
   | some f =>
    have e1:outN (outF n) p y = [⟨p++y.name,f.run,f.bs⟩]:=by unfold outN;rw[hf]
    have e2:filesN y = [f]:=by unfold filesN;rw[hf]
    rw[e1,e2,← (mem_file hy hf).2];exact .refl _
   | none =>
    have e1:outN (outF n) p y=outF n (p++y.name ++ [47]) y.sub:=by unfold outN;rw[hf]
    have e2:filesN y=y.sub.map (backF y.name):=by unfold filesN;rw[hf]
    rw[e1,e2,List.map_map];refine(outF_perm n _ y.sub (hw.sub hy hf) fun f hfm=>by have:=sub_path hy hf hn f hfm;omega).trans ?_;have e3:(y.sub.map (pathF (p++y.name ++ [47])))=y.sub.map (pathF p ∘ backF y.name):=List.map_congr_left fun f _=>by
     show (⟨p++y.name ++ [47]++f.path,f.run,f.bs⟩:TFi)=⟨p++(y.name++47::f.path),f.run,f.bs⟩;simp
    rw[e3]
  have h2:((grp l).flatMap fun y=>(filesN y).map (pathF p))=l.map (pathF p):=by
   rw[← List.map_flatMap,grp_files]
  rwa [h2]at h1
theorem pathF_nil (l:List TFi):l.map (pathF [])=l:=by
 have:pathF []=id:=funext fun f=>rfl;rw[this,List.map_id]
theorem sorted_files {P:PartT} {l S:List TFi} (hw:WF P l) (hp:S.Perm l) (hs:S.Pairwise fun a b=>a.path≤b.path):S=l:=by
 refine List.Perm.eq_of_pairwise (le:=fun a b:TFi=>a.path≤b.path) (fun a b ha hb h1 h2=>?_) hs (hw.ord.imp fun h=>List.le_of_lt h) hp;have e:a.path=b.path:=List.le_antisymm h1 h2;obtain⟨i,hi,ha⟩:=List.getElem_of_mem (hp.mem_iff.1 ha);obtain⟨j,hj,hb⟩:=List.getElem_of_mem hb;have hpw:=List.pairwise_iff_getElem.1 hw.ord
 rcases Nat.lt_trichotomy i j with h | h | h
 ·have:=hpw i j hi hj h;rw[ha,hb,e]at this;exact absurd this (blt_irrefl _)
 ·subst h;rw[← ha,← hb]
 ·have:=hpw j i hj hi h;rw[ha,hb,e]at this;exact absurd this (blt_irrefl _)
theorem tfOf_get {l m:List File} (h:m.map tfOf=l.map tfOf) {k:Nat} {y:File} (hy:m[k]? = some y):∃ z,l[k]? = some z∧z.path=y.path∧z.run=y.run∧z.bytes.l=y.bytes.l:=by
 have e:=congrArg (fun q=>q[k]?) h;simp only[List.getElem?_map,hy,Option.map_some]at e
 cases hz:l[k]? with
 | none=>rw[hz]at e;cases e
 | some z =>
  rw[hz]at e;injection e with e;unfold tfOf at e;injection e with e1 e2 e3;exact⟨z,rfl,bytes_ext e1.symm,e2.symm,e3.symm⟩
theorem tfOf_len {l m:List File} (h:m.map tfOf=l.map tfOf):m.length=l.length:=by have:=congrArg List.length h;simpa using this
theorem hasF_congr {l m:List File} (h:m.map tfOf=l.map tfOf):hasF m=hasF l:=by
 have e:∀ (q:List File) (p:ByteArray),hasF q p=(q.map tfOf).any fun f=>decide (f.path=p.data.toList):=fun q p=>by
  unfold hasF;rw[List.any_map]
  congr 1
  funext y
  show decide (y.path=p)=decide (y.path.data.toList=p.data.toList)
  congr 1
  exact propext ⟨fun e=>by rw[e],fun e=>bytes_ext e⟩
 funext p
 rw[e,e,h]
theorem totF_congr {l m:List File} (h:m.map tfOf=l.map tfOf):totF m=totF l:=by
 have e:∀ q:List File,totF q=((q.map tfOf).map (·.bs.length)).sum:=fun q=>by unfold totF;rw[List.map_map];rfl
 rw[e,e,h]
theorem FilesX.congr {l m:List File} (hx:FilesX l) (h:m.map tfOf=l.map tfOf):FilesX m:=by
 refine⟨by rw[tfOf_len h];exact hx.len,fun k y hy=>?_,fun k y z hy hz=>?_,fun k y hy=>?_,by rw[totF_congr h];exact hx.tot⟩
 ·obtain⟨y',h1,e1,_,e3⟩:=tfOf_get h hy;rw[← e1,← e3];exact hx.row k y' h1
 ·obtain⟨y',h1,e1,_,_⟩:=tfOf_get h hy;obtain⟨z',h2,e2,_,_⟩:=tfOf_get h hz;rw[← e1,← e2];exact hx.ord k y' z' h1 h2
 ·obtain⟨y',h1,e1,_,_⟩:=tfOf_get h hy;rw[hasF_congr h,← e1];exact hx.cl k y' h1
end Go.Proofs.YtpdjjjiknijpkaaGreatDoor.C10
namespace Go.Proofs.YtpdjjjiknijpkaaGreatDoor.C10
open Go.ChangeShapes Go.WideShapes Go.Deep Go.RowKit Go.Lib Go.Maps
structure QStr (w:World) (b off n c:Nat) (l:List ByteArray):Prop where
 lt:b<w.heap.size
 len:l.length=n
 cap:n≤c
 at_:∀ (k:Nat) s,l[k]? = some s→w.cell? ⟨b,off+k,none⟩=some (.string s)
 own:∀ j,j<c→(w.cell? ⟨b,off+j,none⟩).isSome=true∧w.frozen? ⟨b,off+j,none⟩=false
section
variable {w w':World} {b off n c:Nat} {l:List ByteArray}
theorem QStr.block (h:QStr w b off n c l) (hk:w'.heap[b]? = w.heap[b]?) (hs:w.heap.size≤w'.heap.size):QStr w' b off n c l :=
 ⟨Nat.lt_of_lt_of_le h.lt hs,h.len,h.cap,fun k s hs=>(World.cell?_of_block (a:=⟨b,off+k,none⟩) hk).trans (h.at_ k s hs),fun j hj=>by
  rw[World.cell?_of_block (a:=⟨b,off+j,none⟩) hk,World.frozen?_of_block (a:=⟨b,off+j,none⟩) hk];exact h.own j hj⟩
theorem QStr.below (h:QStr w b off n c l) (hb:Below w.heap.size w w'):QStr w' b off n c l:=h.block (hb.block b h.lt) hb.size
theorem QStr.grown {row:Option Nat} (h:QStr w b off n c l) (hg:w.grownBy w' row) (hne:some b≠row):QStr w' b off n c l:=h.block (hg.block b h.lt hne) hg.size
theorem QStr.tail {s:ByteArray} {t:List ByteArray} (h:QStr w b off n c (s::t)):QStr w b (off+1) (n-1) (c-1) t∧(c-1=0→QStr w b off (n-1) (c-1) t):=by
 have h1:=h.len;rw[List.length_cons]at h1;have h2:=h.cap;refine⟨⟨h.lt,by omega,by omega,fun k s hs=>?_,fun j hj=>?_⟩,fun hc=>⟨h.lt,by omega,by omega,fun k s hs=>?_,fun j hj=>absurd hj (by omega)⟩⟩
 ·have:=h.at_ (k+1) s (by simpa using hs)
  rwa [show off+(k+1)=off+1+k by omega]at this
 ·have:=h.own (j+1) (by omega)
  rwa [show off+(j+1)=off+1+j by omega]at this
 ·have:=(List.getElem?_eq_some_iff.1 hs).1;omega
theorem QStr.new (w:World) (s:ByteArray) (e:TypeId):QStr (w.alloc (.cells #[.string s] e)) w.heap.size 0 1 1 [s]:=by
 refine⟨by simp,rfl,Nat.le_refl _,fun k x hx=>?_,fun j hj=>?_⟩
 ·cases k with
  | zero =>
   injection hx with hx;subst hx;have hb:(w.alloc (.cells #[.string s] e)).heap[w.heap.size]? = some (.cells #[.string s] e):=heap_alloc_new w _;simp only[World.cell?,hb];rfl
  | succ k=>simp at hx
 ·obtain rfl:j=0:=by omega
  have hb:(w.alloc (.cells #[.string s] e)).heap[w.heap.size]? = some (.cells #[.string s] e):=heap_alloc_new w _;exact⟨by simp only[World.cell?,hb];rfl,by simp only[World.frozen?,hb];rfl⟩
theorem grown_setCs (w:World) (b:Nat):∀ (vs:List Value) (o:Nat) (w:World),w.grownBy (w.setCells b o vs) (some b)
 | [],_,w=>World.grownBy.refl _ _
 | v::r,o,w=>by
  have h1:=grown_setc w ⟨b,o,none⟩ v;have h2:=grown_setCs w b r (o+1) (w.setCell ⟨b,o,none⟩ v);exact⟨h2.os.trans h1.os,h2.tape.trans h1.tape,h2.output.trans h1.output,Nat.le_trans h1.size h2.size,fun k hk hne=>(h2.block k (Nat.lt_of_lt_of_le hk h1.size) hne).trans (h1.block k hk hne)⟩
theorem QStr.push (h:QStr w b off n c l) (s:ByteArray) (hr:n+1≤c):QStr (w.setCells b (off+n*1) [.string s]) b off (n+1) c (l ++ [s]):=by
 have hl:=h.len;have hin:=World.cell?_setCells_in b [.string s] (off+n*1) w (fun j hj=>by
  simp at hj;subst hj;have:=(h.own n (by omega)).1;rw[show off+n*1+0=off+n by omega];exact this)
 refine⟨Nat.lt_of_lt_of_le h.lt (grown_setCs w b _ _ w).size,by rw[List.length_append,h.len];rfl,hr,fun k x hx=>?_,fun j hj=>⟨?_,?_⟩⟩
 ·rcases Nat.lt_or_ge k l.length with hk | hk
  ·rw[List.getElem?_append_left hk]at hx;rw[World.cell?_setCells_out b _ _ _ _ (fun _ _=>.inl (by show off+k<off+n*1;omega))];exact h.at_ k x hx
  ·rw[List.getElem?_append_right hk]at hx;have hk0:k-l.length=0:=by have:=(List.getElem?_eq_some_iff.1 hx).1;simp at this;omega
   rw[hk0]at hx;injection hx with hx;subst hx;have:=hin 0 (by simp);rw[show off+n*1+0=off+k by omega]at this;exact this
 ·by_cases e:j=n
  ·have:=hin 0 (by simp);rw[show off+n*1+0=off+j by omega]at this;rw[this];rfl
  ·rw[World.cell?_setCells_out b _ _ _ _ (fun _ _=>by
    show off+j<off+n*1∨off+n*1+1≤off+j;omega)]
   exact(h.own j hj).1
 ·rw[World.frozen?_setCells];exact(h.own j hj).2
theorem wpList_push {P:Program} {e:TypeId} {ops:Array Oper} {rest:List Oper} {o:Oper} {a:Act} {Q:Exit→Act→World→Prop} (hgd:o.guard=none) (sv x:Operand) (t:TypeId)
  (ho:o.op = .call { callee:=.builtin .append,args:=#[sv,x],argTypes:=#[t,t] }) {bytes:Nat} (ht:P.underlying t=some (.slice e)) (hE:Elem P e 1 bytes)
  (hs:a.eval sv = .slice (some ⟨b,off,none⟩) n c) (h:QStr w b off n c l) (ad:Addr) (s:ByteArray) (hx:a.eval x = .slice (some ad) 1 1) (hc:w.cell? ad=some (.string s))
  (h63:n+1≤maxLen) (hbytes:(n+1)*bytes≤140737488355328)
  (hK:∀ b' off' c' w',QStr w' b' off' (n+1) c' (l ++ [s])→w.grownBy w' (some b)→(b'=b∨w.heap.size≤b')→wpList P ops Q rest (a.put o.dst (.slice (some ⟨b',off',none⟩) (n+1) c')) w') :
  wpList P ops Q (o::rest) a w:=by
 obtain⟨i,z,hi,hz,hz1,hz2,hz3⟩:=hE;have hlen:=h.len;have hol:(l.map Value.string).length=n*1:=by rw[List.length_map];omega
 refine wpList_append_arg w hgd sv x t ho e i z 1 bytes ht hi hz hz1 hz2 hz3 (by decide) b off n c (l.map Value.string) hs hol (fun j u hj=>?_) ad 1 1 [.string s] hx rfl (fun j u hj=>?_) (fun u hu=>?_) (fun hr j hj=>?_) h63 hbytes (fun hr=>?_) (fun hg v' w' hown hgr=>?_)
 ·rw[List.getElem?_map]at hj
  cases hq:l[j]? with
  | none=>rw[hq]at hj;cases hj
  | some y=>rw[hq]at hj;injection hj with hj;subst hj;exact h.at_ j y hq
 ·cases j with
  | zero =>
   injection hj with hj;subst hj;have e0:ad.add 0=ad:=by simp[Addr.add]
   rw[e0];exact hc
  | succ j=>simp at hj
 ·simp at hu;subst hu;rfl
 ·simp at hj;subst hj;have:=h.own n (by omega);rw[show off+n*1+0=off+n by omega];exact this
 ·exact hK b off c _ (h.push s hr) (grown_setCs w b _ _ w) (.inl rfl)
 ·rcases hown.2 with ⟨_,h0⟩ | ⟨g,cap',cur,rfl,hb,hgg,hle,hmx,hsz,htk⟩
  ·omega
  ·have hglt:g<w'.heap.size:=(Array.getElem?_eq_some_iff.1 hgg).1;have hcell:∀ j,w'.cell? ⟨g,0+j,none⟩=cur[j]?:=fun j=>by
    simp only[World.cell?,hgg,Nat.zero_add];simp
   have hget:∀ (j:Nat) y,(l ++ [s])[j]? = some y→cur[j]? = some (.string y):=fun j y hj=>by
    have hjl:j<n+1:=by have:=(List.getElem?_eq_some_iff.1 hj).1;rw[List.length_append,List.length_singleton]at this;omega
    have e2:(cur.toList.take ((n+1)*1))[j]? = ((l ++ [s]).map Value.string)[j]?:=by rw[htk,List.map_append];rfl
    rw[List.getElem?_take,if_pos (by omega),List.getElem?_map,hj]at e2
    simpa using e2
   exact hK g 0 cap' w' ⟨hglt,by rw[List.length_append,hlen];rfl,hle,fun k y hy=>(hcell k).trans (hget k y hy),fun j hj=>⟨by rw[hcell,Array.getElem?_eq_getElem (by rw[hsz];omega)];rfl,by simp[World.frozen?,hgg]⟩⟩
    ⟨hgr.os,hgr.tape,hgr.output,hgr.size,fun k hk _=>hgr.block k hk (by simp)⟩ (.inr hb)
end
end Go.Proofs.YtpdjjjiknijpkaaGreatDoor.C10
namespace Go.Proofs.YtpdjjjiknijpkaaGreatDoor.C10
open Go.ChangeShapes Go.WideShapes Go.Deep Go.RowKit Go.Lib
section
variable {P:Program} {α:Type} {R:Rd α} {e:TypeId} {w:World} {base:Nat} {v:Value} {l:List α}
theorem run_appW (t ty:TypeId) {bytes:Nat} (ht:P.underlying t=some (.slice e)) (hE:Elem P e R.size bytes) (hsz:0<R.size) (hown:Own R e w base v l)
  (A:Option Addr) (m c:Nat) (l2:List α) (h2:SlAt R w A m l2) (hn:m=0→A=none→c=0)
  (hok:∀ w',w.grownBy w' v.ownBlock→∀ z,z∈l++l2→R.ok w z→R.ok w' z)
  (h63:l.length+m≤maxLen) (hbytes:(l.length+m)*bytes≤140737488355328) (hbase:base≤w.heap.size) (N:Nat) (hN:l.length+m=N) :
  ∃ A' c' w',(Builtin.append_ #[t,t] ty #[v,.slice A m c]).run P w = .ok (.slice A' N c') w'∧Own R e w' base (.slice A' N c') (l++l2)∧w.grownBy w' v.ownBlock∧((Value.slice A' N c').ownBlock=v.ownBlock∨(Value.slice A' N c').ownBlock=some w.heap.size):=by
 subst hN;obtain⟨i,z,hi,hz,hz1,hz2,hz3⟩:=hE
 cases A with
 | none =>
  have hm:m=0:=by
   rcases Nat.eq_zero_or_pos m with h0 | h0
   ·exact h0
   ·obtain⟨_,_,h,_⟩:=h2.2.1 h0
    cases h
  subst hm;obtain rfl:=hn rfl rfl;obtain rfl:l2 = []:=List.eq_nil_of_length_eq_zero h2.1;obtain⟨A',c',rfl⟩:=hown.form;exact⟨A',c',w,run_append_owned_none (P:=P) (w:=w) base t ty e i R.size ht hi _ l.length (l.flatMap R.vals) hown.1,by rw[List.append_nil];exact hown,World.grownBy.refl _ _,.inl rfl⟩
 | some ad =>
  have hcells:∀ j u,(l2.flatMap R.vals)[j]? = some u→w.cell? (ad.add j)=some u:=by
   intro j u hu;have hj:j<l2.length*R.size:=by rw[← flatMap_vals_length];exact(List.getElem?_eq_some_iff.1 hu).1
   have hm:0<m:=by
    rcases Nat.eq_zero_or_pos m with h0 | h0
    ·rw[h2.1,h0]at hj;simp at hj
    ·exact h0
   obtain⟨b,off,hA,hc⟩:=h2.2.1 hm;injection hA with hA;subst hA;have hi':j / R.size<l2.length:=Nat.div_lt_of_lt_mul (by rw[Nat.mul_comm];exact hj);have hjr:j % R.size<R.size:=Nat.mod_lt _ hsz;have hje:j=j / R.size*R.size+j % R.size:=by rw[Nat.mul_comm];exact(Nat.div_add_mod j R.size).symm
   have hget:(R.vals l2[j / R.size])[j % R.size]? = some u:=by
    have hv:∃ u',(R.vals l2[j / R.size])[j % R.size]? = some u':=⟨_,List.getElem?_eq_getElem (by rw[R.len];exact hjr)⟩;obtain⟨u',hu'⟩:=hv;have:=flatMap_vals_get l2 (j / R.size) (j % R.size) _ u' (List.getElem?_eq_getElem hi') hu';rw[← hje,hu]at this;rw[hu',this]
   have:=hc (j / R.size) _ (List.getElem?_eq_getElem hi') (j % R.size) u hget;rw[Nat.add_assoc,← hje]at this;rw[Addr.add_lit];exact this
  obtain⟨v',w',hrun,h3,hg,_,hat⟩:=run_append_own_at (P:=P) w base t ty e i z R.size bytes ht hi hz hz1 hz2 hz3 hsz v l.length (l.flatMap R.vals) hown.1 ad m c (l2.flatMap R.vals) (by rw[flatMap_vals_length,h2.1]) hcells
   (fun u hu=>by obtain⟨y,_,hy⟩:=List.mem_flatMap.1 hu;exact R.one y u hy) h63 hbytes hbase
  have hown':Own R e w' base v' (l++l2):=⟨by rw[List.length_append,h2.1,List.flatMap_append];exact h3,fun y hy=>by
   rcases List.mem_append.1 hy with hy' | hy'
   ·exact hok w' hg y hy (hown.2 y hy')
   ·exact hok w' hg y hy (h2.2.2 y hy')⟩
  obtain⟨A',c',hv⟩:=hown'.form;rw[List.length_append,h2.1]at hv;subst hv;exact⟨A',c',w',hrun,hown',hg,hat⟩
end
theorem slAt_take {α:Type} {R:Rd α} {w:World} {A:Option Addr} {n:Nat} {l:List α} (h:SlAt R w A n l) (k:Nat) (hk:k≤n):SlAt R w A k (l.take k):=by
 refine⟨by rw[List.length_take,h.1];omega,fun hm=>?_,fun x hx=>h.2.2 x (List.mem_of_mem_take hx)⟩;obtain⟨b,off,hA,hc⟩:=h.2.1 (by omega);refine⟨b,off,hA,fun i x hx j v hv=>hc i x ?_ j v hv⟩;rw[List.getElem?_take]at hx
 split at hx
 ·exact hx
 ·cases hx
theorem slAt_drop {α:Type} {R:Rd α} {w:World} {A:Option Addr} {n c:Nat} {l:List α} (h:SlAt R w A n l) (k:Nat) (hk:k≤n) (hc:n≤c) (s:Nat) (hs:s=R.size):SlAt R w (if c=k then A else A.map (·.add (k*s))) (n-k) (l.drop k):=by
 subst hs;refine⟨by rw[List.length_drop,h.1],fun hm=>?_,fun x hx=>h.2.2 x (List.mem_of_mem_drop hx)⟩;obtain⟨b,off,hA,hcc⟩:=h.2.1 (by omega);subst hA;rw[if_neg (by omega)];refine⟨b,off+k*R.size,by simp[Addr.add_lit],fun i x hx j v hv=>?_⟩;rw[List.getElem?_drop]at hx;have:=hcc (k+i) x hx j v hv;rw[Nat.add_mul]at this;rw[show off+k*R.size+i*R.size+j=off+(k*R.size+i*R.size)+j by omega];exact this
theorem run_slTo (t:TypeId) (ht:Tryz.prog.underlying t=some (.slice (Tryz.prog.elem t))) (s:Nat) (hs:∀ w,(sizeOf (Tryz.prog.elem t)).run Tryz.prog w = .ok s w) (A:Option Addr) (n c k:Nat) (hk:k≤c) (w:World) :
  (Instr.slice t (.slice A n c) none (some (.int .i64 (k:Int))) none).run Tryz.prog w = .ok (.slice A k c) w:=by
 rw[run_slice_h (P:=Tryz.prog) w t A n c ht .i64 (k:Int) (by omega) (by omega),hs];have e:A.map (·.add 0)=A:=by cases A <;> simp[Addr.add]
 simp[Result.andThen,sliced,e]
theorem run_slFrom (t:TypeId) (ht:Tryz.prog.underlying t=some (.slice (Tryz.prog.elem t))) (s:Nat) (hs:∀ w,(sizeOf (Tryz.prog.elem t)).run Tryz.prog w = .ok s w) (A:Option Addr) (n c k:Nat) (hk:k≤n) (w:World) :
  (Instr.slice t (.slice A n c) (some (.int .i64 (k:Int))) none none).run Tryz.prog w = .ok (.slice (if c=k then A else A.map (·.add (k*s))) (n-k) (c-k)) w:=by
 rw[run_slice_l (P:=Tryz.prog) w t A n c ht .i64 (k:Int) (by omega) (by omega),hs];simp[Result.andThen,sliced]
end Go.Proofs.YtpdjjjiknijpkaaGreatDoor.C10
namespace Go.Proofs.YtpdjjjiknijpkaaGreatDoor.C10
open Go.ChangeShapes Go.WideShapes Go.Deep Go.RowKit
theorem twoR {P:Program} {md:Region.Mode} {ops:Array Oper} {Q:Exit→Act→World→Prop} {R:Nat→World→World→Prop} {i j:Nat} {oi oj:Oper} {fuel:Nat} {listed:Array Bool} {a:Act} {w:World} (hr:Region.ready md ops listed = [i,j]) (hoi:ops[i]? = some oi) (hoj:ops[j]? = some oj)
  (hi:∀ K':Act→World→Prop,Shut (∀ a' w',R i w w'→wpAnyR P md ops Q R fuel (listed.setIfInBounds i true) a' w'→K' a' w')→if Region.wanted oi (yielded ops a.tmps)=true then Oper.wp P oi a w K' Q else K' (a.put oi.dst undef) w)
  (hj:∀ K':Act→World→Prop,Shut (∀ a' w',R j w w'→wpAnyR P md ops Q R fuel (listed.setIfInBounds j true) a' w'→K' a' w')→if Region.wanted oj (yielded ops a.tmps)=true then Oper.wp P oj a w K' Q else K' (a.put oj.dst undef) w) :
  wpAnyR P md ops Q R (fuel+1) listed a w:=by
 refine⟨fun h0=>absurd (hr ▸ h0) (by simp),fun k hk=>?_⟩;rw[hr,List.mem_cons,List.mem_singleton]at hk
 rcases hk with rfl | rfl
 ·exact wpOp_step hoi (fun K' hK=>hi K' (fun a' w' h1 h2=>hK a' w' ⟨h1,h2⟩))
 ·exact wpOp_step hoj (fun K' hK=>hj K' (fun a' w' h1 h2=>hK a' w' ⟨h1,h2⟩))
def Dj (u v:Value):Prop:=∀ x,u.ownBlock=some x→v.ownBlock≠some x
theorem Dj.symm {u v:Value} (h:Dj u v):Dj v u:=fun x hx e=>h x e hx
theorem dj_step {v v1 u:Value} {N:Nat} (h:Dj v u) (hat:v1.ownBlock=v.ownBlock∨v1.ownBlock=some N) (hu:∀ x,u.ownBlock=some x→x<N):Dj v1 u:=fun x hx e=>by
 rcases hat with ha | ha
 ·exact h x (ha ▸ hx) e
 ·rw[ha]at hx;injection hx with hx;subst hx;exact absurd (hu _ e) (Nat.lt_irrefl _)
theorem Dj.ne {u v:Value} (h:Dj u v):u.ownBlock=none∨u.ownBlock≠v.ownBlock:=by
 cases hx:u.ownBlock with
 | none=>exact .inl rfl
 | some x=>exact .inr fun e=>h x hx e.symm
theorem own_lower {α:Type} {R:Rd α} {e:TypeId} {w:World} {base base':Nat} {v:Value} {l:List α} (h:Own R e w base v l) (hb:base'≤base):Own R e w base' v l:=by
 refine⟨⟨h.1.1,?_⟩,h.2⟩
 rcases h.1.2 with hn | ⟨g,cap,cur,hv,hg,rest⟩
 ·exact .inl hn
 ·exact .inr ⟨g,cap,cur,hv,Nat.le_trans hb hg,rest⟩
theorem own_none_cap {α:Type} {R:Rd α} {e:TypeId} {w:World} {base:Nat} {A:Option Addr} {n c:Nat} {l:List α} (h:Own R e w base (.slice A n c) l):A=none→c=0:=by
 intro hA
 rcases h.1.2 with ⟨hv,_⟩ | ⟨g,cap,cur,hv,_⟩
 ·injection hv
 ·injection hv with h1 _ _;rw[hA]at h1;cases h1
theorem own_lt {α:Type} {R:Rd α} {e:TypeId} {w:World} {base:Nat} {v:Value} {l:List α} (h:Own R e w base v l):∀ x,v.ownBlock=some x→x<w.heap.size:=fun x hx=>(h.1.lt x hx).2
theorem grown_none {w w':World} {B:Nat} (h:w.grownBy w' none) (hB:B≤w.heap.size):Below B w w':=(Below.refl _ _).grown h hB fun k hk=>by cases hk
theorem own_grown {α:Type} {R:Rd α} {e:TypeId} {w w':World} {base:Nat} {v:Value} {l:List α} (h:Own R e w base v l) (hg:w.grownBy w' v.ownBlock) (hb:base≤w.heap.size):Below base w w':=(Below.refl _ _).grown hg hb fun k hk=>(h.1.lt k hk).1
theorem elem_Str1:Elem Tryz.prog 9 RStr.size 16:=elem_of (z:=.string ByteArray.empty) (by kernel_rfl) (by decide)
theorem elem_Int1:Elem Tryz.prog 3 RInt.size 8:=elem_of (z:=.int .i64 0) (by kernel_rfl) (by decide)
theorem szS:∀ w,(sizeOf (Tryz.prog.elem 33)).run Tryz.prog w = .ok 1 w:=fun w=>by kernel_rfl
theorem szI:∀ w,(sizeOf (Tryz.prog.elem 23)).run Tryz.prog w = .ok 1 w:=fun w=>by kernel_rfl
theorem utS:Tryz.prog.underlying 33 = some (.slice (Tryz.prog.elem 33)):=by kernel_rfl
theorem utI:Tryz.prog.underlying 23 = some (.slice (Tryz.prog.elem 23)):=by kernel_rfl
theorem step_appW {P:Program} {α:Type} {R:Rd α} {e:TypeId} {w:World} {base:Nat} {v:Value} {l:List α} {ops:Array Oper} {o:Oper} {a:Act} {K:Act→World→Prop} {Q:Exit→Act→World→Prop} {E:Prop} (hgd:o.guard=none) (s x:Operand) (t:TypeId)
  (ho:o.op = .call { callee:=.builtin .append,args:=#[s,x],argTypes:=#[t,t] })
  {bytes:Nat} (ht:P.underlying t=some (.slice e)) (hE:Elem P e R.size bytes) (hsz:0<R.size)
  (hs:a.eval s=v) (hown:Own R e w base v l) (A:Option Addr) (m c:Nat) (l2:List α) (hx:a.eval x = .slice A m c) (h2:SlAt R w A m l2) (hn:m=0→A=none→c=0)
  (hok:∀ w',w.grownBy w' v.ownBlock→∀ z,z∈l++l2→R.ok w z→R.ok w' z)
  (h63:l.length+m≤maxLen) (hbytes:(l.length+m)*bytes≤140737488355328) (hbase:base≤w.heap.size) (N:Nat) (hN:l.length+m=N)
  (h:∀ A' c' w',Own R e w' base (.slice A' N c') (l++l2)→w.grownBy w' v.ownBlock→((Value.slice A' N c').ownBlock=v.ownBlock∨(Value.slice A' N c').ownBlock=some w.heap.size)→K (a.put o.dst (.slice A' N c')) w') :
  if Region.wanted o (yielded ops a.tmps)=true then Oper.wp P o a w K Q else E:=by
 have hw:Region.wanted o (yielded ops a.tmps)=true:=by simp[Region.wanted,hgd]
 rw[if_pos hw];obtain⟨A',c',w',hr,h3,h4,h5⟩:=run_appW (P:=P) t o.type ht hE hsz hown A m c l2 h2 hn hok h63 hbytes hbase N hN;unfold Oper.wp execOp;simp only[ho,resolve,invoke,builtin,Sem.run_bind,Sem.run_pure,Result.andThen_ok,List.map_toArray,List.map_cons,List.map_nil,hs,hx,hr];exact h A' c' w' h3 h4 h5
theorem slTo_own {α:Type} {R:Rd α} {e:TypeId} {w:World} {base:Nat} {A:Option Addr} {n c:Nat} {l:List α} (h:Own R e w base (.slice A n c) l) (t:TypeId) (ht:Tryz.prog.underlying t=some (.slice (Tryz.prog.elem t))) (s:Nat) (hs:∀ w,(sizeOf (Tryz.prog.elem t)).run Tryz.prog w = .ok s w) (k:Nat) (hk:k≤n) (W:World) :
  (Instr.slice t (.slice A n c) none (some (.int .i64 (k:Int))) none).run Tryz.prog W = .ok (.slice A k c) W:=run_slTo t ht s hs A n c k (Nat.le_trans hk h.cap_le) W
def dropA (A:Option Addr) (c k s:Nat):Option Addr:=if c=k then A else A.map (·.add (k*s))
theorem slFrom_own {α:Type} {R:Rd α} {e:TypeId} {w:World} {base:Nat} {A:Option Addr} {n c:Nat} {l:List α} (h:Own R e w base (.slice A n c) l) (t:TypeId) (ht:Tryz.prog.underlying t=some (.slice (Tryz.prog.elem t))) (s:Nat) (hs:∀ w,(sizeOf (Tryz.prog.elem t)).run Tryz.prog w = .ok s w) (k:Nat) (hk:k≤n) (W:World) :
  (Instr.slice t (.slice A n c) (some (.int .i64 (k:Int))) none none).run Tryz.prog W = .ok (.slice (dropA A c k s) (n-k) (c-k)) W:=run_slFrom t ht s hs A n c k hk W
theorem slDrop_own {α:Type} {R:Rd α} {e:TypeId} {w:World} {base:Nat} {A:Option Addr} {n c:Nat} {l:List α} (h:Own R e w base (.slice A n c) l) (k:Nat) (hk:k≤n) (s:Nat) (hs:s=R.size):SlAt R w (dropA A c k s) (n-k) (l.drop k)∧(n-k=0→dropA A c k s=none→c-k=0):=by
 refine⟨slAt_drop h.slAt k hk h.cap_le s hs,fun _ hA=>?_⟩;unfold dropA at hA
 by_cases hc:c=k
 ·omega
 ·rw[if_neg hc]at hA
  cases A with
  | none=>have:=own_none_cap h rfl;omega
  | some a=>cases hA
end Go.Proofs.YtpdjjjiknijpkaaGreatDoor.C10