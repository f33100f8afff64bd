/-
 Several texts of mine as one, without what is not wanted here: XTopD, XSmF, XSmL.
-/
import Derived.Test.YtdiaabeollcjaaaGreatDoorTlSC10
set_option linter.unusedVariables false
set_option linter.unusedSimpArgs false
set_option maxRecDepth 100000
set_option maxHeartbeats 8000000
namespace Go.Proofs.YtdiaabeollcjaaaGreatDoor.C10
open Go.RowKit Go.Maps
/-! ### the words that are read are paths -/
theorem wd_mem {c:List ByteArray} {k:Nat} (h1:1≤k) (hk:k<c.length):wd c k∈c.drop 1:=by
 refine List.mem_of_getElem? (i:=k-1) ?_;rw[List.getElem?_drop,show 1+(k-1)=k by omega];exact wd_get hk
theorem drop2_mem {c:List ByteArray} {p:ByteArray} (h:p∈c.drop 2):p∈c.drop 1:=by
 have:c.drop 2=(c.drop 1).drop 1:=by rw[List.drop_drop]
 rw[this]at h;exact List.mem_of_mem_drop h
theorem cmdP_of {x:Action} {c:List ByteArray} (h:CmdOk c) (hn:wd c 0≠wList):CmdP (epOf x) c:=by
 unfold CmdP;show if wd c 0=wTell then True else if wd c 0=wNeed then pathB (wd c 1)=true else if wd c 0=wSame then pathB (wd c 1)=true∧pathB (wd c 2)=true else if wd c 0=wFail then True
  else if wd c 0=wJoin then ∀ p∈c.drop 2,pathB p=true else if wd c 0=wExpand then pathB (wd c 2)=true else if wd c 0=wPick then ∀ p∈c.drop 2,pathB p=true else if wd c 0=wVar then True
  else pathB (wd c (c.length-1))=true
 rcases h.form with ⟨h0,h3,hp⟩ | ⟨h0,h3,hp⟩ | ⟨h0,h3,_,_,hp⟩ | ⟨h0,h3,_,hp⟩ | ⟨h0,h3,hp⟩ | ⟨h0,h3,hp⟩ | ⟨h0,h3⟩ | ⟨h0,h3,hp⟩ | ⟨h0,h3,hp,hq⟩ | ⟨h0,h3,hp⟩
 ·rw[h0,if_neg (by decide),if_neg (by decide),if_neg (by decide),if_neg (by decide),if_pos rfl];exact fun p hq=>hp p (drop2_mem hq)
 ·have h2:pathB (wd c 2)=true:=hp _ (wd_mem (by omega) (by omega));rw[h3]
  rcases h0 with h0 | h0 | h0 | h0 | h0 | h0
  ·rw[h0,if_neg (by decide),if_neg (by decide),if_neg (by decide),if_neg (by decide),if_neg (by decide),if_neg (by decide),if_neg (by decide),if_neg (by decide)];exact h2
  ·rw[h0,if_neg (by decide),if_neg (by decide),if_neg (by decide),if_neg (by decide),if_neg (by decide),if_neg (by decide),if_neg (by decide),if_neg (by decide)];exact h2
  ·rw[h0,if_neg (by decide),if_neg (by decide),if_neg (by decide),if_neg (by decide),if_neg (by decide),if_pos rfl];exact h2
  ·rw[h0,if_neg (by decide),if_neg (by decide),if_neg (by decide),if_neg (by decide),if_neg (by decide),if_neg (by decide),if_neg (by decide),if_neg (by decide)];exact h2
  ·rw[h0,if_neg (by decide),if_neg (by decide),if_neg (by decide),if_neg (by decide),if_neg (by decide),if_neg (by decide),if_neg (by decide),if_neg (by decide)];exact h2
  ·exact absurd h0 hn
 ·rw[h0,h3,if_neg (by decide),if_neg (by decide),if_neg (by decide),if_neg (by decide),if_neg (by decide),if_neg (by decide),if_neg (by decide),if_neg (by decide)];exact hp
 ·rw[h0,h3,if_neg (by decide),if_neg (by decide),if_neg (by decide),if_neg (by decide),if_neg (by decide),if_neg (by decide),if_neg (by decide),if_neg (by decide)];exact hp
 ·rw[h0,if_neg (by decide),if_neg (by decide),if_neg (by decide),if_neg (by decide),if_neg (by decide),if_neg (by decide),if_pos rfl];exact fun p hq=>hp p (drop2_mem hq)
 ·rw[h0,if_neg (by decide),if_neg (by decide),if_neg (by decide),if_neg (by decide),if_neg (by decide),if_neg (by decide),if_neg (by decide),if_pos rfl];trivial
 ·rw[h0,if_pos rfl];trivial
 ·rw[h0,if_neg (by decide),if_pos rfl];exact hp
 ·rw[h0,if_neg (by decide),if_neg (by decide),if_pos rfl];exact⟨hp,hq⟩
 ·rw[h0,if_neg (by decide),if_neg (by decide),if_neg (by decide),if_pos rfl];trivial
theorem cmds_P {x:Action} {l:List File} (h:BothOk x l) (hn:NoList x):∀ c∈cmds x,CmdP (epOf x) c:=by
 intro c hc;obtain⟨y,hy,rfl⟩:=List.mem_map.1 hc;exact cmdP_of (h.cmds.2 y hy) (hn y hy)
/-! ### what a test reads -/
def hitL (ls:List Lk):List ByteArray:=(ls.filter fun x=>!decide (x.digest=⟨#[]⟩)).map (·.path)
def missL (ls:List Lk):List ByteArray:=(ls.filter fun x=>decide (x.digest=⟨#[]⟩)).map (·.path)
theorem look_none (E:EP) (p:ByteArray):decide ((lookP E p none).digest=⟨#[]⟩)=true:=decide_eq_true rfl
theorem look_some (x:Action) (p:ByteArray) (v:PF):decide ((lookP (epOf x) p (some v)).digest=⟨#[]⟩)=false:=decide_eq_false fun e=>by
 have h:=digF_size v.bs;have e:digF v.bs=⟨#[]⟩:=e;rw[e]at h;cases h
theorem look_path (E:EP) (p:ByteArray) (o:Option PF):(lookP E p o).path=p:=by cases o <;> rfl
theorem hit_eq (x:Action) (s:ES) (I:Inp):∀ (lp:List ByteArray),(∀ p∈lp,lkE s p=lookP (epOf x) p (I p))→hitL (lp.map (lkE s))=lp.filter (fun p=>(I p).isSome)∧missL (lp.map (lkE s))=lp.filter (fun p=>(I p).isNone)
 | [],_=>⟨rfl,rfl⟩
 | p::r,h=>by
  obtain⟨h1,h2⟩:=hit_eq x s I r fun q hq=>h q (List.mem_cons_of_mem _ hq);have hp:=h p List.mem_cons_self;unfold hitL at h1 ⊢;unfold missL at h2 ⊢;rw[List.map_cons,hp]
  cases hI:I p with
  | none =>
   have e:=look_none (epOf x) p
   constructor
   ·rw[List.filter_cons,e,List.filter_cons,hI];exact h1
   ·rw[List.filter_cons,e,List.filter_cons,hI];show (lookP (epOf x) p none).path::_=p::_;rw[look_path];exact congrArg _ h2
  | some v =>
   have e:=look_some x p v
   constructor
   ·rw[List.filter_cons,e,List.filter_cons,hI];show (lookP (epOf x) p (some v)).path::_=p::_;rw[look_path];exact congrArg _ h1
   ·rw[List.filter_cons,e,List.filter_cons,hI];exact h2
theorem less_sle {a b:ByteArray} (h:a.data.toList≤b.data.toList∧a.data.toList≠b.data.toList):sle b a=false:=by
 cases hs:sle b a
 ·rfl
 ·exfalso;rw[sle_cmp,decide_eq_true_iff]at hs
  rcases cmpS_range b a with e | e | e
  ·have h1:Op.bytesLess b.data.toList a.data.toList=true:=by rw[less_cmpB,decide_eq_true_iff];exact e
   rw[bytesLess_eq,decide_eq_true_iff]at h1;exact h.2 (List.le_antisymm h.1 (List.le_of_lt h1))
  ·exact h.2 (by rw[(cmpS_zero b a).1 e])
  ·omega
theorem rising_cons {x:ByteArray} {r:List ByteArray} (h:Rising (x::r)):(∀ a∈r,sle a x=false)∧Rising r:=by
 have h':(x.data.toList::dat r).Pairwise (fun a b=>a≤b∧a≠b):=h;rw[List.pairwise_cons]at h';exact⟨fun a ha=>less_sle (h'.1 _ (List.mem_map.2 ⟨a,ha,rfl⟩)),h'.2⟩
theorem rising_filter {l:List ByteArray} (h:Rising l) (p:ByteArray→Bool):Rising (l.filter p):=by
 unfold Rising dat at h ⊢;rw[List.pairwise_map]at h ⊢;exact h.sublist List.filter_sublist
theorem pathsErr_of:∀ (l:List ByteArray) (p:Option ByteArray),Rising l→(∀ s∈l,pathB s=true)→(∀ q,p=some q→∀ a∈l,sle a q=false)→pathsErr p l=0
 | [],p,_,_,_=>by unfold pathsErr;rfl
 | x::r,p,hr,hb,hp=>by
  obtain⟨h1,h2⟩:=rising_cons hr;rw[pathsErr,if_pos (hb x List.mem_cons_self),if_neg]
  ·exact pathsErr_of r (some x) h2 (fun s hs=>hb s (List.mem_cons_of_mem _ hs)) fun q hq a ha=>by injection hq with hq;subst hq;exact h1 a ha
  ·cases p with
   | none=>intro e;cases e
   | some q=>rw[Option.map_some,hp q rfl x List.mem_cons_self];intro e;cases e
theorem kind_range (a b:Option PF):kindP a b≠0→inR 1 4 (kindP a b)=true:=by
 unfold kindP
 split
 ·intro _;rfl
 ·intro _;rfl
 ·split
  ·intro _;rfl
  ·split
   ·intro _;rfl
   ·intro h;exact absurd rfl h
theorem chErr_of (I J:Inp):∀ (l:List ByteArray) (p:Option ByteArray),Rising l→(∀ s∈l,pathB s=true)→(∀ q,p=some q→∀ a∈l,sle a q=false)→chErr p (l.filterMap (chOf I J))=0
 | [],p,_,_,_=>by rw[List.filterMap_nil];unfold chErr;rfl
 | x::r,p,hr,hb,hp=>by
  obtain⟨h1,h2⟩:=rising_cons hr
  by_cases hk:kindP (I x) (J x)=0
  ·have e:chOf I J x=none:=by unfold chOf;rw[if_pos hk]
   rw[List.filterMap_cons,e];exact chErr_of I J r p h2 (fun s hs=>hb s (List.mem_cons_of_mem _ hs)) fun q hq a ha=>hp q hq a (List.mem_cons_of_mem _ ha)
  ·have e:chOf I J x=some ⟨x,kindP (I x) (J x)⟩:=by unfold chOf;rw[if_neg hk]
   rw[List.filterMap_cons,e];show chErr p (⟨x,kindP (I x) (J x)⟩::r.filterMap (chOf I J))=0;have hrec:chRec ⟨x,kindP (I x) (J x)⟩=0:=by
    unfold chRec;rw[if_pos (hb x List.mem_cons_self),if_pos (kind_range _ _ hk)]
   rw[chErr,if_pos hrec,if_neg]
   ·exact chErr_of I J r (some x) h2 (fun s hs=>hb s (List.mem_cons_of_mem _ hs)) fun q hq a ha=>by injection hq with hq;subst hq;exact h1 a ha
   ·cases p with
    | none=>intro e;cases e
    | some q=>rw[Option.map_some];show ¬ some (sle x q)=some true;rw[hp q rfl x List.mem_cons_self];intro e;cases e
theorem kind_same {a b:Option PF} (h:kindP a b=0):a=b:=by
 unfold kindP at h
 cases a with
 | none=>cases h
 | some x=>cases b with
  | none=>cases h
  | some y =>
   obtain⟨xr,xb⟩:=x;obtain⟨yr,yb⟩:=y;simp only at h
   by_cases hb:xb=yb
   ·rw[if_neg (fun e=>e hb)]at h
    by_cases hr:xr=yr
    ·rw[hb,hr]
    ·rw[if_pos hr]at h;cases h
   ·rw[if_pos hb]at h;cases h
def wT:ByteArray:=⟨#[116]⟩
theorem readsF_one (T:TestReads):readsF [T]=recErr T:=by
 unfold readsF;rw[if_pos (by simp),readsErr]
 by_cases h:recErr T=0
 ·rw[if_pos h,if_neg (by intro e;cases e),readsErr,h]
 ·rw[if_neg h]
theorem recErr_T (I:Inp) (lp:List ByteArray) (hri:Rising lp) (hpb:∀ p∈lp,pathB p=true) (T:TestReads) (h1:pathB T.test=true) (h2:T.paths.l=lp.filter (fun p=>(I p).isSome)) (h3:T.looked.l=lp.filter (fun p=>(I p).isNone)) :
  recErr T=if T.paths.n≤1000∧T.looked.n≤1000 then 0 else 2:=by
 unfold recErr;rw[if_pos h1]
 by_cases hn:T.paths.n≤1000∧T.looked.n≤1000
 ·rw[if_pos hn,if_pos hn,h2,h3,if_pos (pathsErr_of _ none (rising_filter hri _) (fun s hs=>hpb s (List.mem_filter.1 hs).1) fun q hq=>by cases hq),
   if_pos (pathsErr_of _ none (rising_filter hri _) (fun s hs=>hpb s (List.mem_filter.1 hs).1) fun q hq=>by cases hq),if_neg]
  unfold clashB;rw[h2,h3];intro e;obtain⟨p,hp,hq⟩:=List.any_eq_true.1 e;have a:=(List.mem_filter.1 hp).2;have b:=(List.mem_filter.1 (inL_iff.1 hq)).2
  cases hI:I p with
  | none=>rw[hI]at b;cases b
  | some v=>rw[hI]at a;cases a
 ·rw[if_neg hn,if_neg hn]
theorem rising_nodup {l:List ByteArray} (h:Rising l):(dat l).Nodup:=h.imp fun h=>h.2
theorem hits_len {I:Inp} {lp M:List ByteArray} (hri:Rising lp) (hM:∀ p,(I p).isSome=true→p∈M):(lp.filter (fun p=>(I p).isSome)).length≤M.length:=by
 have h:=nodup_lenD (rising_nodup (rising_filter hri (fun p=>(I p).isSome))) (m:=dat M) (fun s hs=>by
  obtain⟨p,hp,rfl⟩:=List.mem_map.1 hs;exact List.mem_map.2 ⟨p,hM p (List.mem_filter.1 hp).2,rfl⟩)
 unfold dat at h
 rwa [List.length_map,List.length_map]at h
structure TopOk (x:Action) (l:List File) (r:(Int × Int) × ES) (lp:List ByteArray) (T:TestReads):Prop where
 path:∀ p∈lp,pathB p=true
 rise:Rising lp
 all:∀ p,p.size≤maxLen→((r.2.lk p).isSome=true→p∈lp)
 tb:T.test=wT
 hit:T.paths.l=lp.filter (fun p=>(inpF l p).isSome)
 miss:T.looked.l=lp.filter (fun p=>(inpF l p).isNone)
theorem topOk_of {x:Action} {l:List File} {r:(Int × Int) × ES} {lp:List ByteArray} {T:TestReads} (hrun:runM (epOf x) (cmds x) 0 (inpF l) es0=r) (hok:BothOk x l) (hn:NoList x) (hz:∀ p∈lp,p.size≤maxLen)
  (hm:∀ p,p.size≤maxLen→(p∈lp↔(r.2.lk p).isSome=true)) (hri:Rising lp) (h1:T.test=wT) (h2:T.paths.l=hitL (lp.map (lkE r.2))) (h3:T.looked.l=missL (lp.map (lkE r.2))):TopOk x l r lp T:=by
 have hl:=run_looks (cmds x) (cmds_P hok hn) (inpF l);rw[hrun]at hl;have hv:∀ p∈lp,pathB p=true∧lkE r.2 p=lookP (epOf x) p (inpF l p):=fun p hp=>by
  have h:=(hm p (hz p hp)).1 hp;obtain⟨v,hv⟩:=Option.isSome_iff_exists.1 h;obtain⟨a,b⟩:=hl p v hv;exact⟨a,by unfold lkE;rw[hv];exact b⟩
 obtain⟨e1,e2⟩:=hit_eq x r.2 (inpF l) lp fun p hp=>(hv p hp).2;exact⟨fun p hp=>(hv p hp).1,hri,fun p hp h=>(hm p hp).2 h,h1,by rw[h2,e1],by rw[h3,e2]⟩
theorem TopOk.hits {x:Action} {l:List File} {r:(Int × Int) × ES} {lp:List ByteArray} {T:TestReads} (h:TopOk x l r lp T) (hl:l.length≤1000):T.paths.l.length≤1000:=by
 rw[h.hit];have:=hits_len h.rise (inpF_mem l);rw[List.length_map]at this;omega
theorem TopOk.fault {x:Action} {l l2:List File} {r:(Int × Int) × ES} {lp:List ByteArray} {T:TestReads} (h:TopOk x l r lp T) {L:List ByteArray} (hL:Rising L) (hb:∀ p∈L,pathB p=true) {ch:List TreeChange} (hch:ch=L.filterMap (chOf (inpF l) (inpF l2))) :
  ((affF [T] ch).2=0∨(affF [T] ch).2=2)∧(T.paths.n≤1000→T.looked.n≤1000→ch.length≤1000→(affF [T] ch).2=0) ∧
  ((affF [T] ch).2=0→affF [T] ch=(if affP (oldL ch) (newL ch) (overL ch) T=true then [wT] else [],0)):=by
 have hc0:chErr none ch=0:=by rw[hch];exact chErr_of _ _ L none hL hb fun q hq=>by cases hq
 have hr:=recErr_T (inpF l) lp h.rise h.path T (by rw[h.tb];decide) h.hit h.miss;unfold affF;rw[readsF_one,hr];unfold chF;rw[hc0]
 by_cases hn:T.paths.n≤1000∧T.looked.n≤1000
 ·rw[if_pos hn,if_pos rfl]
  by_cases hl:ch.length≤1000
  ·rw[if_pos hl,if_pos rfl];refine⟨.inl rfl,fun _ _ _=>rfl,fun _=>?_⟩;unfold pickT;rw[List.filter_cons,List.filter_nil]
   by_cases hp:affP (oldL ch) (newL ch) (overL ch) T=true
   ·rw[if_pos hp,if_pos hp,List.map_cons,List.map_nil,h.tb]
   ·rw[if_neg hp,if_neg hp,List.map_nil]
  ·rw[if_neg hl,if_neg (by decide)];exact⟨.inr rfl,fun _ _ h=>absurd h hl,fun h=>by cases h⟩
 ·rw[if_neg hn,if_neg (by decide)];exact⟨.inr rfl,fun h1 h2 _=>absurd ⟨h1,h2⟩ hn,fun h=>by cases h⟩
theorem TopOk.same {x:Action} {l l2:List File} {r:(Int × Int) × ES} {lp:List ByteArray} {T:TestReads} (h:TopOk x l r lp T) {L:List ByteArray} (hLm:∀ p,p.size≤maxLen→(p∈L↔p∈l.map (·.path)++l2.map (·.path))) {ch:List TreeChange} (hch:ch=L.filterMap (chOf (inpF l) (inpF l2)))
  (hno:affP (oldL ch) (newL ch) (overL ch) T=false):∀ p∈lp,inpF l p=inpF l2 p:=by
 intro p hp;have hpz:p.size≤maxLen:=by have:=pathB_size (h.path p hp);unfold maxLen;omega
 by_cases he:inpF l p=inpF l2 p
 ·exact he
 ·exfalso;have hin:p∈L:=by
   rw[hLm p hpz,List.mem_append]
   cases h1:inpF l p with
   | some v=>exact .inl (inpF_mem l p (by rw[h1];rfl))
   | none=>cases h2:inpF l2 p with
    | some v=>exact .inr (inpF_mem l2 p (by rw[h2];rfl))
    | none=>exact absurd (h1.trans h2.symm) he
  have hk:kindP (inpF l p) (inpF l2 p)≠0:=fun e=>he (kind_same e);have hc:(⟨p,kindP (inpF l p) (inpF l2 p)⟩:TreeChange)∈ch:=by
   rw[hch,List.mem_filterMap];exact⟨p,hin,by unfold chOf;rw[if_neg hk]⟩
  unfold affP affB at hno;rw[Bool.or_eq_false_iff,List.any_eq_false,List.any_eq_false]at hno
  cases h1:inpF l p with
  | none =>
   refine hno.2 p (by rw[h.miss];exact List.mem_filter.2 ⟨hp,by rw[h1];rfl⟩) ?_;have:inL (newL ch) p=true:=by
    rw[inL_iff];unfold newL;refine List.mem_map.2 ⟨_,List.mem_filter.2 ⟨hc,?_⟩,rfl⟩;rw[h1];rfl
   unfold farB;rw[this];rfl
  | some v =>
   refine hno.1 p (by rw[h.hit];exact List.mem_filter.2 ⟨hp,by rw[h1];rfl⟩) ?_;rw[inL_iff];unfold oldL;refine List.mem_map.2 ⟨_,List.mem_filter.2 ⟨hc,?_⟩,rfl⟩;have:kindP (inpF l p) (inpF l2 p)≠1:=by
    rw[h1];unfold kindP
    cases inpF l2 p with
    | none=>show (2:Int)≠1;decide
    | some y =>
     show (if v.bs≠y.bs then (3:Int) else if v.run≠y.run then 4 else 0)≠1
     split
     ·decide
     ·split <;> decide
   show (!decide (kindP (inpF l p) (inpF l2 p)=1))=true;rw[decide_eq_false this];rfl
theorem TopOk.run {x:Action} {l l2:List File} {r:(Int × Int) × ES} {lp:List ByteArray} {T:TestReads} (h:TopOk x l r lp T) (hrun:runM (epOf x) (cmds x) 0 (inpF l) es0=r) (hok:BothOk x l) (hn:NoList x) (hs:∀ p∈lp,inpF l p=inpF l2 p) :
  runM (epOf x) (cmds x) 0 (inpF l2) es0=r:=by
 have hl:=run_looks (cmds x) (cmds_P hok hn) (inpF l);rw[← hrun];refine run_same (cmds x) (cmds_P hok hn) (inpF l) (inpF l2) fun p hp=>hs p ?_;obtain⟨v,hv⟩:=Option.isSome_iff_exists.1 hp;have hpb:pathB p=true:=(hl p v hv).1;refine h.all p (by have:=pathB_size hpb;unfold maxLen;omega) ?_;rw[← hrun];exact hp
end Go.Proofs.YtdiaabeollcjaaaGreatDoor.C10
namespace Go.Proofs.YtdiaabeollcjaaaGreatDoor.C10
open Go.ChangeShapes Go.WideShapes Go.Deep Go.RowKit
def IfB (P:Prop) (w:World) (e:Ending) (w':World):Prop:=∃ b,e = .returned (.bool b)∧(P→b=true)∧Below w.heap.size w w'
theorem sameFile_any (y z:File) (w:World) (hy:SlAt RU8 w y.bytes.A y.bytes.n y.bytes.l) (hz:SlAt RU8 w z.bytes.A z.bytes.n z.bytes.l) :
  Calls Tryz.prog 49 #[.agg #[.string y.path,.bool y.run,.slice y.bytes.A y.bytes.n y.bytes.cap],.agg #[.string z.path,.bool z.run,.slice z.bytes.A z.bytes.n z.bytes.cap]] w (IfB (flat y=flat z) w):=by
 obtain⟨Z,hZ⟩:∃ Z,IfB (flat y=flat z) w=Z:=⟨_,rfl⟩;have hZ':∀ e W,IfB (flat y=flat z) w e W→Z e W:=fun e W h=>by rw[← hZ];exact h
 rw[hZ];clear hZ;obtain⟨yp,yr,⟨yA,yn,yc,yl⟩⟩:=y;obtain⟨zp,zr,⟨zA,zn,zc,zl⟩⟩:=z;simp only at hy hz ⊢;have hb2:∀ o1 o2,Below w.heap.size w ((w.alloc o1).alloc o2):=fun o1 o2=>((Below.refl _ _).alloc (Nat.le_refl _) _).alloc (by simp) _;obtain⟨b1,h1⟩:∃ b,(yp.toList==zp.toList)=b:=⟨_,rfl⟩;obtain⟨b2,h2⟩:∃ b,(yr==zr)=b:=⟨_,rfl⟩;obtain⟨b3,h3⟩:∃ b,(yl==zl)=b:=⟨_,rfl⟩;have R:∀ b W,((b1=true∧b2=true∧b3=true)→b=true)→Below w.heap.size w W→Z (.returned (.bool b)) W:=fun b W h hb=>hZ' _ _ ⟨b,rfl,fun e=>h (by
  unfold flat at e;simp only[Prod.mk.injEq]at e;obtain⟨e1,e2,e3⟩:=e;exact⟨by rw[← h1,e1];simp,by rw[← h2,e2];simp,by rw[← h3,e3];simp⟩),hb⟩
 have hc:=eqB_any yA zA yn yc zn zc yl zl ((w.alloc (.cells #[.string yp,.bool yr,.slice yA yn yc] 58)).alloc (.cells #[.string zp,.bool zr,.slice zA zn zc] 58)) (hy.below (hb2 _ _)) (hz.below (hb2 _ _));rw[h3]at hc;obtain⟨hZ'H,hyH,hzH,hb2H,RH,hcH⟩:=hq2 hZ' (hqb hy hz hb2 R (Lib.hid hc));clear hZ' hy hz hb2 R hc
 cases b1
 ·go_enter Tryz.func49,Tryz.ntmps49;go_wp2_with fail;exact RH.out _ _ (fun h=>by cases h.1) (hb2H.out _ _)
 ·cases b2
  ·go_enter Tryz.func49,Tryz.ntmps49;go_wp2_with fail;exact RH.out _ _ (fun h=>by cases h.2.1) (hb2H.out _ _)
  ·go_enter Tryz.func49,Tryz.ntmps49;go_wp2_with fail;refine hcH.out.mono ?_;rintro e w3 ⟨rfl,rfl⟩;go_wp2_with fail;exact RH.out _ _ (fun h=>h.2.2) (hb2H.out _ _)
def SfRel (n:Nat) (w0:World) (i:Value) (wr:World):Prop:=∃ k:Nat,k≤n∧i = .int .i64 k∧Below w0.heap.size w0 wr
theorem sameFiles_any (A1 A2:Option Addr) (n1 c1 n2 c2:Nat) (l1 l2:List File) (w:World) (h1:SlAt RFile w A1 n1 l1) (h2:SlAt RFile w A2 n2 l2) (hn1:n1≤maxLen) (hn2:n2≤maxLen) :
  Calls Tryz.prog 26 #[.slice A1 n1 c1,.slice A2 n2 c2] w (IfB (l1.map flat=l2.map flat) w):=by
 obtain⟨Z,hZ⟩:∃ Z,IfB (l1.map flat=l2.map flat) w=Z:=⟨_,rfl⟩;have hZ':∀ e W,IfB (l1.map flat=l2.map flat) w e W→Z e W:=fun e W h=>by rw[← hZ];exact h
 rw[hZ];clear hZ;unfold maxLen at hn1 hn2;have m1:=h1.1;have m2:=h2.1
 by_cases hnn:n1=n2
 ·subst hnn;obtain⟨hZ'H,h1H,h2H⟩:=hq2 hZ' (hq2 h1 (Lib.hid h2));clear hZ' h1 h2;go_enter Tryz.func26,Tryz.ntmps26;go_wp2_with fail
  go_loopw [5] (fun i wr=>SfRel n1 w i wr) (fun i _=>n1-(intOf i).toNat)
  case atStart=>exact⟨0,Nat.zero_le _,rfl,Below.refl _ _⟩
  case round =>
   obtain⟨k,hk,rfl,hb⟩:=hrel
   by_cases hlt:k<n1
   ·obtain⟨y,hy⟩:∃ y,l1[k]? = some y:=⟨l1[k]'(by omega),List.getElem?_eq_getElem _⟩;obtain⟨z,hz⟩:∃ z,l2[k]? = some z:=⟨l2[k]'(by omega),List.getElem?_eq_getElem _⟩;have g1:=h1H.out.below hb;have g2:=h2H.out.below hb;obtain⟨b1,o1,hA1,_⟩:=g1.2.1 (by omega);obtain⟨b2,o2,hA2,_⟩:=g2.2.1 (by omega);subst hA1;subst hA2;obtain⟨a0,a1,a2⟩:=cells_File g1 hy;obtain⟨d0,d1,d2⟩:=cells_File g2 hz;have oy:=(g1.2.2 y (List.mem_of_getElem? hy)).2.2;have oz:=(g2.2.2 z (List.mem_of_getElem? hz)).2.2;have hcl:=sameFile_any y z wr.drew (oy.1.below (Below.refl wr.heap.size wr).drew) (oz.1.below (Below.refl wr.heap.size wr).drew);obtain⟨yp,yr,⟨yA,yn,yc,yl⟩⟩:=y;obtain⟨zp,zr,⟨zA,zn,zc,zl⟩⟩:=z;simp only at a0 a1 a2 d0 d1 d2 hcl;have Rn:∀ W,Below w.heap.size w W→SfRel n1 w (.int .i64 ((k:Int)+1)) W:=fun W h=>⟨k+1,by omega,by go_num,h⟩;have Rf:∀ (b:Bool) W,(flat (⟨yp,yr,⟨yA,yn,yc,yl⟩⟩:File)=flat (⟨zp,zr,⟨zA,zn,zc,zl⟩⟩:File)→b=true)→b=false→Below w.heap.size w W→Z (.returned (.bool false)) W:=fun b W h hbf hW=>hZ'H.out _ _ ⟨false,rfl,fun e=>by
     have h3:(l1.map flat)[k]? = (l2.map flat)[k]?:=by rw[e]
     rw[List.getElem?_map,List.getElem?_map,hy,hz]at h3;injection h3 with h3;exact hbf.symm.trans (h h3),hW⟩
    have hbd:Below w.heap.size w wr.drew:=hb.trans ((Below.refl wr.heap.size wr).drew.mono hb.size);obtain⟨hbH,hyH,hzH,g1H,g2H,oyH,ozH,hclH,RnH,RfH,hbdH⟩:=hq2 hb (hq2 hy (hqc hz g1 g2 oy oz hcl Rn Rf (Lib.hid hbd)));clear hb hy hz g1 g2 oy oz hcl Rn Rf hbd;go_wp2_with fail;refine startR (R:=Rk (fun _=>True) (fun w'=>(w'.cell? ⟨b1,o1+k*3,none⟩=some (.string yp)∧w'.cell? ⟨b1,o1+k*3+1,none⟩=some (.bool yr)∧w'.cell? ⟨b1,o1+k*3+2,none⟩=some (.slice yA yn yc))∧(w'.cell? ⟨b2,o2+k*3,none⟩=some (.string zp)∧w'.cell? ⟨b2,o2+k*3+1,none⟩=some (.bool zr)∧w'.cell? ⟨b2,o2+k*3+2,none⟩=some (.slice zA zn zc))) 99 99) (by kernel_rfl) ?_;have hC:(wr.drew.cell? ⟨b1,o1+k*3,none⟩=some (.string yp)∧wr.drew.cell? ⟨b1,o1+k*3+1,none⟩=some (.bool yr)∧wr.drew.cell? ⟨b1,o1+k*3+2,none⟩=some (.slice yA yn yc))∧(wr.drew.cell? ⟨b2,o2+k*3,none⟩=some (.string zp)∧wr.drew.cell? ⟨b2,o2+k*3+1,none⟩=some (.bool zr)∧wr.drew.cell? ⟨b2,o2+k*3+2,none⟩=some (.slice zA zn zc)):=⟨⟨a0,a1,a2⟩,⟨d0,d1,d2⟩⟩;refine takeC (i:=0) (d:=some 17) (v:=?_) rfl rfl (by kernel_rfl) (by kernel_rfl) (by kernel_rfl) (by kernel_rfl) (fun _ _ _ h=>h) (Or.inl ⟨by rfl,?_⟩) hC ?_
    rotate_left
    ·(intro w hSw;(try dsimp only at hSw);go_simp;(try with_reducible rfl))
    (try simp only[Act.put,List.setIfInBounds_toArray,List.set_cons_zero,List.set_cons_succ])
    refine takeC (i:=1) (d:=some 18) (v:=?_) rfl rfl (by kernel_rfl) (by kernel_rfl) (by kernel_rfl) (by kernel_rfl) (fun _ _ _ h=>h) (Or.inl ⟨by rfl,?_⟩) hC ?_
    rotate_left
    ·(intro w hSw;(try dsimp only at hSw);go_simp;(try with_reducible rfl))
    (try simp only[Act.put,List.setIfInBounds_toArray,List.set_cons_zero,List.set_cons_succ])
    refine takeC (i:=2) (d:=some 19) (v:=?_) rfl rfl (by kernel_rfl) (by kernel_rfl) (by kernel_rfl) (by kernel_rfl) (fun _ _ _ h=>h) (Or.inl ⟨by rfl,?_⟩) hC ?_
    rotate_left
    ·(intro w hSw;(try dsimp only at hSw);go_simp;(try with_reducible rfl))
    (try simp only[Act.put,List.setIfInBounds_toArray,List.set_cons_zero,List.set_cons_succ])
    refine takeC (i:=3) (d:=some 20) (v:=?_) rfl rfl (by kernel_rfl) (by kernel_rfl) (by kernel_rfl) (by kernel_rfl) (fun _ _ _ h=>h) (Or.inl ⟨by rfl,?_⟩) hC ?_
    rotate_left
    ·(intro w hSw;(try dsimp only at hSw);go_simp;(try with_reducible rfl))
    (try simp only[Act.put,List.setIfInBounds_toArray,List.set_cons_zero,List.set_cons_succ])
    refine takeC (i:=4) (d:=some 21) (v:=?_) rfl rfl (by kernel_rfl) (by kernel_rfl) (by kernel_rfl) (by kernel_rfl) (fun _ _ _ h=>h) (Or.inl ⟨by rfl,?_⟩) hC ?_
    rotate_left
    ·(intro w hSw;(try dsimp only at hSw);go_simp;(try with_reducible rfl))
    (try simp only[Act.put,List.setIfInBounds_toArray,List.set_cons_zero,List.set_cons_succ])
    refine takeC (i:=5) (d:=some 22) (v:=?_) rfl rfl (by kernel_rfl) (by kernel_rfl) (by kernel_rfl) (by kernel_rfl) (fun _ _ _ h=>h) (Or.inl ⟨by rfl,?_⟩) hC ?_
    rotate_left
    ·(intro w hSw;(try dsimp only at hSw);go_simp;(try with_reducible rfl))
    (try simp only[Act.put,List.setIfInBounds_toArray,List.set_cons_zero,List.set_cons_succ])
    refine takeC (i:=6) (d:=some 23) (v:=?_) rfl rfl (by kernel_rfl) (by kernel_rfl) (by kernel_rfl) (by kernel_rfl) (fun _ _ _ h=>h) (Or.inl ⟨by rfl,?_⟩) hC ?_
    rotate_left
    ·(intro w hSw;(try dsimp only at hSw);go_simp;(try with_reducible rfl))
    (try simp only[Act.put,List.setIfInBounds_toArray,List.set_cons_zero,List.set_cons_succ])
    refine takeC (i:=7) (d:=some 24) (v:=?_) rfl rfl (by kernel_rfl) (by kernel_rfl) (by kernel_rfl) (by kernel_rfl) (fun _ _ _ h=>h) (Or.inl ⟨by rfl,?_⟩) hC ?_
    rotate_left
    ·(intro w hSw;(try dsimp only at hSw);go_simp;(try with_reducible rfl))
    (try simp only[Act.put,List.setIfInBounds_toArray,List.set_cons_zero,List.set_cons_succ])
    refine oneR (i:=8) (by kernel_rfl) rfl (fun K hK=>?_);go_simp;go_at_call 49;refine hclH.out.mono ?_;rintro e W ⟨bb,rfl,hbb,hbW⟩;have hbW2:Below w.heap.size w W:=hbdH.out.trans (hbW.mono hbdH.out.size);have Rf:=RfH.out bb W hbb;have Rn:=RnH.out W hbW2;have hC1:(W.cell? ⟨b1,o1+k*3,none⟩=some (.string yp)∧W.cell? ⟨b1,o1+k*3+1,none⟩=some (.bool yr)∧W.cell? ⟨b1,o1+k*3+2,none⟩=some (.slice yA yn yc))∧(W.cell? ⟨b2,o2+k*3,none⟩=some (.string zp)∧W.cell? ⟨b2,o2+k*3+1,none⟩=some (.bool zr)∧W.cell? ⟨b2,o2+k*3+2,none⟩=some (.slice zA zn zc)):=⟨⟨keepC hbW a0,keepC hbW a1,keepC hbW a2⟩,⟨keepC hbW d0,keepC hbW d1,keepC hbW d2⟩⟩;clear hbb hbW;obtain⟨RfH,RnH,hbW2H⟩:=hq2 Rf (hq2 Rn (Lib.hid hbW2));clear Rf Rn hbW2;refine hK.out _ _ ⟨fun _ _ _=>trivial,fun _ _=>hC1⟩ ?_;clear hK K
    (try simp only[Act.put,List.setIfInBounds_toArray,List.set_cons_zero,List.set_cons_succ])
    cases bb
    ·refine oneR (i:=9) (by kernel_rfl) rfl (fun K hK=>?_);go_simp;refine hK.out _ _ ⟨fun _ _ _=>trivial,fun _ h=>h⟩ ?_;clear hK K
     (try simp only[Act.put,List.setIfInBounds_toArray,List.set_cons_zero,List.set_cons_succ])
     refine doneR (by kernel_rfl) ?_ _;clear hC hC1 a0 a1 a2 d0 d1 d2;go_wp2_with fail;exact RfH.out trivial hbW2H.out
    ·refine oneR (i:=9) (by kernel_rfl) rfl (fun K hK=>?_);go_simp;refine hK.out _ _ ⟨fun _ _ _=>trivial,fun _ h=>h⟩ ?_;clear hK K
     (try simp only[Act.put,List.setIfInBounds_toArray,List.set_cons_zero,List.set_cons_succ])
     refine doneR (by kernel_rfl) ?_ _;clear hC hC1 a0 a1 a2 d0 d1 d2;go_wp2_with fail;exact⟨RnH.out,by simp[intOf];omega⟩
   ·have R:=hZ'H.out (.returned (.bool true)) wr ⟨true,rfl,fun _=>rfl,hb⟩;obtain⟨hbH,RH⟩:=hq2 hb (Lib.hid R);clear hb R;go_wp2_with fail;exact RH.out
 ·have hne:¬ (n1:Int)=(n2:Int):=by omega
  have R:=hZ' (.returned (.bool false)) w ⟨false,rfl,fun e=>by
   have:=congrArg List.length e;rw[List.length_map,List.length_map]at this;omega,Below.refl _ _⟩
  obtain⟨hZ'H,h1H,h2H,RH⟩:=hq2 hZ' (hq2 h1 (hq2 h2 (Lib.hid R)));clear hZ' h1 h2 R;go_enter Tryz.func26,Tryz.ntmps26;go_wp2_with fail;exact RH.out
theorem cells_Lk {w:World} {b off n:Nat} {l:List Lk} (h:SlAt RLk w (some ⟨b,off,none⟩) n l) {k:Nat} {x:Lk} (hx:l[k]? = some x) :
  w.cell? ⟨b,off+k*3,none⟩=some (.string x.path)∧w.cell? ⟨b,off+k*3+1,none⟩=some (.string x.digest)∧w.cell? ⟨b,off+k*3+2,none⟩=some (.bool x.run):=by
 obtain⟨hi,_⟩:=List.getElem?_eq_some_iff.1 hx;obtain⟨b',o',hA,hc⟩:=h.2.1 (by have:=h.1;omega);injection hA with hA;injection hA with h1 h2 _;subst h1 h2;exact⟨hc k x hx 0 _ rfl,hc k x hx 1 _ rfl,hc k x hx 2 _ rfl⟩
theorem sameLooks_any (A1 A2:Option Addr) (n1 c1 n2 c2:Nat) (l1 l2:List Lk) (w:World) (h1:SlAt RLk w A1 n1 l1) (h2:SlAt RLk w A2 n2 l2) (hn1:n1≤maxLen) (hn2:n2≤maxLen) :
  Calls Tryz.prog 27 #[.slice A1 n1 c1,.slice A2 n2 c2] w (IfB (l1=l2) w):=by
 obtain⟨Z,hZ⟩:∃ Z,IfB (l1=l2) w=Z:=⟨_,rfl⟩;have hZ':∀ e W,IfB (l1=l2) w e W→Z e W:=fun e W h=>by rw[← hZ];exact h
 rw[hZ];clear hZ;unfold maxLen at hn1 hn2;have m1:=h1.1;have m2:=h2.1
 by_cases hnn:n1=n2
 ·subst hnn;obtain⟨hZ'H,h1H,h2H⟩:=hq2 hZ' (hq2 h1 (Lib.hid h2));clear hZ' h1 h2;go_enter Tryz.func27,Tryz.ntmps27;go_wp2_with fail
  go_loopw [5] (fun i wr=>SfRel n1 w i wr) (fun i _=>n1-(intOf i).toNat)
  case atStart=>exact⟨0,Nat.zero_le _,rfl,Below.refl _ _⟩
  case round =>
   obtain⟨k,hk,rfl,hb⟩:=hrel
   by_cases hlt:k<n1
   ·obtain⟨y,hy⟩:∃ y,l1[k]? = some y:=⟨l1[k]'(by omega),List.getElem?_eq_getElem _⟩;obtain⟨z,hz⟩:∃ z,l2[k]? = some z:=⟨l2[k]'(by omega),List.getElem?_eq_getElem _⟩;have g1:=h1H.out.below hb;have g2:=h2H.out.below hb;obtain⟨b1,o1,hA1,_⟩:=g1.2.1 (by omega);obtain⟨b2,o2,hA2,_⟩:=g2.2.1 (by omega);subst hA1;subst hA2;obtain⟨a0,a1,a2⟩:=cells_Lk g1 hy;obtain⟨d0,d1,d2⟩:=cells_Lk g2 hz;obtain⟨yp,yd,yr⟩:=y;obtain⟨zp,zd,zr⟩:=z;simp only at a0 a1 a2 d0 d1 d2;have Rn:∀ nq,SfRel n1 w (.int .i64 ((k:Int)+1)) (wr.drewN nq):=fun nq=>⟨k+1,by omega,by go_num,bel_drewN hb nq⟩;have Rf:∀ nq,¬ ((⟨yp,yd,yr⟩:Lk)=⟨zp,zd,zr⟩)→Z (.returned (.bool false)) (wr.drewN nq):=fun nq h=>hZ'H.out _ _ ⟨false,rfl,fun e=>by
     subst e;rw[hy]at hz;injection hz with hz;exact absurd hz h,bel_drewN hb nq⟩
    obtain⟨q1,e1⟩:∃ b,(yp.toList==zp.toList)=b:=⟨_,rfl⟩;obtain⟨q2,e2⟩:∃ b,(yd.toList==zd.toList)=b:=⟨_,rfl⟩;obtain⟨q3,e3⟩:∃ b,(yr==zr)=b:=⟨_,rfl⟩;have hq:q1=false∨q2=false∨q3=false→¬ ((⟨yp,yd,yr⟩:Lk)=⟨zp,zd,zr⟩):=fun h e=>by
     injection e with u1 u2 u3;subst u1 u2 u3;simp at e1 e2 e3
     rcases h with h | h | h
     ·rw[e1]at h;cases h
     ·rw[e2]at h;cases h
     ·rw[e3]at h;cases h
    obtain⟨hbH,hyH,hzH,g1H,g2H,RnH,RfH,hqH⟩:=hq2 hb (hq2 hy (hq2 hz (hqb g1 g2 Rn Rf (Lib.hid hq))));clear hb hy hz g1 g2 Rn Rf hq
    cases q1 <;> cases q2 <;> cases q3
    all_goals (go_wp2_with fail)
    all_goals (go_quiet (fail))
    all_goals (go_wp2_with fail)
    all_goals first
     | exact⟨RnH.out _,by simp[intOf];omega⟩
     | exact RfH.out _ (hqH.out (by simp))
   ·have R:=hZ'H.out (.returned (.bool true)) wr ⟨true,rfl,fun _=>rfl,hb⟩;obtain⟨hbH,RH⟩:=hq2 hb (Lib.hid R);clear hb R;go_wp2_with fail;exact RH.out
 ·have hne:¬ (n1:Int)=(n2:Int):=by omega
  have R:=hZ' (.returned (.bool false)) w ⟨false,rfl,fun e=>by rw[e]at m1;omega,Below.refl _ _⟩;obtain⟨hZ'H,h1H,h2H,RH⟩:=hq2 hZ' (hq2 h1 (hq2 h2 (Lib.hid R)));clear hZ' h1 h2 R;go_enter Tryz.func27,Tryz.ntmps27;go_wp2_with fail;exact RH.out
structure Rs where
 code:Int
 told:ByteArray
 FA:Option Addr
 Fn:Nat
 Fc:Nat
 LA:Option Addr
 Ln:Nat
 Lc:Nat
 cmd:Int
 fs:List File
 ls:List Lk
def Rs.cells (r:Rs):List Value:=[.int .i64 r.code,.string r.told,.slice r.FA r.Fn r.Fc,.slice r.LA r.Ln r.Lc,.int .i64 r.cmd]
structure Rs.ok (r:Rs) (w:World):Prop where
 f:(RSl RFile).ok w ⟨r.FA,r.Fn,r.Fc,r.fs⟩
 l:(RSl RLk).ok w ⟨r.LA,r.Ln,r.Lc,r.ls⟩
theorem Rs.ok.fn {r:Rs} {w:World} (h:r.ok w):r.Fn≤maxLen:=Nat.le_trans h.f.2.1 h.f.2.2.1
theorem Rs.ok.ln {r:Rs} {w:World} (h:r.ok w):r.Ln≤maxLen:=Nat.le_trans h.l.2.1 h.l.2.2.1
theorem Rs.ok.below {r:Rs} {w w':World} (h:r.ok w) (hb:Below w.heap.size w w'):r.ok w':=⟨(RSl RFile).mono _ _ _ hb h.f,(RSl RLk).mono _ _ _ hb h.l⟩
def Rs.same (a b:Rs):Prop:=a.code=b.code∧a.told=b.told∧a.fs.map flat=b.fs.map flat∧a.ls=b.ls∧a.cmd=b.cmd
theorem sameResult_any (a b:Rs) (w:World) (ha:a.ok w) (hb:b.ok w) :
  Calls Tryz.prog 9 #[.agg a.cells.toArray,.agg b.cells.toArray] w (IfB (a.same b) w):=by
 obtain⟨Z,hZ⟩:∃ Z,IfB (a.same b) w=Z:=⟨_,rfl⟩;have hZ':∀ e W,IfB (a.same b) w e W→Z e W:=fun e W h=>by rw[← hZ];exact h
 rw[hZ];clear hZ;obtain⟨w0,hw0⟩:∃ W,(w.alloc (.cells a.cells.toArray 30)).alloc (.cells b.cells.toArray 30)=W:=⟨_,rfl⟩;have hb0:Below w.heap.size w w0:=by rw[← hw0];exact((Below.refl _ _).alloc (Nat.le_refl _) _).alloc (by simp) _
 have hz1:Blk w0 w.heap.size a.cells:=by
  have h:=blk_new w a.cells 30;rw[← hw0];exact blk_below h (by simp[Rs.cells]) ((Below.refl _ _).alloc (Nat.le_refl _) _)
 have hz2:Blk w0 (w.heap.size+1) b.cells:=by
  have h:=blk_new (w.alloc (.cells a.cells.toArray 30)) b.cells 30;rw[← hw0]
  simpa using h
 have fa:=(ha.below hb0);have fb:=(hb.below hb0);have hcf:=sameFiles_any a.FA b.FA a.Fn a.Fc b.Fn b.Fc a.fs b.fs w0 fa.f.1 fb.f.1 fa.fn fb.fn;have hcl:∀ W,Below w0.heap.size w0 W→_:=fun W hW=>sameLooks_any a.LA b.LA a.Ln a.Lc b.Ln b.Lc a.ls b.ls W ((fa.below hW).l.1) ((fb.below hW).l.1) fa.ln fb.ln;obtain⟨ac,at_,aFA,aFn,aFc,aLA,aLn,aLc,ak,afs,als⟩:=a;obtain⟨bc,bt,bFA,bFn,bFc,bLA,bLn,bLc,bk,bfs,bls⟩:=b;simp only[Rs.cells]at hw0 hz1 hz2 hcf hcl ⊢;obtain⟨q1,e1⟩:∃ q:Bool,decide (ac=bc)=q:=⟨_,rfl⟩;obtain⟨q2,e2⟩:∃ q,(at_.toList==bt.toList)=q:=⟨_,rfl⟩;obtain⟨q5,e5⟩:∃ q:Bool,decide (ak=bk)=q:=⟨_,rfl⟩;have R:∀ (q:Bool) W,((q1=true∧q2=true∧afs.map flat=bfs.map flat∧als=bls∧q5=true)→q=true)→Below w.heap.size w W→Z (.returned (.bool q)) W:=fun q W h hW=>hZ' _ _ ⟨q,rfl,fun hs=>h ⟨by rw[← e1];exact decide_eq_true hs.1,by rw[← e2];have h2:at_=bt:=hs.2.1;rw[h2];simp,hs.2.2.1,hs.2.2.2.1,by rw[← e5];exact decide_eq_true hs.2.2.2.2⟩,hW⟩;obtain⟨s0,_⟩:=hz1 0 _ rfl;obtain⟨s1,_⟩:=hz1 1 _ rfl;obtain⟨s2,_⟩:=hz1 2 _ rfl;obtain⟨s3,_⟩:=hz1 3 _ rfl;obtain⟨s4,_⟩:=hz1 4 _ rfl;obtain⟨t0,_⟩:=hz2 0 _ rfl;obtain⟨t1,_⟩:=hz2 1 _ rfl;obtain⟨t2,_⟩:=hz2 2 _ rfl;obtain⟨t3,_⟩:=hz2 3 _ rfl;obtain⟨t4,_⟩:=hz2 4 _ rfl;have hs0:w0.heap.size=w.heap.size+2:=by rw[← hw0];simp
 have hlt1:w.heap.size<w0.heap.size:=by omega
 have hlt2:w.heap.size+1<w0.heap.size:=by omega
 have e1':(ac==bc)=q1:=by rw[← e1];by_cases h:ac=bc <;> simp[h]
 have e5':(ak==bk)=q5:=by rw[← e5];by_cases h:ak=bk <;> simp[h]
 clear e1 e5;obtain⟨hZ'H,haH,hbH,hb0H,hz1H,hz2H,faH,fbH,hcfH,hclH,RH⟩:=hq2 hZ' (hq2 ha (hqc hb hb0 hz1 hz2 fa fb hcf hcl (Lib.hid R)));clear hZ' ha hb hb0 hz1 hz2 fa fb hcf hcl R
 cases q1
 ·go_enter Tryz.func9,Tryz.ntmps9;go_wp2_with fail;exact RH.out _ _ (fun h=>by cases h.1) hb0H.out
 ·cases q2
  ·go_enter Tryz.func9,Tryz.ntmps9;go_wp2_with fail;exact RH.out _ _ (fun h=>by cases h.2.1) hb0H.out
  ·go_enter Tryz.func9,Tryz.ntmps9;go_wp2_with fail;refine hcfH.out.mono ?_;rintro e w1 ⟨b3,rfl,h3,hb1⟩;have hb01:=hb0H.out.trans (hb1.mono hb0H.out.size);have hcl1:=hclH.out w1 hb1;have hz1':=blk_below hz1H.out (by simp) hb1;have hz2':=blk_below hz2H.out (by simp) hb1;clear s0 s1 s2 s3 s4 t0 t1 t2 t3 t4;obtain⟨s3,_⟩:=hz1' 3 _ rfl;obtain⟨s4,_⟩:=hz1' 4 _ rfl;obtain⟨t3,_⟩:=hz2' 3 _ rfl;obtain⟨t4,_⟩:=hz2' 4 _ rfl;obtain⟨h3H,hb1H,hb01H,hcl1H,hz1'H,hz2'H⟩:=hq2 h3 (hqb hb1 hb01 hcl1 hz1' (Lib.hid hz2'));clear h3 hb1 hb01 hcl1 hz1' hz2'
   cases b3
   ·go_wp2_with fail;exact RH.out _ _ (fun h=>by cases h3H.out h.2.2.1) hb01H.out
   ·go_wp2_with fail;refine hcl1H.out.mono ?_;rintro e w2 ⟨b4,rfl,h4,hb2⟩;have hb02:=hb01H.out.trans (hb2.mono hb01H.out.size);have hz1'':=blk_below hz1'H.out (by simp) hb2;have hz2'':=blk_below hz2'H.out (by simp) hb2;clear s3 s4 t3 t4;obtain⟨s4,_⟩:=hz1'' 4 _ rfl;obtain⟨t4,_⟩:=hz2'' 4 _ rfl;obtain⟨h4H,hb2H,hb02H,hz1''H,hz2''H⟩:=hqb h4 hb2 hb02 hz1'' (Lib.hid hz2'');clear h4 hb2 hb02 hz1'' hz2''
    cases b4
    ·go_wp2_with fail;exact RH.out _ _ (fun h=>by cases h4H.out h.2.2.2.1) hb02H.out
    ·cases q5
     ·go_wp2_with fail;exact RH.out _ _ (fun h=>by cases h.2.2.2.2) hb02H.out
     ·go_wp2_with fail;exact RH.out _ _ (fun _=>rfl) hb02H.out
end Go.Proofs.YtdiaabeollcjaaaGreatDoor.C10