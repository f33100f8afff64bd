/-
 Several texts of mine as one, without what is not wanted here: XRnA, XRnS.
-/
import Derived.Test.YtcdpdaloceengaaGreatDoorKrDC10
set_option linter.unusedVariables false
set_option linter.unusedSimpArgs false
set_option maxRecDepth 100000
set_option maxHeartbeats 8000000
namespace Go.Proofs.YtcdpdaloceengaaGreatDoor.C10
open Go.RowKit Go.Maps
def shkB (O:List TestRun) (k:Nat):Bool:=match O[k]? with | some x=>(O.take k).any fun y=>decide (y.key=x.key)&&(y.pass != x.pass) | none=>false
def atK (O:List TestRun) (k:Nat):Int:=((O[k]?).map (·.at_)).getD 0
def shL (O:List TestRun) (frm i:Nat):List Int:=((List.range i).filter fun k=>decide (frm≤k)&&shkB O k).map (atK O)
structure RA where
 aside:Bool
 row:Int
 frm:Nat
def ra0:RA:=⟨false,0,0⟩
def cntS (O:List TestRun) (frm i:Nat) (lo:Int):Nat:=((shL O frm i).filter fun t=>!decide (t≤lo)).length
section
variable (many window good:Int)
def raStep (O:List TestRun) (i:Nat) (r:TestRun) (s:RA):RA :=
 if s.aside=true then (if good≤(if r.pass=true then s.row+1 else 0) then ⟨false,if r.pass=true then s.row+1 else 0,i+1⟩ else ⟨true,if r.pass=true then s.row+1 else 0,s.frm⟩)
 else if many≤(cntS O s.frm (i+1) (r.at_-window):Int) then ⟨true,0,s.frm⟩ else s
def raK (O:List TestRun):Nat→RA
 | 0=>ra0
 | k+1=>match O[k]? with
  | some r=>raStep many window good O k r (raK O k)
  | none=>raK O k
def hsO (O:List TestRun):Nat→Hst
 | 0=>hst0
 | k+1=>match O[k]? with
  | some r=>stepH many window good (shkB O k) r (hsO O k)
  | none=>hsO O k
variable {many window good}
theorem raK_succ {O:List TestRun} {k:Nat} {r:TestRun} (h:O[k]? = some r):raK many window good O (k+1)=raStep many window good O k r (raK many window good O k):=by rw[raK,h]
theorem hsO_succ {O:List TestRun} {k:Nat} {r:TestRun} (h:O[k]? = some r):hsO many window good O (k+1)=stepH many window good (shkB O k) r (hsO many window good O k):=by rw[hsO,h]
theorem shL_succ (O:List TestRun) (frm i:Nat) (h:frm≤i):shL O frm (i+1)=shL O frm i++if shkB O i=true then [atK O i] else []:=by
 unfold shL;rw[List.range_succ,List.filter_append,List.map_append]
 congr 1
 cases e:shkB O i
 ·simp[e]
 ·simp[e,h]
theorem shL_self (O:List TestRun) (i:Nat):shL O i i = []:=by
 unfold shL;rw[List.map_eq_nil_iff,List.filter_eq_nil_iff];intro a ha;rw[List.mem_range]at ha;simp;omega
theorem filter_two (l:List Int) {a b:Int} (h:a≤b):(l.filter fun t=>!decide (t≤a)).filter (fun t=>!decide (t≤b))=l.filter fun t=>!decide (t≤b):=by
 rw[List.filter_filter];refine List.filter_congr fun t _=>?_;simp;omega
structure BothA (O:List TestRun) (k:Nat):Prop where
 aside:(hsO many window good O k).aside=(raK many window good O k).aside
 row:(raK many window good O k).aside=true→(hsO many window good O k).good=(raK many window good O k).row
 frm:(raK many window good O k).aside=false→(raK many window good O k).frm≤k
 sh:(raK many window good O k).aside=false→∀ lo,(∀ j r,j<k→O[j]? = some r→r.at_-window≤lo)→(hsO many window good O k).sh.filter (fun t=>!decide (t≤lo))=(shL O (raK many window good O k).frm k).filter fun t=>!decide (t≤lo)
theorem both_a {O:List TestRun} (hr:O.Pairwise fun a b=>a.at_≤b.at_):∀ k,BothA (many:=many) (window:=window) (good:=good) O k
 | 0=>⟨rfl,(fun h=>by cases h),(fun _=>Nat.le_refl _),fun _ lo _=>rfl⟩
 | k+1=>by
  have ih:=both_a hr k
  cases hk:O[k]? with
  | none =>
   have e1:raK many window good O (k+1)=raK many window good O k:=by rw[raK,hk]
   have e2:hsO many window good O (k+1)=hsO many window good O k:=by rw[hsO,hk]
   have hs:shkB O k=false:=by unfold shkB;rw[hk]
   refine⟨by rw[e1,e2];exact ih.aside,by rw[e1,e2];exact ih.row,fun h=>?_,fun h lo hlo=>?_⟩
   ·rw[e1]at h ⊢;have:=ih.frm h;omega
   ·rw[e1]at h ⊢;rw[e2,shL_succ _ _ _ (ih.frm h),hs,if_neg (by decide),List.append_nil];exact ih.sh h lo fun j r hj=>hlo j r (by omega)
  | some r =>
   have hle:∀ j s,j<k→O[j]? = some s→s.at_≤r.at_:=fun j s hj hs=>by
    rw[List.pairwise_iff_getElem]at hr;obtain⟨j1,j2⟩:=List.getElem?_eq_some_iff.1 hs;obtain⟨k1,k2⟩:=List.getElem?_eq_some_iff.1 hk;have:=hr j k j1 k1 hj;rw[j2,k2]at this;exact this
   have ha:atK O k=r.at_:=by unfold atK;rw[hk];rfl
   obtain⟨i1,i2,i3,i4⟩:=ih;have e1:=raK_succ (many:=many) (window:=window) (good:=good) hk;have e2:=hsO_succ (many:=many) (window:=window) (good:=good) hk
   generalize hA:raK many window good O k=A at i1 i2 i3 i4 e1
   generalize hH:hsO many window good O k=H at i1 i2 i4 e2
   obtain⟨sh,asd,gd⟩:=H;obtain⟨asd',rw',fm⟩:=A;simp only at i1 i2 i3 i4;subst i1;unfold raStep at e1;unfold stepH at e2;simp only at e1 e2
   cases asd
   ·-- nobody has put it aside
    rw[if_neg (by decide)]at e1 e2;have hf:=i3 rfl;have hsh:=i4 rfl;have hc:((if shkB O k=true then sh ++ [r.at_] else sh).filter fun t=>!decide (t≤r.at_-window))=(shL O fm (k+1)).filter fun t=>!decide (t≤r.at_-window):=by
     rw[shL_succ _ _ _ hf,List.filter_append,← hsh (r.at_-window) (fun j s hj hs=>by have:=hle j s hj hs;omega),ha]
     split
     ·rw[List.filter_append]
     ·simp
    rw[hc]at e2;have hcn:cntS O fm (k+1) (r.at_-window)=((shL O fm (k+1)).filter fun t=>!decide (t≤r.at_-window)).length:=rfl;rw[hcn]at e1
    by_cases hm:many≤(((shL O fm (k+1)).filter fun t=>!decide (t≤r.at_-window)).length:Int)
    ·rw[if_pos hm]at e1 e2;refine⟨by rw[e1,e2],(fun _=>by rw[e1,e2]),(fun h=>by rw[e1]at h;cases h),(fun h=>by rw[e1]at h;cases h)⟩
    ·rw[if_neg hm]at e1 e2;refine⟨by rw[e1,e2],(fun h=>by rw[e1]at h;cases h),(fun _=>by rw[e1];simp only;omega),fun _ lo hlo=>?_⟩;rw[e1,e2];exact filter_two _ (hlo k r (by omega) hk)
   ·rw[if_pos rfl]at e1 e2;have hg:gd=rw':=i2 rfl;subst hg
    by_cases hm:good≤(if r.pass=true then gd+1 else 0)
    ·rw[if_pos hm]at e1 e2;refine⟨by rw[e1,e2],(fun h=>by rw[e1]at h;cases h),(fun _=>by rw[e1];exact Nat.le_refl _),fun _ lo hlo=>?_⟩;rw[e1,e2];simp only[shL_self]
    ·rw[if_neg hm]at e1 e2;exact⟨by rw[e1,e2],(fun _=>by rw[e1,e2]),(fun h=>by rw[e1]at h;cases h),(fun h=>by rw[e1]at h;cases h)⟩
theorem tal_pos:∀ (l:List TestRun) (t k:ByteArray),(0<(tal l (t,k)).1↔∃ y∈l,y.test=t∧y.key=k∧y.pass=true)∧(0<(tal l (t,k)).2↔∃ y∈l,y.test=t∧y.key=k∧y.pass=false)
 | [],t,k=>by simp[tal]
 | r::l,t,k=>by
  obtain⟨h1,h2⟩:=tal_pos l t k;have hn:=tal_nonneg l (t,k);unfold tal
  by_cases e:(r.test,r.key)=(t,k)
  ·rw[if_pos e];simp only[Prod.mk.injEq]at e
   cases hp:r.pass
   ·rw[if_neg (by decide)];refine⟨?_,?_⟩
    ·simp only;rw[h1]
     constructor
     ·rintro⟨y,hy,h⟩;exact⟨y,List.mem_cons_of_mem _ hy,h⟩
     ·rintro⟨y,hy,h⟩
      rcases List.mem_cons.1 hy with rfl | hy
      ·rw[hp]at h;exact absurd h.2.2 (by decide)
      ·exact⟨y,hy,h⟩
    ·exact⟨fun _=>⟨r,List.mem_cons_self,e.1,e.2,hp⟩,fun _=>by simp only;omega⟩
   ·rw[if_pos rfl];refine⟨?_,?_⟩
    ·exact⟨fun _=>⟨r,List.mem_cons_self,e.1,e.2,hp⟩,fun _=>by simp only;omega⟩
    ·simp only;rw[h2]
     constructor
     ·rintro⟨y,hy,h⟩;exact⟨y,List.mem_cons_of_mem _ hy,h⟩
     ·rintro⟨y,hy,h⟩
      rcases List.mem_cons.1 hy with rfl | hy
      ·rw[hp]at h;exact absurd h.2.2 (by decide)
      ·exact⟨y,hy,h⟩
  ·rw[if_neg e,h1,h2];simp only[Prod.mk.injEq]at e;refine⟨⟨?_,?_⟩,⟨?_,?_⟩⟩
   ·rintro⟨y,hy,h⟩;exact⟨y,List.mem_cons_of_mem _ hy,h⟩
   ·rintro⟨y,hy,h⟩
    rcases List.mem_cons.1 hy with rfl | hy
    ·exact absurd ⟨h.1,h.2.1⟩ e
    ·exact⟨y,hy,h⟩
   ·rintro⟨y,hy,h⟩;exact⟨y,List.mem_cons_of_mem _ hy,h⟩
   ·rintro⟨y,hy,h⟩
    rcases List.mem_cons.1 hy with rfl | hy
    ·exact absurd ⟨h.1,h.2.1⟩ e
    ·exact⟨y,hy,h⟩
def ownR (l:List TestRun) (s:ByteArray):List TestRun:=l.filter fun r=>decide (r.test=s)
theorem shaken_own (l:List TestRun) (r:TestRun):shakenB (tal l (r.test,r.key)) r.pass=(ownR l r.test).any fun y=>decide (y.key=r.key)&&(y.pass != r.pass):=by
 obtain⟨h1,h2⟩:=tal_pos l r.test r.key;rw[Bool.eq_iff_iff,List.any_eq_true];unfold shakenB ownR
 cases hp:r.pass
 ·simp only[Bool.false_and,Bool.false_or,Bool.not_false,Bool.true_and,decide_eq_true_eq,h1,List.mem_filter,Bool.and_eq_true,bne_iff_ne,ne_eq,Bool.not_eq_false]
  constructor
  ·rintro⟨y,a,b,c,d⟩;exact⟨y,⟨a,b⟩,c,d⟩
  ·rintro⟨y,⟨a,b⟩,c,d⟩;exact⟨y,a,b,c,d⟩
 ·simp only[Bool.true_and,Bool.not_true,Bool.false_and,Bool.or_false,decide_eq_true_eq,h2,List.mem_filter,Bool.and_eq_true,bne_iff_ne,ne_eq,Bool.not_eq_true]
  constructor
  ·rintro⟨y,a,b,c,d⟩;exact⟨y,⟨a,b⟩,c,d⟩
  ·rintro⟨y,⟨a,b⟩,c,d⟩;exact⟨y,a,b,c,d⟩
theorem shkB_app (O P:List TestRun) {k:Nat} (h:k<O.length):shkB (O++P) k=shkB O k:=by
 unfold shkB;rw[List.getElem?_append_left h,List.take_append_of_le_length (by omega)]
theorem hsO_app (O P:List TestRun):∀ k,k≤O.length→hsO many window good (O++P) k=hsO many window good O k
 | 0,_=>rfl
 | k+1,h=>by
  have hk:=List.getElem?_eq_getElem (l:=O) (i:=k) (by omega);rw[hsO_succ hk,hsO_succ (by rw[List.getElem?_append_left (by omega)];exact hk),hsO_app O P k (by omega),shkB_app O P (by omega)]
theorem hstK_own (l:List TestRun) (s:ByteArray):∀ n,hstK many window good l n s=if (ownR (l.take n) s) = [] then none else some (hsO many window good (ownR (l.take n) s) (ownR (l.take n) s).length)
 | 0=>by rw[List.take_zero];rfl
 | n+1=>by
  have ih:=hstK_own l s n
  cases hr:l[n]? with
  | none =>
   rw[List.getElem?_eq_none_iff]at hr;have e:hstK many window good l (n+1)=hstK many window good l n:=by rw[hstK,List.getElem?_eq_none_iff.2 hr]
   rw[e,List.take_of_length_le (by omega),ih,List.take_of_length_le hr]
  | some r =>
   rw[hstK_succ hr,List.take_add_one,hr,Option.toList_some];unfold upd
   by_cases e:s=r.test
   ·subst e;rw[if_pos rfl];have e2:ownR (l.take n ++ [r]) r.test=ownR (l.take n) r.test ++ [r]:=by unfold ownR;rw[List.filter_append];simp
    rw[e2,if_neg (by simp),List.length_append,List.length_singleton];have hg:(ownR (l.take n) r.test ++ [r])[(ownR (l.take n) r.test).length]? = some r:=by rw[List.getElem?_append_right (Nat.le_refl _),Nat.sub_self];rfl
    rw[hsO_succ hg,hsO_app _ _ _ (Nat.le_refl _)];have hsk:shkB (ownR (l.take n) r.test ++ [r]) (ownR (l.take n) r.test).length=shakenB (tal (l.take n) (r.test,r.key)) r.pass:=by
     rw[shaken_own];unfold shkB;rw[hg,List.take_append_of_le_length (Nat.le_refl _),List.take_length]
    rw[hsk,ih]
    by_cases hz:ownR (l.take n) r.test = []
    ·rw[if_pos hz,hz];rfl
    ·rw[if_neg hz];rfl
   ·rw[if_neg e,ih];have e2:ownR (l.take n ++ [r]) s=ownR (l.take n) s:=by
     unfold ownR;rw[List.filter_append];have:¬ r.test=s:=fun h=>e h.symm;simp[this]
    rw[e2]
end
theorem hist_rise:∀ (l:List TestRun) (p:Option Int),histErr p l=0→(∀ t,p=some t→∀ r∈l,t≤r.at_)∧l.Pairwise fun a b=>a.at_≤b.at_
 | [],p,_=>⟨(fun t _ r hr=>by cases hr),List.Pairwise.nil⟩
 | v::l,p,h=>by
  unfold histErr at h
  split at h
  ·split at h
   ·split at h
    ·split at h
     ·exact absurd h (by decide)
     ·rename_i h1
      obtain⟨a,b⟩:=hist_rise l (some v.at_) h;refine⟨fun t ht r hr=>?_,List.pairwise_cons.2 ⟨fun y hy=>a _ rfl y hy,b⟩⟩;subst ht;simp only[Option.map_some,Option.some.injEq,decide_eq_true_eq,Int.not_lt]at h1
      rcases List.mem_cons.1 hr with rfl | hr
      ·exact h1
      ·have:=a _ rfl r hr;omega
    ·exact absurd h (by decide)
   ·exact absurd h (by decide)
  ·exact absurd h (by decide)
def ownAt (l:List TestRun) (at_:Int) (s:ByteArray):List TestRun:=l.filter fun r=>decide (r.test=s)&&decide (r.at_≤at_)
theorem own_at:∀ {l:List TestRun} {at_:Int} {s:ByteArray},(l.Pairwise fun a b=>a.at_≤b.at_)→ownR (l.take (cntAt l at_)) s=ownAt l at_ s
 | [],_,_,_=>rfl
 | v::l,at_,s,h=>by
  rw[List.pairwise_cons]at h;unfold cntAt
  by_cases hv:v.at_≤at_
  ·rw[List.takeWhile_cons_of_pos (by simpa using hv),List.length_cons,List.take_succ_cons];have ih:=own_at (l:=l) (at_:=at_) (s:=s) h.2;unfold cntAt at ih;unfold ownR ownAt at ih ⊢;rw[List.filter_cons,List.filter_cons,ih];simp[hv]
  ·rw[List.takeWhile_cons_of_neg (by simpa using hv),List.length_nil,List.take_zero];unfold ownR ownAt;rw[List.filter_nil,eq_comm,List.filter_eq_nil_iff];intro y hy;have:¬ y.at_≤at_:=by
    rcases List.mem_cons.1 hy with rfl | hy
    ·exact hv
    ·have:=h.1 y hy;omega
   simp[this]
def isAsideF (many window good:Int) (O:List TestRun):Bool:=(raK many window good O O.length).aside
theorem own_rise {l:List TestRun} {at_:Int} {s:ByteArray} (h:l.Pairwise fun a b=>a.at_≤b.at_):(ownAt l at_ s).Pairwise fun a b=>a.at_≤b.at_:=h.filter _
theorem asIn_iff {l:List TestRun} {many window good at_:Int} {s:ByteArray} (h:histF l=0):AsIn l many window good (cntAt l at_) s↔isAsideF many window good (ownAt l at_ s)=true:=by
 have hr:l.Pairwise fun a b=>a.at_≤b.at_:=by
  unfold histF at h
  split at h
  ·exact(hist_rise l none h).2
  ·exact absurd h (by decide)
 have hb:=(both_a (many:=many) (window:=window) (good:=good) (own_rise (at_:=at_) (s:=s) hr) (ownAt l at_ s).length).aside;unfold AsIn isAsideF;rw[hstK_own,own_at hr,← hb]
 by_cases hz:ownAt l at_ s = []
 ·rw[if_pos hz,hz]
  constructor
  ·rintro⟨x,h,_⟩;cases h
  ·intro h;cases h
 ·rw[if_neg hz]
  constructor
  ·rintro⟨x,h,h2⟩;injection h with h;rw[h];exact h2
  ·intro h;exact⟨_,rfl,h⟩
end Go.Proofs.YtcdpdaloceengaaGreatDoor.C10
namespace Go.Proofs.YtcdpdaloceengaaGreatDoor.C10
open Go.ChangeShapes Go.WideShapes Go.Deep Go.RowKit Go.Maps
def shkU (l:List TestRun) (m:Nat) (r:TestRun):Bool:=(l.take m).any fun y=>decide (y.key=r.key)&&(y.pass != r.pass)
theorem shkU_at {l:List TestRun} {k:Nat} {r:TestRun} (h:l[k]? = some r):shkB l k=shkU l k r:=by unfold shkB shkU;rw[h]
theorem shkU_succ {l:List TestRun} {m:Nat} {r y:TestRun} (h:l[m]? = some y):shkU l (m+1) r=(shkU l m r||(decide (y.key=r.key)&&(y.pass != r.pass))):=by
 unfold shkU;rw[List.take_add_one,h,Option.toList_some,List.any_append];simp
def SkO (l:List TestRun) (B:Nat) (w:World) (i:Value) (wr:World):Prop :=
 ∃ k:Nat,k≤l.length∧i = .int .i64 k∧BRow wr B l.length (fun j=>if j<k then shkB l j else false)∧B<wr.heap.size∧Below w.heap.size w wr
def SkI (l:List TestRun) (k:Nat) (r:TestRun) (B:Nat) (w:World) (W5:World) (i:Value) (wr:World):Prop :=
 ∃ m:Nat,m≤k∧i = .int .i64 m∧BRow wr B l.length (fun j=>if j<k then shkB l j else if j=k then shkU l m r else false)∧Below w.heap.size w wr∧W5.grownBy wr (some B)
theorem shaken_any (A:Option Addr) (len cap:Nat) (l:List TestRun) (w:World) (hl:SlAt RTestRun w A len l) (hlen:len≤3000) (hcap:len≤cap) (hcm:cap≤maxLen) :
  Calls Tryz.prog 46 #[.slice A len cap] w fun e w'=>∃ B,e = .returned (.slice (some ⟨B,0,none⟩) len len)∧BRow w' B len (shkB l)∧w.heap.size≤B∧B<w'.heap.size∧Below w.heap.size w w':=by
 have hll:=hl.1;have hmk:=run_makeB len (by omega);obtain⟨W1,hW1⟩:∃ Y,w.alloc (.cells (madeB len) 4)=Y:=⟨_,rfl⟩;obtain⟨B,hB⟩:∃ b,w.heap.size=b:=⟨_,rfl⟩;have hb1:Below w.heap.size w W1:=by rw[← hW1];exact(Below.refl _ _).alloc (Nat.le_refl _) _
 have hst:SkO l B w (.int .i64 0) W1:=by
  refine⟨0,Nat.zero_le _,rfl,?_,by rw[← hW1,← hB];simp,hb1⟩;rw[hll,← hW1,← hB];intro j hj;have:=BRow.made w len j hj
  simpa using this
 have hBw:w.heap.size≤B:=Nat.le_of_eq hB;obtain⟨Z,hZ⟩:∃ Z,(fun (e:Ending) (w':World)=>∃ B,e = .returned (.slice (some ⟨B,0,none⟩) len len)∧BRow w' B len (shkB l)∧w.heap.size≤B∧B<w'.heap.size∧Below w.heap.size w w')=Z:=⟨_,rfl⟩;rw[hZ];unfold maxLen at hcm;obtain⟨hlH,hllH,hW1H,hBH,hb1H,hstH,hZH⟩:=hq2 hl (hq2 hll (hqb hW1 hB hb1 hst (Lib.hid hZ)));clear hl hll hW1 hB hb1 hst hZ;go_enter Tryz.func46,Tryz.ntmps46;go_wp2_with fail;simp only[hW1H.out,hBH.out];clear hmk
 go_loopw [13] (fun i wr=>SkO l B w i wr) (fun i _=>len-(intOf i).toNat)
 case atStart=>exact hstH.out
 case round =>
  clear hstH;obtain⟨k,hk,rfl,hR,hBs,hb⟩:=hrel;have hkn:k≤len:=by have:=hllH.out;omega
  by_cases hlt:k<len
  ·obtain⟨br,or_,hA,_⟩:=hlH.out.2.1 (by omega);have hslr:=hlH.out.below hb;rw[hA]at hslr ⊢;obtain⟨r,hr⟩:∃ r,l[k]? = some r:=⟨l[k]'(by have:=hllH.out;omega),List.getElem?_eq_getElem _⟩;obtain⟨e0,e1,e2,e3,e4⟩:=cells_TestRun hslr hr;have hbrw:br<w.heap.size:=by
    have h2:=hlH.out;rw[hA]at h2;have h1:=cell?_lt (cells_TestRun h2 hr).1
    simpa using h1
   obtain⟨rte,rke,rat,rps,rse⟩:=r;simp only at e0 e1 e2 e3 e4;have hBl:B<wr.heap.size:=cell?_lt (hR k (by have:=hllH.out;omega)).1;obtain⟨W5,hW5⟩:∃ Y,wr.alloc (.cells #[.string rte,.string rke,.int .i64 rat,.bool rps,.int .i64 rse] 39)=Y:=⟨_,rfl⟩;obtain⟨rb,hrb⟩:∃ b,wr.heap.size=b:=⟨_,rfl⟩;have hbr5:Below wr.heap.size wr W5:=by rw[← hW5];exact(Below.refl _ _).alloc (Nat.le_refl _) _
   have hb5:=hb.trans (hbr5.mono hb.size);have hR5:=brow_bel hR hbr5;have r1:W5.cell? ⟨rb,1,none⟩=some (.string rke):=by rw[← hW5,← hrb];exact cell_new _ _ _ 1
   have r3:W5.cell? ⟨rb,3,none⟩=some (.bool rps):=by rw[← hW5,← hrb];exact cell_new _ _ _ 3
   have hBrb:B≠rb:=by omega
   have hkc:(k:Int)≤(cap:Int):=by omega
   have hk0:(0:Int)≤(k:Int):=by omega
   have hkl:(k:Int)<(len:Int):=by omega
   have hst2:SkI l k ⟨rte,rke,rat,rps,rse⟩ B w W5 (.int .i64 0) W5:=by
    refine⟨0,Nat.zero_le _,rfl,fun j hj=>?_,hb5,World.grownBy.refl _ _⟩;have h1:=hR5 j hj
    dsimp only at h1 ⊢
    by_cases h2:j<k
    ·rw[if_pos h2]at h1 ⊢;exact h1
    ·rw[if_neg h2]at h1 ⊢;have:shkU l 0 ⟨rte,rke,rat,rps,rse⟩=false:=by unfold shkU;rw[List.take_zero];rfl
     rw[this]
     split <;> exact h1
   have hRk:∀ W,SkI l k ⟨rte,rke,rat,rps,rse⟩ B w W5 (.int .i64 k) W→SkO l B w (.int .i64 ((k:Int)+1)) W:=fun W ⟨m,hm,e,h3,h4,_⟩=>by
    have hmk:m=k:=by injection e with e1 e2;omega
    subst hmk;refine⟨m+1,by have:=hllH.out;omega,by go_num,fun j hj=>?_,cell?_lt (h3 m (by have:=hllH.out;omega)).1,h4⟩;have h1:=h3 j hj
    dsimp only at h1 ⊢
    by_cases h2:j<m
    ·rw[if_pos h2]at h1;rw[if_pos (by omega)];exact h1
    ·rw[if_neg h2]at h1
     by_cases h5:j=m
     ·rw[if_pos h5]at h1;rw[if_pos (by omega),h5,shkU_at hr];subst h5;exact h1
     ·rw[if_neg h5]at h1;rw[if_neg (by omega)];exact h1
   have hbr5r:br<W5.heap.size∧br≠B:=⟨by have:=hb5.size;omega,by omega⟩;obtain⟨hrH,hslrH,hAH,hW5H,hrbH,hbr5H,hb5H,hR5H,hst2H,hRkH,hbH,hRH,r1H,r3H⟩:=hq2 hr (hqb hslr hA hW5 hrb (hqc hbr5 hb5 hR5 hst2 hRk hb hR r1 (Lib.hid r3)));clear hr hslr hA hW5 hrb hbr5 hb5 hR5 hst2 hRk hb hR r1 r3;go_wp2_with fail;simp only[hW5H.out,hrbH.out];clear e0 e1 e2 e3 e4
   go_loopw [22] (fun i wq=>SkI l k ⟨rte,rke,rat,rps,rse⟩ B w W5 i wq) (fun i _=>k-(intOf i).toNat)
   case atStart=>exact hst2H.out
   case round =>
    clear hst2H;have hrel2:=hrel;obtain⟨m,hm,rfl,hQ,hbq,hgq⟩:=hrel
    by_cases hml:m<k
    ·clear hrel2;have hslq:=hlH.out.below hbq;rw[hAH.out]at hslq;obtain⟨y,hy⟩:∃ y,l[m]? = some y:=⟨l[m]'(by have:=hllH.out;omega),List.getElem?_eq_getElem _⟩;obtain⟨d0,d1,d2,d3,d4⟩:=cells_TestRun hslq hy;have hsu:=shkU_succ (r:=⟨rte,rke,rat,rps,rse⟩) hy;obtain⟨p,hp⟩:∃ v,shkU l m ⟨rte,rke,rat,rps,rse⟩=v:=⟨_,rfl⟩;rw[hp]at hsu;have hQk:=hQ k (by have:=hllH.out;omega)
     dsimp only at hQk
     rw[if_neg (Nat.lt_irrefl k),if_pos rfl,hp]at hQk;obtain⟨q1,q2⟩:=hQk;obtain⟨yte,yke,yat,yps,yse⟩:=y;simp only at d0 d1 d2 d3 d4 hsu;have hrlt:rb<W5.heap.size:=by have:=cell?_lt r1H.out;simpa using this
     have hblk:=hgq.block rb hrlt (fun e=>hBrb (by injection e with e <;> first | exact e | exact e.symm));have s1:wr.cell? ⟨rb,1,none⟩=some (.string rke):=(World.cell?_of_block (a:=⟨rb,1,none⟩) hblk).trans r1H.out;have s3:wr.cell? ⟨rb,3,none⟩=some (.bool rps):=(World.cell?_of_block (a:=⟨rb,3,none⟩) hblk).trans r3H.out;have hBq:B<wr.heap.size:=cell?_lt q1;have g1:(wr.alloc (.cells #[.string yte,.string yke,.int .i64 yat,.bool yps,.int .i64 yse] 39)).cell? ⟨wr.heap.size,1,none⟩=some (.string yke):=cell_new _ _ _ 1;have g3:(wr.alloc (.cells #[.string yte,.string yke,.int .i64 yat,.bool yps,.int .i64 yse] 39)).cell? ⟨wr.heap.size,3,none⟩=some (.bool yps):=cell_new _ _ _ 3;have t1:=cell_alloc_lt (o:=(.cells #[.string yte,.string yke,.int .i64 yat,.bool yps,.int .i64 yse] 39)) s1;have t3:=cell_alloc_lt (o:=(.cells #[.string yte,.string yke,.int .i64 yat,.bool yps,.int .i64 yse] 39)) s3;have tq:=cell_alloc_lt (o:=(.cells #[.string yte,.string yke,.int .i64 yat,.bool yps,.int .i64 yse] 39)) q1;have Rn:∀ (u:Bool),shkU l (m+1) ⟨rte,rke,rat,rps,rse⟩=u→SkI l k ⟨rte,rke,rat,rps,rse⟩ B w W5 (.int .i64 ((m:Int)+1)) ((wr.setCell ⟨B,k,none⟩ (.bool u)).alloc (.cells #[.string yte,.string yke,.int .i64 yat,.bool yps,.int .i64 yse] 39)):=fun u hu=>by
      have hbs:=hbq.setCell (p:=⟨B,k,none⟩) hBw (.bool u);have hba:=(Below.refl (wr.setCell ⟨B,k,none⟩ (.bool u)).heap.size (wr.setCell ⟨B,k,none⟩ (.bool u))).alloc (Nat.le_refl _) (.cells #[.string yte,.string yke,.int .i64 yat,.bool yps,.int .i64 yse] 39);refine⟨m+1,hml,by go_num,fun j hj=>?_,hbs.trans (hba.mono hbs.size),grown_trans (grown_trans hgq (grown_setc wr ⟨B,k,none⟩ (.bool u))) (by
       have:=below_g hba;exact⟨this.os,this.tape,this.output,this.size,fun b hb _=>hba.block b hb⟩)⟩
      have h1:=(brow_bel (hQ.set (k:=k) u) hba) j hj
      dsimp only at h1 ⊢
      by_cases e:j=k
      ·rw[if_pos e]at h1;rw[if_neg (by omega),if_pos e,hu];exact h1
      ·rw[if_neg e]at h1;rw[if_neg e]
       by_cases e2:j<k
       ·rw[if_pos e2]at h1 ⊢;exact h1
       ·rw[if_neg e2,if_neg e]at h1;rw[if_neg e2];exact h1
     have hm0:(0:Int)≤(m:Int):=by omega
     have hmk:(m:Int)<(k:Int):=by omega
     cases p
     ·rw[Bool.false_or]at hsu
      by_cases hkey:yke=rke
      ·have hke:(yke.toList==rke.toList)=true:=by rw[beq_data,decide_eq_true hkey]
       rw[decide_eq_true hkey,Bool.true_and]at hsu;have R:=Rn _ hsu;clear Rn hsu hkey;obtain⟨RH,hQH,hbqH,hgqH,hslqH,hyH,hpH,hblkH⟩:=hq2 R (hq2 hQ (hq2 hbq (hqb hgq hslq hy hp (Lib.hid hblk))));clear R hQ hbq hgq hslq hy hp hblk;go_wp2;refine⟨?rel,?measure⟩
       case measure=>(simp[intOf];omega)
       case rel=>first | exact RH.out | exact⟨rfl,RH.out⟩
      ·have hke:(yke.toList==rke.toList)=false:=by rw[beq_data,decide_eq_false hkey]
       rw[decide_eq_false hkey,Bool.false_and]at hsu;have R:=Rn _ hsu;clear Rn hsu hkey;obtain⟨RH,hQH,hbqH,hgqH,hslqH,hyH,hpH,hblkH⟩:=hq2 R (hq2 hQ (hq2 hbq (hqb hgq hslq hy hp (Lib.hid hblk))));clear R hQ hbq hgq hslq hy hp hblk;go_wp2;refine⟨?rel,?measure⟩
       case measure=>(simp[intOf];omega)
       case rel=>first | exact RH.out | exact⟨rfl,RH.out⟩
     ·rw[Bool.true_or]at hsu;have R:=Rn _ hsu;clear Rn hsu;obtain⟨RH,hQH,hbqH,hgqH,hslqH,hyH,hpH,hblkH⟩:=hq2 R (hq2 hQ (hq2 hbq (hqb hgq hslq hy hp (Lib.hid hblk))));clear R hQ hbq hgq hslq hy hp hblk;go_wp2;refine⟨?rel,?measure⟩
      case measure=>(simp[intOf];omega)
      case rel=>first | exact RH.out | exact⟨rfl,RH.out⟩
    ·obtain rfl:m=k:=by omega
     have R:=hRkH.out wr hrel2;clear hrel2;obtain⟨RH,hQH,hbqH,hgqH⟩:=hq2 R (hq2 hQ (hq2 hbq (Lib.hid hgq)));clear R hQ hbq hgq;go_wp2;refine⟨?rel,?measure⟩
     case measure=>(simp[intOf];omega)
     case rel=>first | exact RH.out | exact⟨rfl,RH.out⟩
  ·obtain rfl:k=len:=by have:=hllH.out;omega
   have R:Z (.returned (.slice (some ⟨B,0,none⟩) k k)) wr:=by
    rw[← hZH.out];refine⟨B,rfl,fun j hj=>?_,hBw,?_,hb⟩
    ·have h1:=hR j (by have:=hllH.out;omega)
     dsimp only at h1
     rw[if_pos hj]at h1;exact h1
    ·exact hBs
   obtain⟨RH,hRH,hbH⟩:=hq2 R (hq2 hR (Lib.hid hb));clear R hR hb;go_wp2;exact RH.out
end Go.Proofs.YtcdpdaloceengaaGreatDoor.C10