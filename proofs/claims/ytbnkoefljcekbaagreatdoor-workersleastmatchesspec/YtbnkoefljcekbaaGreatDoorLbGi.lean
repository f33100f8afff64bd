/-
 Several texts of mine as one, without what is not wanted here: XPlP, XPlW, XPool, XWkH.
-/
import Derived.Test.YtbnkoefljcekbaaGreatDoorLbGf
import Derived.Test.YtbnkoefljcekbaaGreatDoorLbGh
import Derived.Test.YtbnkoefljcekbaaGreatDoorLbGa
import Derived.Deep.RegionHeld3
set_option linter.unusedVariables false
set_option linter.unusedSimpArgs false
set_option maxRecDepth 100000
set_option maxHeartbeats 8000000
namespace Go.Proofs.YtbnkoefljcekbaaGreatDoor
theorem Sim.len {p:PS} {q:QS} (h:Sim p q):p.runs.length+p.out.length=q.runs.length:=by
 have a:p.runs.length=(q.runs.filter going).length:=h.runs.length_eq;have b:=h.out.length_eq;rw[a,b];clear a b h
 induction q.runs with
 | nil=>rfl
 | cons r R ih =>
  cases hg:going r
  ·rw[List.filter_cons_of_neg (by simp[hg]),List.filter_cons_of_pos (by simp[hg]),List.length_cons,List.length_cons];omega
  ·rw[List.filter_cons_of_pos hg,List.filter_cons_of_neg (by simp[hg]),List.length_cons,List.length_cons];omega
theorem len_filter {α:Type} (p:α→Bool):∀ l:List α,l.length=(l.filter p).length+(l.filter fun x=>!p x).length
 | []=>rfl
 | r::R=>by
  have ih:=len_filter p R
  cases hg:p r
  ·rw[List.filter_cons_of_neg (by simp[hg]),List.filter_cons_of_pos (by simp[hg]),List.length_cons,List.length_cons];omega
  ·rw[List.filter_cons_of_pos hg,List.filter_cons_of_neg (by simp[hg]),List.length_cons,List.length_cons];omega
theorem cnt_len {m:Nat}:∀ (n:Nat) (R:List RR),(∀ r∈R,r.work<n)→(∀ k,R.countP (onWork k)≤m)→R.length≤n*m
 | 0,[],_,_=>Nat.zero_le _
 | 0,r::R,h,_=>absurd (h r List.mem_cons_self) (Nat.not_lt_zero _)
 | n+1,R,h,hc=>by
  have e:=len_filter (onWork n) R;have h1:(R.filter (onWork n)).length≤m:=by rw[← List.countP_eq_length_filter];exact hc n
  have h2:=cnt_len n (R.filter fun x=>!onWork n x) (fun r hr=>by
    obtain⟨a,b⟩:=List.mem_filter.1 hr;have:=h r a;simp[onWork]at b;omega) (fun k=>by
    rw[List.countP_filter];exact Nat.le_trans (countP_le_of fun x _ hx=>by simp only[Bool.and_eq_true]at hx;exact hx.1) (hc k))
  rw[Nat.succ_mul];omega
structure Room (F:FP) (p:PS):Prop where
 len:((p.runs.length+p.out.length:Nat):Int)≤F.nX*(F.tries+1)
 beg:∀ k,0≤p.begun k∧p.begun k≤F.tries+1
 los:∀ k,0≤p.lost k∧p.lost k≤F.tries+1
 two:p.runs.Pairwise fun a b=>a.work=b.work→a.worker≠b.worker
 rn:∀ r∈p.runs,going r=true∧r.to_=0∧r.worker<F.nW∧r.work<F.nX∧0≤r.from_
theorem two_of {Q:List RR} (h:∀ i,(goingOf Q i).Pairwise fun a b=>a.worker≠b.worker):(Q.filter going).Pairwise fun a b=>a.work=b.work→a.worker≠b.worker:=by
 induction Q with
 | nil=>exact List.Pairwise.nil
 | cons r R ih =>
  have ht:∀ i,(goingOf R i).Pairwise fun a b=>a.worker≠b.worker:=fun i=>by
   have:=h i;unfold goingOf at this ⊢;rw[List.filter_cons]at this
   split at this
   ·exact(List.pairwise_cons.1 this).2
   ·exact this
  cases hg:going r
  ·rw[List.filter_cons_of_neg (by simp[hg])];exact ih ht
  ·rw[List.filter_cons_of_pos hg];refine List.Pairwise.cons (fun b hb e=>?_) (ih ht);have:=h r.work;unfold goingOf at this;rw[List.filter_cons_of_pos (by simp[hg])]at this;obtain⟨b1,b2⟩:=List.mem_filter.1 hb;exact(List.pairwise_cons.1 this).1 b (List.mem_filter.2 ⟨b1,by simp[b2,e]⟩)
theorem room_of {F:FP} {p:PS} {q:QS} {lo hi:Int} (hS:Sim p q) (hI:Inv F lo hi q) (hF:FFine F):Room F p:=by
 have htr:=hF.tri;obtain⟨m,hm⟩:∃ m:Nat,F.tries+1=m:=⟨(F.tries+1).toNat,by omega⟩;have hle:∀ k e,q.runs.countP (isEnd e k)≤q.runs.countP (onWork k):=fun k e=>countP_le_of fun x _ hx=>by
  simp only[isEnd,Bool.and_eq_true]at hx;exact hx.1
 refine⟨?_,fun k=>?_,fun k=>?_,?_,fun r hr=>?_⟩
 ·rw[hS.len,hm];have:=cnt_len (m:=m) F.nX q.runs (fun r hr=>(hI.named r hr).2) (fun k=>by have:=hI.cnt k;omega);have h2:((q.runs.length:Nat):Int)≤((F.nX*m:Nat):Int):=Int.ofNat_le.2 this;rw[Int.natCast_mul]at h2;exact h2
 ·rw[hS.begun];have:q.runs.countP (fun r=>r.work==k)=q.runs.countP (onWork k):=rfl;rw[this];have:=hI.cnt k;exact⟨by omega,this⟩
 ·rw[hS.lost,hI.los];have:=hI.cnt k;have:=hle k 2;exact⟨by omega,by omega⟩
 ·have:=two_of fun i=>(hI.two i).2;exact(hS.runs.pairwise_iff (fun {a b} h e=>(h e.symm).symm)).2 this
 ·have hq:=hS.runs.mem_iff.1 hr;obtain⟨a,b⟩:=List.mem_filter.1 hq;exact⟨b,(hI.go r a b).2.2,(hI.named r a).1,(hI.named r a).2,(hI.fr r a).2.1⟩
theorem run_from {F:FP} {p:PS} {q:QS} {lo hi:Int} (hS:Sim p q) (hI:Inv F lo hi q):∀ r∈p.runs,r.from_≤lo:=fun r hr=>by
 obtain⟨a,b⟩:=List.mem_filter.1 (hS.runs.mem_iff.1 hr);exact(hI.go r a b).1
theorem Inv.to {F:FP} {q:QS} (h:Inv F q.at_ (q.at_+1) q) {n:Int} (h1:q.at_<n) (h2:∀ r∈q.runs,going r=true→n≤F.wto r.worker):Inv F (n-1) n { q with at_:=n }:=by
 have h0:=h.t0;refine⟨h.named,by show 0≤n;omega,h.fr,fun r hr hg=>?_,fun r hr hg=>?_,h.e1,h.two,h.don,h.don1,h.dong,h.doni,h.los,h.cnt,h.cnt0,h.ord,h.dis,fun t ht k hk=>?_,h.bus⟩
 ·obtain⟨a,b,c⟩:=h.go r hr hg;exact⟨by omega,h2 r hr hg,c⟩
 ·obtain⟨a,b,c⟩:=h.en r hr hg;exact⟨a,by show r.to_≤n;omega,c⟩
 ·rcases Int.lt_or_le q.at_ t with hlt | hle
  ·have:=cnt_busy h (t:=t) (by omega) k;have:=h.bus k hk;show (cntAt q.runs t k:Int)≤_;omega
  ·exact h.hist t hle k hk
theorem next_to {F:FP} {p:PS} {q:QS} (hS:Sim p q) (ht:p.now=q.at_) (hI:Inv F q.at_ (q.at_+1) q) {n:Int} (hn:nextP F p=some n) {B:Int}
  (hw:∀ k,k<F.nW→F.wfrom k≤B∧F.wto k≤B) (hl:∀ t∈F.lossAt,t≤B):q.at_<n∧n≤B∧Inv F (n-1) n { q with at_:=n }:=by
 obtain⟨a,b,c⟩:=above_some hn;rw[ht]at b c;have hto:∀ r∈q.runs,going r=true→n≤F.wto r.worker:=fun r hr hg=>by
  have hp:r∈p.runs:=hS.runs.mem_iff.2 (List.mem_filter.2 ⟨hr,hg⟩);exact c _ (mem_candsP.2 (.inr (.inl ⟨r,hp,.inr (.inl rfl)⟩))) (by have:=(hI.go r hr hg).2.1;omega)
 refine⟨b,?_,hI.to b hto⟩
 rcases mem_candsP.1 a with ⟨k,hk,e⟩ | ⟨r,hr,_⟩ | e
 ·rw[e];exact(hw k hk).1
 ·obtain⟨r1,r2⟩:=List.mem_filter.1 (hS.runs.mem_iff.1 hr);exact Int.le_trans (hto r r1 r2) (hw _ (hI.named r r1).1).2
 ·exact hl n e
structure WayP (F:FP) (p:PS) (q:QS):Prop where
 sim:Sim p q
 at_:p.now=q.at_
 inv:Inv F (q.at_-1) q.at_ q
section
variable {F:FP} {p:PS} {q:QS} (hF:FFine F) (h:WayP F p q)
include hF h
theorem WayP.r0:Room F p∧∀ r∈p.runs,r.from_≤p.now:=⟨room_of h.sim h.inv hF,fun r hr=>by have:=run_from h.sim h.inv r hr;have:=h.at_;omega⟩
theorem WayP.perm {rs:List RR} (hp:rs.Perm p.runs):WayP F { p with runs:=rs } q:=have _:=hF;⟨⟨h.sim.runs.perm hp,h.sim.out,h.sim.done,h.sim.lost,h.sim.begun⟩,h.at_,h.inv⟩
theorem WayP.r1:Room F (finP F p)∧∀ r∈(finP F p).runs,r.from_≤p.now:=by
 have h1:=h.inv.fin hF (by omega) (Int.le_refl _);have s1:=h.sim.fin (F:=F) h.at_;exact⟨room_of s1 h1 hF,fun r hr=>by have:=run_from s1 h1 r hr;have:=h.at_;omega⟩
theorem WayP.i2:Inv F q.at_ (q.at_+1) (loseQ F (finQ F q)):=by
 have h1:=h.inv.fin hF (by omega) (Int.le_refl _);have h2:Inv F (q.at_-1) (q.at_+1) (loseQ F (finQ F q)):=Inv.lose hF (q:=finQ F q) h1 (by show q.at_-1<q.at_;omega);exact Inv.now (q:=loseQ F (finQ F q)) h2
theorem WayP.r2:Room F (loseP F (finP F p))∧∀ r∈(loseP F (finP F p)).runs,r.from_≤p.now:=by
 have h1:=h.i2 hF;have s1:=(h.sim.fin (F:=F) h.at_).lose (F:=F) h.at_;exact⟨room_of s1 h1 hF,fun r hr=>by have:=run_from s1 h1 r hr;have:=h.at_;omega⟩
theorem WayP.i3:Inv F q.at_ (q.at_+1) (startQ F (loseQ F (finQ F q))):=Inv.starts hF (q:=loseQ F (finQ F q)) F.order hF.lt _ (h.i2 hF)
theorem WayP.s3:Sim (startP F (loseP F (finP F p))) (startQ F (loseQ F (finQ F q))):=((h.sim.fin (F:=F) h.at_).lose (F:=F) h.at_).start h.at_ hF.nodup
theorem WayP.r3:Room F (startP F (loseP F (finP F p)))∧∀ r∈(startP F (loseP F (finP F p))).runs,r.from_≤p.now:=by
 have h1:=h.i3 hF;have s1:=h.s3 hF;exact⟨room_of s1 h1 hF,fun r hr=>by have:=run_from s1 h1 r hr;have:=h.at_;omega⟩
theorem WayP.s4:Sim (dblP F (startP F (loseP F (finP F p)))) (stepQ F q):=(h.s3 hF).dbl h.at_
theorem WayP.r4:Room F (dblP F (startP F (loseP F (finP F p))))∧∀ r∈(dblP F (startP F (loseP F (finP F p)))).runs,r.from_≤p.now:=by
 have h1:=h.inv.step hF;have s1:=h.s4 hF;exact⟨room_of s1 h1 hF,fun r hr=>by have:=run_from s1 h1 r hr;have:=h.at_;omega⟩
theorem WayP.next {n B:Int} (hn:nextP F (dblP F (startP F (loseP F (finP F p))))=some n) (hw:∀ k,k<F.nW→F.wfrom k≤B∧F.wto k≤B) (hl:∀ t∈F.lossAt,t≤B) :
  p.now<n∧n≤B∧WayP F { dblP F (startP F (loseP F (finP F p))) with now:=n } { stepQ F q with at_:=n }:=by
 have hnow:(dblP F (startP F (loseP F (finP F p)))).now=p.now:=by unfold dblP;split <;> rfl
 have hat:=h.at_;have e:=stepQ_at F q;obtain⟨a,b,c⟩:=next_to (q:=stepQ F q) (h.s4 hF) (by rw[hnow,e];exact hat) (by rw[e];exact h.inv.step hF) hn hw hl;exact⟨by omega,b,⟨(h.s4 hF).at n n,rfl,c⟩⟩
end
theorem wayp0 {F:FP} (hF:FFine F):WayP F p0 q0:=⟨sim0,rfl,inv0 hF⟩
theorem QTrace.uniq {F:FP} {q a b:QS} (h:QTrace F q a):QTrace F q b→a=b:=by
 induction h with
 | last q hn =>
  intro h2
  cases h2 with
  | last _ _=>rfl
  | more _ n _ h3 _=>rw[hn]at h3;cases h3
 | more q n q' hn _ ih =>
  intro h2
  cases h2 with
  | last _ h3=>rw[hn]at h3;cases h3
  | more _ m _ h3 h4 =>
   rw[hn]at h3;injection h3 with h3;subst h3;exact ih h4
end Go.Proofs.YtbnkoefljcekbaaGreatDoor
namespace Go.Proofs.YtbnkoefljcekbaaGreatDoor
open Go.RowKit
theorem pool {P:Program} {ops:Array Oper} {Q:Exit→Act→World→Prop} {md:Region.Mode} {S:World→Prop} {σ:Type} (L:σ→Array Bool) (A:σ→Act) (J:σ→World→Prop) (m:σ→Nat) (base:Nat)
  (H0:∀ s w,m s=0→J s w→S w→wpAnyH P md ops Q S base (L s) (A s) w)
  (H1:∀ s w,m s≠0→J s w→S w→Region.ready md ops (L s)≠[]∧∀ i∈Region.ready md ops (L s),∃ o,ops[i]? = some o ∧
   ∀ K:Act→World→Prop,Shut (∀ s' w',m s'+1=m s→L s'=(L s).setIfInBounds i true→J s' w'→S w'→K (A s') w')→if Region.wanted o (yielded ops (A s).tmps)=true then Oper.wp P o (A s) w K Q else K ((A s).put o.dst undef) w) :
  ∀ n s w,m s=n→J s w→S w→wpAnyH P md ops Q S (base+n) (L s) (A s) w
 | 0,s,w,h,hJ,hS=>H0 s w h hJ hS
 | n+1,s,w,h,hJ,hS=>by
  obtain⟨hne,hall⟩:=H1 s w (by omega) hJ hS;refine⟨fun h0=>absurd h0 hne,fun i hi=>?_⟩;obtain⟨o,ho,hw⟩:=hall i hi;exact wpOp_step ho (fun K' hK=>hw K' (fun s' w' hm hL hJ' hS'=>hK _ _ ⟨hS',by rw[← hL];exact pool L A J m base H0 H1 n s' w' (by omega) hJ' hS'⟩))
/-! a region whose operations 3,4,6,8,10,12 come in whatever order,then 13,14,15 -/
def L6b (b3 b4 b6 b8 b10 b12:Bool):Array Bool:=#[true,true,true,b3,b4,true,b6,true,b8,true,b10,true,b12,false,false,false]
def L6 (o:Nat→Option Nat):Array Bool:=#[true,true,true,(o 3).isSome,(o 4).isSome,true,(o 6).isSome,true,(o 8).isSome,true,(o 10).isSome,true,(o 12).isSome,false,false,false]
def upo (o:Nat→Option Nat) (k b:Nat):Nat→Option Nat:=fun j=>if j=k then some b else o j
def n1 (x:Option Nat):Nat:=match x with
 | none=>1
 | some _=>0
def m6 (o:Nat→Option Nat):Nat:=n1 (o 3)+n1 (o 4)+n1 (o 6)+n1 (o 8)+n1 (o 10)+n1 (o 12)
def chk6 (R:Array Bool→List Nat) (b3 b4 b6 b8 b10 b12:Bool):Bool:=(b3&&b4&&b6&&b8&&b10&&b12)||(!(R (L6b b3 b4 b6 b8 b10 b12)).isEmpty&&(R (L6b b3 b4 b6 b8 b10 b12)).all fun i=>(i==3 && !b3)||(i==4 && !b4)||(i==6 && !b6)||(i==8 && !b8)||(i==10 && !b10)||(i==12 && !b12))
theorem pool6 {P:Program} {ops:Array Oper} {Q:Exit→Act→World→Prop} {md:Region.Mode} {S:World→Prop} {τ:Type} (A:(Nat→Option Nat)→τ→Act) (J:(Nat→Option Nat)→τ→World→Prop)
  (hR:∀ b3 b4 b6 b8 b10 b12:Bool,chk6 (Region.ready md ops) b3 b4 b6 b8 b10 b12=true)
  (H0:∀ o t w,(o 3).isSome=true∧(o 4).isSome=true∧(o 6).isSome=true∧(o 8).isSome=true∧(o 10).isSome=true∧(o 12).isSome=true→J o t w→S w→wpAnyH P md ops Q S 3 (L6b true true true true true true) (A o t) w)
  (h3:∀ o t w,o 3=none→J o t w→S w→∃ p,ops[3]? = some p∧∀ K:Act→World→Prop,Shut (∀ b t' w',J (upo o 3 b) t' w'→S w'→K (A (upo o 3 b) t') w')→if Region.wanted p (yielded ops (A o t).tmps)=true then Oper.wp P p (A o t) w K Q else K ((A o t).put p.dst undef) w)
  (h4:∀ o t w,o 4=none→J o t w→S w→∃ p,ops[4]? = some p∧∀ K:Act→World→Prop,Shut (∀ b t' w',J (upo o 4 b) t' w'→S w'→K (A (upo o 4 b) t') w')→if Region.wanted p (yielded ops (A o t).tmps)=true then Oper.wp P p (A o t) w K Q else K ((A o t).put p.dst undef) w)
  (h6:∀ o t w,o 6=none→J o t w→S w→∃ p,ops[6]? = some p∧∀ K:Act→World→Prop,Shut (∀ b t' w',J (upo o 6 b) t' w'→S w'→K (A (upo o 6 b) t') w')→if Region.wanted p (yielded ops (A o t).tmps)=true then Oper.wp P p (A o t) w K Q else K ((A o t).put p.dst undef) w)
  (h8:∀ o t w,o 8=none→J o t w→S w→∃ p,ops[8]? = some p∧∀ K:Act→World→Prop,Shut (∀ b t' w',J (upo o 8 b) t' w'→S w'→K (A (upo o 8 b) t') w')→if Region.wanted p (yielded ops (A o t).tmps)=true then Oper.wp P p (A o t) w K Q else K ((A o t).put p.dst undef) w)
  (h10:∀ o t w,o 10=none→J o t w→S w→∃ p,ops[10]? = some p∧∀ K:Act→World→Prop,Shut (∀ b t' w',J (upo o 10 b) t' w'→S w'→K (A (upo o 10 b) t') w')→if Region.wanted p (yielded ops (A o t).tmps)=true then Oper.wp P p (A o t) w K Q else K ((A o t).put p.dst undef) w)
  (h12:∀ o t w,o 12=none→J o t w→S w→∃ p,ops[12]? = some p∧∀ K:Act→World→Prop,Shut (∀ b t' w',J (upo o 12 b) t' w'→S w'→K (A (upo o 12 b) t') w')→if Region.wanted p (yielded ops (A o t).tmps)=true then Oper.wp P p (A o t) w K Q else K ((A o t).put p.dst undef) w)
  (t0:τ) (w0:World) (hJ:J (fun _=>none) t0 w0) (hS:S w0):wpAnyH P md ops Q S 9 (L6b false false false false false false) (A (fun _=>none) t0) w0:=by
 have hz:∀ x:Option Nat,n1 x=0→x.isSome=true:=fun x h=>by cases x with
  | none=>cases h
  | some _=>rfl
 refine pool (σ:=(Nat→Option Nat) × τ) (fun s=>L6 s.1) (fun s=>A s.1 s.2) (fun s w=>J s.1 s.2 w) (fun s=>m6 s.1) 3 ?_ ?_ 6 (fun _=>none,t0) w0 rfl hJ hS
 ·rintro⟨o,t⟩ w hm hJ hS;simp only[m6]at hm;have e:∀ k,(o k).isSome=true→(o k).isSome=true:=fun _ h=>h;have a3:=hz (o 3) (by omega);have a4:=hz (o 4) (by omega);have a6:=hz (o 6) (by omega);have a8:=hz (o 8) (by omega);have a10:=hz (o 10) (by omega);have a12:=hz (o 12) (by omega);have:=H0 o t w ⟨a3,a4,a6,a8,a10,a12⟩ hJ hS;show wpAnyH P md ops Q S 3 (L6 o) (A o t) w;unfold L6;rw[a3,a4,a6,a8,a10,a12];exact this
 ·rintro⟨o,t⟩ w hm hJ hS;simp only[m6]at hm;have hc:=hR (o 3).isSome (o 4).isSome (o 6).isSome (o 8).isSome (o 10).isSome (o 12).isSome;have hn:∀ x:Option Nat,x.isSome=false→x=none:=fun x h=>by cases x with
   | none=>rfl
   | some _=>cases h
  have hno:((o 3).isSome&&(o 4).isSome&&(o 6).isSome&&(o 8).isSome&&(o 10).isSome&&(o 12).isSome)=false:=by
   cases e:((o 3).isSome&&(o 4).isSome&&(o 6).isSome&&(o 8).isSome&&(o 10).isSome&&(o 12).isSome)
   ·rfl
   ·simp only[Bool.and_eq_true]at e;obtain⟨⟨⟨⟨⟨e3,e4⟩,e6⟩,e8⟩,e10⟩,e12⟩:=e;have q:∀ x:Option Nat,x.isSome=true→n1 x=0:=fun x h=>by cases x with
     | none=>cases h
     | some _=>rfl
    rw[q _ e3,q _ e4,q _ e6,q _ e8,q _ e10,q _ e12]at hm;exact absurd rfl hm
  unfold chk6 at hc;rw[hno,Bool.false_or,Bool.and_eq_true]at hc;obtain⟨c1,c2⟩:=hc;have hne:Region.ready md ops (L6 o)≠[]:=fun e=>by
   change (!(Region.ready md ops (L6 o)).isEmpty)=true at c1
   rw[e]at c1;cases c1
  refine⟨hne,fun i hi=>?_⟩;rw[List.all_eq_true]at c2;have ci:=c2 i hi;simp only[Bool.or_eq_true,Bool.and_eq_true,beq_iff_eq,Bool.not_eq_true']at ci
  rcases ci with ((((⟨rfl,c⟩ | ⟨rfl,c⟩) | ⟨rfl,c⟩) | ⟨rfl,c⟩) | ⟨rfl,c⟩) | ⟨rfl,c⟩
  ·have hk:=hn _ c;obtain⟨p,hp,hw⟩:=h3 o t w hk hJ hS;refine⟨p,hp,fun K hK=>hw K (fun b t' w' hJ' hS'=>hK (upo o 3 b,t') w' ?_ rfl hJ' hS')⟩;show m6 (upo o 3 b)+1=m6 o;simp only[m6,upo,hk];simp[n1]
   try omega
  ·have hk:=hn _ c;obtain⟨p,hp,hw⟩:=h4 o t w hk hJ hS;refine⟨p,hp,fun K hK=>hw K (fun b t' w' hJ' hS'=>hK (upo o 4 b,t') w' ?_ rfl hJ' hS')⟩;show m6 (upo o 4 b)+1=m6 o;simp only[m6,upo,hk];simp[n1]
   try omega
  ·have hk:=hn _ c;obtain⟨p,hp,hw⟩:=h6 o t w hk hJ hS;refine⟨p,hp,fun K hK=>hw K (fun b t' w' hJ' hS'=>hK (upo o 6 b,t') w' ?_ rfl hJ' hS')⟩;show m6 (upo o 6 b)+1=m6 o;simp only[m6,upo,hk];simp[n1]
   try omega
  ·have hk:=hn _ c;obtain⟨p,hp,hw⟩:=h8 o t w hk hJ hS;refine⟨p,hp,fun K hK=>hw K (fun b t' w' hJ' hS'=>hK (upo o 8 b,t') w' ?_ rfl hJ' hS')⟩;show m6 (upo o 8 b)+1=m6 o;simp only[m6,upo,hk];simp[n1]
   try omega
  ·have hk:=hn _ c;obtain⟨p,hp,hw⟩:=h10 o t w hk hJ hS;refine⟨p,hp,fun K hK=>hw K (fun b t' w' hJ' hS'=>hK (upo o 10 b,t') w' ?_ rfl hJ' hS')⟩;show m6 (upo o 10 b)+1=m6 o;simp only[m6,upo,hk];simp[n1]
   try omega
  ·have hk:=hn _ c;obtain⟨p,hp,hw⟩:=h12 o t w hk hJ hS;refine⟨p,hp,fun K hK=>hw K (fun b t' w' hJ' hS'=>hK (upo o 12 b,t') w' ?_ rfl hJ' hS')⟩;show m6 (upo o 12 b)+1=m6 o;simp only[m6,upo,hk];simp[n1]
   try omega
def pvS (N:Nat) (x:Option Nat):Value:=match x with
 | none=>undef
 | some b=>.slice (some ⟨b,0,none⟩) N N
def pvM (x:Option Nat):Value:=match x with
 | none=>undef
 | some b=>.map (some b)
def putAll (a:Act) (N:Nat) (o:Nat→Option Nat):Act:=(((((a.put (some 13) (pvS N (o 3))).put (some 14) (pvM (o 4))).put (some 16) (pvS N (o 6))).put (some 18) (pvS N (o 8))).put (some 20) (pvS N (o 10))).put (some 22) (pvS N (o 12))
theorem pool6a {P:Program} {ops:Array Oper} {Q:Exit→Act→World→Prop} {md:Region.Mode} {S:World→Prop} {τ:Type} (N:Nat) (J:(Nat→Option Nat)→τ→World→Prop) (a:Act) (ea:putAll a N (fun _=>none)=a)
  (hR:∀ b3 b4 b6 b8 b10 b12:Bool,chk6 (Region.ready md ops) b3 b4 b6 b8 b10 b12=true) (t0:τ) (w0:World) (hJ:J (fun _=>none) t0 w0) (hS:S w0)
  (H0:∀ o t w,(o 3).isSome=true∧(o 4).isSome=true∧(o 6).isSome=true∧(o 8).isSome=true∧(o 10).isSome=true∧(o 12).isSome=true→J o t w→S w→wpAnyH P md ops Q S 3 (L6b true true true true true true) (putAll a N o) w)
  (h3:∀ o t w,o 3=none→J o t w→S w→∃ p,ops[3]? = some p∧∀ K:Act→World→Prop,Shut (∀ b t' w',J (upo o 3 b) t' w'→S w'→K (putAll a N (upo o 3 b)) w')→if Region.wanted p (yielded ops (putAll a N o).tmps)=true then Oper.wp P p (putAll a N o) w K Q else K ((putAll a N o).put p.dst undef) w)
  (h4:∀ o t w,o 4=none→J o t w→S w→∃ p,ops[4]? = some p∧∀ K:Act→World→Prop,Shut (∀ b t' w',J (upo o 4 b) t' w'→S w'→K (putAll a N (upo o 4 b)) w')→if Region.wanted p (yielded ops (putAll a N o).tmps)=true then Oper.wp P p (putAll a N o) w K Q else K ((putAll a N o).put p.dst undef) w)
  (h6:∀ o t w,o 6=none→J o t w→S w→∃ p,ops[6]? = some p∧∀ K:Act→World→Prop,Shut (∀ b t' w',J (upo o 6 b) t' w'→S w'→K (putAll a N (upo o 6 b)) w')→if Region.wanted p (yielded ops (putAll a N o).tmps)=true then Oper.wp P p (putAll a N o) w K Q else K ((putAll a N o).put p.dst undef) w)
  (h8:∀ o t w,o 8=none→J o t w→S w→∃ p,ops[8]? = some p∧∀ K:Act→World→Prop,Shut (∀ b t' w',J (upo o 8 b) t' w'→S w'→K (putAll a N (upo o 8 b)) w')→if Region.wanted p (yielded ops (putAll a N o).tmps)=true then Oper.wp P p (putAll a N o) w K Q else K ((putAll a N o).put p.dst undef) w)
  (h10:∀ o t w,o 10=none→J o t w→S w→∃ p,ops[10]? = some p∧∀ K:Act→World→Prop,Shut (∀ b t' w',J (upo o 10 b) t' w'→S w'→K (putAll a N (upo o 10 b)) w')→if Region.wanted p (yielded ops (putAll a N o).tmps)=true then Oper.wp P p (putAll a N o) w K Q else K ((putAll a N o).put p.dst undef) w)
  (h12:∀ o t w,o 12=none→J o t w→S w→∃ p,ops[12]? = some p∧∀ K:Act→World→Prop,Shut (∀ b t' w',J (upo o 12 b) t' w'→S w'→K (putAll a N (upo o 12 b)) w')→if Region.wanted p (yielded ops (putAll a N o).tmps)=true then Oper.wp P p (putAll a N o) w K Q else K ((putAll a N o).put p.dst undef) w)
  : wpAnyH P md ops Q S 9 (L6b false false false false false false) a w0:=by
 have:=pool6 (fun o (_:τ)=>putAll a N o) J hR H0 h3 h4 h6 h8 h10 h12 t0 w0 hJ hS;simp only[ea]at this;exact this
section
variable {P:Program} {ops:Array Oper} {Q:Exit→Act→World→Prop} {md:Region.Mode}
def wpAnyR (P:Program) (md:Region.Mode) (ops:Array Oper) (Q:Exit→Act→World→Prop) (R:Nat→World→World→Prop):Nat→Array Bool→Act→World→Prop
 | 0,listed,a,w=>Region.ready md ops listed = []∧Q .normal a w
 | fuel+1,listed,a,w =>
  (Region.ready md ops listed = []→Q .normal a w) ∧
  ∀ i∈Region.ready md ops listed,wpOp P ops Q i (fun a' w'=>R i w w'∧wpAnyR P md ops Q R fuel (listed.setIfInBounds i true) a' w') a w
theorem wpAny_of_R {R:Nat→World→World→Prop}:∀ (fuel:Nat) (listed:Array Bool) (a:Act) (w:World),wpAnyR P md ops Q R fuel listed a w→wpAny P md ops Q fuel listed a w
 | 0,_,_,_,h=>h
 | fuel+1,_,_,_,h=>⟨h.1,fun i hi=>wpOp_mono (fun a' w' h'=>wpAny_of_R fuel _ a' w' h'.2) (h.2 i hi)⟩
theorem wpAnyR_first {R:Nat→World→World→Prop} {Si:World→Prop} {i:Nat} {oi:Oper} {v:Value} (hi:ops[i]? = some oi) (hsel:∀ (j:Nat) (o:Oper) cs b,ops[j]? = some o→o.op≠.select cs b)
  (hQ:∀ c a w,Q (.panic c) (a.put oi.dst v) w→Q (.panic c) a w) (hR:∀ w,R i w w)
  (hw:∀ j oj,ops[j]? = some oj→(∀ e∈oj.after,Region.binds md e=true→e.on≠i)→∀ w w',R j w w'→Si w→Si w') :
  ∀ (fuel:Nat) (listed:Array Bool) (a:Act) (w:World),
   (∀ j oj,ops[j]? = some oj→j≠i→listed.getD j true=false→(∀ e∈oj.after,Region.binds md e=true→e.on≠i)→oi.apart ops oj=true) →
   i∈Region.ready md ops listed→YieldsIf P ops Si oi v a→Si w →
   wpAnyR P md ops Q R fuel (listed.setIfInBounds i true) (a.put oi.dst v) w→wpAnyR P md ops Q R (fuel+1) listed a w:=by
 intro fuel
 induction fuel with
 | zero =>
  intro listed a w _ hr hy hS H;refine⟨fun h=>(by rw[h]at hr;cases hr),fun j hj=>?_⟩
  by_cases hji:j=i
  ·subst hji;exact hy.wpOp hi hS ⟨hR _,H⟩
  ·have:=ready_mono hj hji;rw[H.1]at this
   cases this
 | succ fuel ih =>
  intro listed a w hfree hr hy hS H;refine⟨fun h=>(by rw[h]at hr;cases hr),fun j hj=>?_⟩
  by_cases hji:j=i
  ·subst hji;exact hy.wpOp hi hS ⟨hR _,H⟩
  ·have h1:=H.2 j (ready_mono hj hji);obtain⟨hjun,oj,hoj,hall⟩:=mem_ready.1 hj;have hnot:∀ e∈oj.after,Region.binds md e=true→e.on≠i:=fun e he hb heq=>by
    have h1:=hall e he hb;have h0:=(mem_ready.1 hr).1;rw[heq]at h1
    rcases Nat.lt_or_ge i listed.size with h' | h'
    ·simp[h']at h0 h1;rw[h0]at h1;cases h1
    ·simp[Array.getElem?_eq_none h']at h1
   have h2:=wpOp_putIf hoj (hfree j oj hoj hji hjun hnot) (fun cs b=>hsel i oi cs b hi) (fun cs b=>hsel j oj cs b hoj) hQ hy h1;have hfree':∀ k ok,ops[k]? = some ok→k≠i→(listed.setIfInBounds j true).getD k true=false →
     (∀ e∈ok.after,Region.binds md e=true→e.on≠i)→oi.apart ops ok=true:=fun k ok hk hki hun hno=>by
    refine hfree k ok hk hki ?_ hno
    by_cases hjk:j=k
    ·subst hjk;exact hjun
    ·rw[getD_set_ne true hjk]at hun;exact hun
   refine wpOp_mono (fun a' w' h3=>⟨h3.2.1,ih (listed.setIfInBounds j true) a' w' hfree' (ready_mono hr (Ne.symm hji)) h3.1 (hw j oj hoj hnot _ _ h3.2.1 hS) ?_⟩) h2;rw[Array.setIfInBounds_comm _ _ hji];exact h3.2.2
def Rk (F C:World→Prop) (j1 j2:Nat) (j:Nat) (w w':World):Prop:=(j≠j2→j≠j1→F w→F w')∧(j≠j2→C w→C w')
theorem Rk.refl {F C:World→Prop} {j1 j2 j:Nat} (w:World):Rk F C j1 j2 j w w:=⟨fun _ _ h=>h,fun _ h=>h⟩
def waits (md:Region.Mode) (ops:Array Oper) (j i:Nat):Bool:=match ops[j]? with
 | some o=>o.after.any fun e=>Region.binds md e&&e.on==i
 | none=>true
theorem waits_not {j i:Nat} {oj:Oper} (hj:ops[j]? = some oj) (h:waits md ops j i=true) (hn:∀ e∈oj.after,Region.binds md e=true→e.on≠i):False:=by
 unfold waits at h;rw[hj]at h;simp only[Array.any_eq_true,Bool.and_eq_true,beq_iff_eq]at h;obtain⟨k,hk,hb,he⟩:=h;exact hn _ (Array.getElem_mem hk) hb he
theorem takeF {F C:World→Prop} {j1 j2 i:Nat} {d:Option Tmp} {oi:Oper} {v:Value} {fuel:Nat} {listed:Array Bool} {a:Act} {w:World} (hi:ops[i]? = some oi) (hd:oi.dst=d)
  (hs:Region.noSelect ops=true) (hf:Region.free md ops listed i=true) (hr:(Region.ready md ops listed).contains i=true) (h1:waits md ops j1 i=true) (h2:waits md ops j2 i=true)
  (hQ:∀ c a w,Q (.panic c) (a.put d v) w→Q (.panic c) a w) (hy:YieldsIf P ops F oi v a) (hS:F w)
  (h:wpAnyR P md ops Q (Rk F C j1 j2) fuel (listed.setIfInBounds i true) (a.put d v) w):wpAnyR P md ops Q (Rk F C j1 j2) (fuel+1) listed a w:=by
 subst hd;refine wpAnyR_first (Si:=F) hi (Region.noSelect_spec hs) hQ Rk.refl (fun j oj hj hn w w' hw hF=>hw.1 (fun e=>?_) (fun e=>?_) hF) fuel listed a w (Region.free_spec hi hf) (by simpa using hr) hy hS h
 ·subst e;exact waits_not hj h2 hn
 ·subst e;exact waits_not hj h1 hn
def TF (L:List (Nat × Nat)) (p:Prop):Prop:=p
theorem tfS {p:Prop} (L:List (Nat × Nat)) (h:TF L p):p:=h
theorem tfE {p:Prop} (h:p):TF [] p:=h
theorem tfL {F C:World→Prop} {j1 j2 i dd:Nat} {L:List (Nat × Nat)} {oi:Oper} {v:Value} {fuel:Nat} {listed:Array Bool} {a:Act} {w:World} (hi:ops[i]? = some oi:=by rfl) (hd:oi.dst=some dd:=by rfl)
  (hs:Region.noSelect ops=true:=by kernel_rfl) (hf:Region.free md ops listed i=true:=by kernel_rfl) (hr:(Region.ready md ops listed).contains i=true:=by kernel_rfl) (h1:waits md ops j1 i=true:=by kernel_rfl) (h2:waits md ops j2 i=true:=by kernel_rfl)
  (hQ:∀ c a w,Q (.panic c) (a.put (some dd) v) w→Q (.panic c) a w:=by exact fun _ _ _ h=>h) (hy:YieldsIf P ops F oi v a) (hS:F w)
  (h:TF L (wpAnyR P md ops Q (Rk F C j1 j2) fuel (listed.setIfInBounds i true) (a.put (some dd) v) w)):TF ((i,dd)::L) (wpAnyR P md ops Q (Rk F C j1 j2) (fuel+1) listed a w) :=
 takeF hi hd hs hf hr h1 h2 hQ hy hS h
theorem oneR {R:Nat→World→World→Prop} {i:Nat} {o:Oper} {fuel:Nat} {listed:Array Bool} {a:Act} {w:World} (hr:Region.ready md ops listed = [i]) (ho:ops[i]? = some o)
  (h:∀ K':Act→World→Prop,Shut (∀ a' w',R i w w'→wpAnyR P md ops Q R fuel (listed.setIfInBounds i true) a' w'→K' a' w')→if Region.wanted o (yielded ops a.tmps)=true then Oper.wp P o a w K' Q else K' (a.put o.dst undef) w) :
  wpAnyR P md ops Q R (fuel+1) listed a w:=by
 refine⟨fun h0=>absurd (hr ▸ h0) (by simp),fun j hj=>?_⟩;rw[hr,List.mem_singleton]at hj;subst hj;exact wpOp_step ho (fun K' hK=>h K' (fun a' w' h1 h2=>hK a' w' ⟨h1,h2⟩))
theorem doneR {R:Nat→World→World→Prop} {listed:Array Bool} {a:Act} {w:World} (hr:Region.ready md ops listed = []) (h:Q .normal a w):∀ fuel,wpAnyR P md ops Q R fuel listed a w
 | 0=>⟨hr,h⟩
 | _+1=>⟨fun _=>h,by rw[hr];simp⟩
theorem startR {R:Nat→World→World→Prop} {id:Nat} {a:Act} {w:World} (hm:P.follows .mixedOrders=true)
  (h:wpAnyR P .any ops Q R ops.size (Array.replicate ops.size false) a w.drew):(Code.region id ops true).wp P Q a w :=
 wp_region_any hm (wpAny_of_R _ _ _ _ h)
end
end Go.Proofs.YtbnkoefljcekbaaGreatDoor