/-
 Several texts of mine as one, without what is not wanted here: XPool, XQp, XWkT, XPool3, XQs.
-/
import Derived.Test.YtbnkoefljcekbaaGreatDoorPyGi
set_option linter.unusedVariables false
set_option linter.unusedSimpArgs false
set_option maxRecDepth 100000
set_option maxHeartbeats 8000000
namespace Go.Proofs.YtbnkoefljcekbaaGreatDoor
open Go.RowKit
theorem pool {P:Program} {ops:Array Oper} {Q:Exit→Act→World→Prop} {md:Region.Mode} {S:World→Prop} {σ:Type} (L:σ→Array Bool) (A:σ→Act) (J:σ→World→Prop) (m:σ→Nat) (base:Nat)
  (H0:∀ s w,m s=0→J s w→S w→wpAnyH P md ops Q S base (L s) (A s) w)
  (H1:∀ s w,m s≠0→J s w→S w→Region.ready md ops (L s)≠[]∧∀ i∈Region.ready md ops (L s),∃ o,ops[i]? = some o ∧
   ∀ K:Act→World→Prop,Shut (∀ s' w',m s'+1=m s→L s'=(L s).setIfInBounds i true→J s' w'→S w'→K (A s') w')→if Region.wanted o (yielded ops (A s).tmps)=true then Oper.wp P o (A s) w K Q else K ((A s).put o.dst undef) w) :
  ∀ n s w,m s=n→J s w→S w→wpAnyH P md ops Q S (base+n) (L s) (A s) w
 | 0,s,w,h,hJ,hS=>H0 s w h hJ hS
 | n+1,s,w,h,hJ,hS=>by
  obtain⟨hne,hall⟩:=H1 s w (by omega) hJ hS;refine⟨fun h0=>absurd h0 hne,fun i hi=>?_⟩;obtain⟨o,ho,hw⟩:=hall i hi;exact wpOp_step ho (fun K' hK=>hw K' (fun s' w' hm hL hJ' hS'=>hK _ _ ⟨hS',by rw[← hL];exact pool L A J m base H0 H1 n s' w' (by omega) hJ' hS'⟩))
/-! a region whose operations 3,4,6,8,10,12 come in whatever order,then 13,14,15 -/
def L6b (b3 b4 b6 b8 b10 b12:Bool):Array Bool:=#[true,true,true,b3,b4,true,b6,true,b8,true,b10,true,b12,false,false,false]
def L6 (o:Nat→Option Nat):Array Bool:=#[true,true,true,(o 3).isSome,(o 4).isSome,true,(o 6).isSome,true,(o 8).isSome,true,(o 10).isSome,true,(o 12).isSome,false,false,false]
def upo (o:Nat→Option Nat) (k b:Nat):Nat→Option Nat:=fun j=>if j=k then some b else o j
def n1 (x:Option Nat):Nat:=match x with
 | none=>1
 | some _=>0
def m6 (o:Nat→Option Nat):Nat:=n1 (o 3)+n1 (o 4)+n1 (o 6)+n1 (o 8)+n1 (o 10)+n1 (o 12)
def chk6 (R:Array Bool→List Nat) (b3 b4 b6 b8 b10 b12:Bool):Bool:=(b3&&b4&&b6&&b8&&b10&&b12)||(!(R (L6b b3 b4 b6 b8 b10 b12)).isEmpty&&(R (L6b b3 b4 b6 b8 b10 b12)).all fun i=>(i==3 && !b3)||(i==4 && !b4)||(i==6 && !b6)||(i==8 && !b8)||(i==10 && !b10)||(i==12 && !b12))
theorem pool6 {P:Program} {ops:Array Oper} {Q:Exit→Act→World→Prop} {md:Region.Mode} {S:World→Prop} {τ:Type} (A:(Nat→Option Nat)→τ→Act) (J:(Nat→Option Nat)→τ→World→Prop)
  (hR:∀ b3 b4 b6 b8 b10 b12:Bool,chk6 (Region.ready md ops) b3 b4 b6 b8 b10 b12=true)
  (H0:∀ o t w,(o 3).isSome=true∧(o 4).isSome=true∧(o 6).isSome=true∧(o 8).isSome=true∧(o 10).isSome=true∧(o 12).isSome=true→J o t w→S w→wpAnyH P md ops Q S 3 (L6b true true true true true true) (A o t) w)
  (h3:∀ o t w,o 3=none→J o t w→S w→∃ p,ops[3]? = some p∧∀ K:Act→World→Prop,Shut (∀ b t' w',J (upo o 3 b) t' w'→S w'→K (A (upo o 3 b) t') w')→if Region.wanted p (yielded ops (A o t).tmps)=true then Oper.wp P p (A o t) w K Q else K ((A o t).put p.dst undef) w)
  (h4:∀ o t w,o 4=none→J o t w→S w→∃ p,ops[4]? = some p∧∀ K:Act→World→Prop,Shut (∀ b t' w',J (upo o 4 b) t' w'→S w'→K (A (upo o 4 b) t') w')→if Region.wanted p (yielded ops (A o t).tmps)=true then Oper.wp P p (A o t) w K Q else K ((A o t).put p.dst undef) w)
  (h6:∀ o t w,o 6=none→J o t w→S w→∃ p,ops[6]? = some p∧∀ K:Act→World→Prop,Shut (∀ b t' w',J (upo o 6 b) t' w'→S w'→K (A (upo o 6 b) t') w')→if Region.wanted p (yielded ops (A o t).tmps)=true then Oper.wp P p (A o t) w K Q else K ((A o t).put p.dst undef) w)
  (h8:∀ o t w,o 8=none→J o t w→S w→∃ p,ops[8]? = some p∧∀ K:Act→World→Prop,Shut (∀ b t' w',J (upo o 8 b) t' w'→S w'→K (A (upo o 8 b) t') w')→if Region.wanted p (yielded ops (A o t).tmps)=true then Oper.wp P p (A o t) w K Q else K ((A o t).put p.dst undef) w)
  (h10:∀ o t w,o 10=none→J o t w→S w→∃ p,ops[10]? = some p∧∀ K:Act→World→Prop,Shut (∀ b t' w',J (upo o 10 b) t' w'→S w'→K (A (upo o 10 b) t') w')→if Region.wanted p (yielded ops (A o t).tmps)=true then Oper.wp P p (A o t) w K Q else K ((A o t).put p.dst undef) w)
  (h12:∀ o t w,o 12=none→J o t w→S w→∃ p,ops[12]? = some p∧∀ K:Act→World→Prop,Shut (∀ b t' w',J (upo o 12 b) t' w'→S w'→K (A (upo o 12 b) t') w')→if Region.wanted p (yielded ops (A o t).tmps)=true then Oper.wp P p (A o t) w K Q else K ((A o t).put p.dst undef) w)
  (t0:τ) (w0:World) (hJ:J (fun _=>none) t0 w0) (hS:S w0):wpAnyH P md ops Q S 9 (L6b false false false false false false) (A (fun _=>none) t0) w0:=by
 have hz:∀ x:Option Nat,n1 x=0→x.isSome=true:=fun x h=>by cases x with
  | none=>cases h
  | some _=>rfl
 refine pool (σ:=(Nat→Option Nat) × τ) (fun s=>L6 s.1) (fun s=>A s.1 s.2) (fun s w=>J s.1 s.2 w) (fun s=>m6 s.1) 3 ?_ ?_ 6 (fun _=>none,t0) w0 rfl hJ hS
 ·rintro⟨o,t⟩ w hm hJ hS;simp only[m6]at hm;have e:∀ k,(o k).isSome=true→(o k).isSome=true:=fun _ h=>h;have a3:=hz (o 3) (by omega);have a4:=hz (o 4) (by omega);have a6:=hz (o 6) (by omega);have a8:=hz (o 8) (by omega);have a10:=hz (o 10) (by omega);have a12:=hz (o 12) (by omega);have:=H0 o t w ⟨a3,a4,a6,a8,a10,a12⟩ hJ hS;show wpAnyH P md ops Q S 3 (L6 o) (A o t) w;unfold L6;rw[a3,a4,a6,a8,a10,a12];exact this
 ·rintro⟨o,t⟩ w hm hJ hS;simp only[m6]at hm;have hc:=hR (o 3).isSome (o 4).isSome (o 6).isSome (o 8).isSome (o 10).isSome (o 12).isSome;have hn:∀ x:Option Nat,x.isSome=false→x=none:=fun x h=>by cases x with
   | none=>rfl
   | some _=>cases h
  have hno:((o 3).isSome&&(o 4).isSome&&(o 6).isSome&&(o 8).isSome&&(o 10).isSome&&(o 12).isSome)=false:=by
   cases e:((o 3).isSome&&(o 4).isSome&&(o 6).isSome&&(o 8).isSome&&(o 10).isSome&&(o 12).isSome)
   ·rfl
   ·simp only[Bool.and_eq_true]at e;obtain⟨⟨⟨⟨⟨e3,e4⟩,e6⟩,e8⟩,e10⟩,e12⟩:=e;have q:∀ x:Option Nat,x.isSome=true→n1 x=0:=fun x h=>by cases x with
     | none=>cases h
     | some _=>rfl
    rw[q _ e3,q _ e4,q _ e6,q _ e8,q _ e10,q _ e12]at hm;exact absurd rfl hm
  unfold chk6 at hc;rw[hno,Bool.false_or,Bool.and_eq_true]at hc;obtain⟨c1,c2⟩:=hc;have hne:Region.ready md ops (L6 o)≠[]:=fun e=>by
   change (!(Region.ready md ops (L6 o)).isEmpty)=true at c1
   rw[e]at c1;cases c1
  refine⟨hne,fun i hi=>?_⟩;rw[List.all_eq_true]at c2;have ci:=c2 i hi;simp only[Bool.or_eq_true,Bool.and_eq_true,beq_iff_eq,Bool.not_eq_true']at ci
  rcases ci with ((((⟨rfl,c⟩ | ⟨rfl,c⟩) | ⟨rfl,c⟩) | ⟨rfl,c⟩) | ⟨rfl,c⟩) | ⟨rfl,c⟩
  ·have hk:=hn _ c;obtain⟨p,hp,hw⟩:=h3 o t w hk hJ hS;refine⟨p,hp,fun K hK=>hw K (fun b t' w' hJ' hS'=>hK (upo o 3 b,t') w' ?_ rfl hJ' hS')⟩;show m6 (upo o 3 b)+1=m6 o;simp only[m6,upo,hk];simp[n1]
   try omega
  ·have hk:=hn _ c;obtain⟨p,hp,hw⟩:=h4 o t w hk hJ hS;refine⟨p,hp,fun K hK=>hw K (fun b t' w' hJ' hS'=>hK (upo o 4 b,t') w' ?_ rfl hJ' hS')⟩;show m6 (upo o 4 b)+1=m6 o;simp only[m6,upo,hk];simp[n1]
   try omega
  ·have hk:=hn _ c;obtain⟨p,hp,hw⟩:=h6 o t w hk hJ hS;refine⟨p,hp,fun K hK=>hw K (fun b t' w' hJ' hS'=>hK (upo o 6 b,t') w' ?_ rfl hJ' hS')⟩;show m6 (upo o 6 b)+1=m6 o;simp only[m6,upo,hk];simp[n1]
   try omega
  ·have hk:=hn _ c;obtain⟨p,hp,hw⟩:=h8 o t w hk hJ hS;refine⟨p,hp,fun K hK=>hw K (fun b t' w' hJ' hS'=>hK (upo o 8 b,t') w' ?_ rfl hJ' hS')⟩;show m6 (upo o 8 b)+1=m6 o;simp only[m6,upo,hk];simp[n1]
   try omega
  ·have hk:=hn _ c;obtain⟨p,hp,hw⟩:=h10 o t w hk hJ hS;refine⟨p,hp,fun K hK=>hw K (fun b t' w' hJ' hS'=>hK (upo o 10 b,t') w' ?_ rfl hJ' hS')⟩;show m6 (upo o 10 b)+1=m6 o;simp only[m6,upo,hk];simp[n1]
   try omega
  ·have hk:=hn _ c;obtain⟨p,hp,hw⟩:=h12 o t w hk hJ hS;refine⟨p,hp,fun K hK=>hw K (fun b t' w' hJ' hS'=>hK (upo o 12 b,t') w' ?_ rfl hJ' hS')⟩;show m6 (upo o 12 b)+1=m6 o;simp only[m6,upo,hk];simp[n1]
   try omega
def pvS (N:Nat) (x:Option Nat):Value:=match x with
 | none=>undef
 | some b=>.slice (some ⟨b,0,none⟩) N N
def pvM (x:Option Nat):Value:=match x with
 | none=>undef
 | some b=>.map (some b)
def putAll (a:Act) (N:Nat) (o:Nat→Option Nat):Act:=(((((a.put (some 13) (pvS N (o 3))).put (some 14) (pvM (o 4))).put (some 16) (pvS N (o 6))).put (some 18) (pvS N (o 8))).put (some 20) (pvS N (o 10))).put (some 22) (pvS N (o 12))
theorem pool6a {P:Program} {ops:Array Oper} {Q:Exit→Act→World→Prop} {md:Region.Mode} {S:World→Prop} {τ:Type} (N:Nat) (J:(Nat→Option Nat)→τ→World→Prop) (a:Act) (ea:putAll a N (fun _=>none)=a)
  (hR:∀ b3 b4 b6 b8 b10 b12:Bool,chk6 (Region.ready md ops) b3 b4 b6 b8 b10 b12=true) (t0:τ) (w0:World) (hJ:J (fun _=>none) t0 w0) (hS:S w0)
  (H0:∀ o t w,(o 3).isSome=true∧(o 4).isSome=true∧(o 6).isSome=true∧(o 8).isSome=true∧(o 10).isSome=true∧(o 12).isSome=true→J o t w→S w→wpAnyH P md ops Q S 3 (L6b true true true true true true) (putAll a N o) w)
  (h3:∀ o t w,o 3=none→J o t w→S w→∃ p,ops[3]? = some p∧∀ K:Act→World→Prop,Shut (∀ b t' w',J (upo o 3 b) t' w'→S w'→K (putAll a N (upo o 3 b)) w')→if Region.wanted p (yielded ops (putAll a N o).tmps)=true then Oper.wp P p (putAll a N o) w K Q else K ((putAll a N o).put p.dst undef) w)
  (h4:∀ o t w,o 4=none→J o t w→S w→∃ p,ops[4]? = some p∧∀ K:Act→World→Prop,Shut (∀ b t' w',J (upo o 4 b) t' w'→S w'→K (putAll a N (upo o 4 b)) w')→if Region.wanted p (yielded ops (putAll a N o).tmps)=true then Oper.wp P p (putAll a N o) w K Q else K ((putAll a N o).put p.dst undef) w)
  (h6:∀ o t w,o 6=none→J o t w→S w→∃ p,ops[6]? = some p∧∀ K:Act→World→Prop,Shut (∀ b t' w',J (upo o 6 b) t' w'→S w'→K (putAll a N (upo o 6 b)) w')→if Region.wanted p (yielded ops (putAll a N o).tmps)=true then Oper.wp P p (putAll a N o) w K Q else K ((putAll a N o).put p.dst undef) w)
  (h8:∀ o t w,o 8=none→J o t w→S w→∃ p,ops[8]? = some p∧∀ K:Act→World→Prop,Shut (∀ b t' w',J (upo o 8 b) t' w'→S w'→K (putAll a N (upo o 8 b)) w')→if Region.wanted p (yielded ops (putAll a N o).tmps)=true then Oper.wp P p (putAll a N o) w K Q else K ((putAll a N o).put p.dst undef) w)
  (h10:∀ o t w,o 10=none→J o t w→S w→∃ p,ops[10]? = some p∧∀ K:Act→World→Prop,Shut (∀ b t' w',J (upo o 10 b) t' w'→S w'→K (putAll a N (upo o 10 b)) w')→if Region.wanted p (yielded ops (putAll a N o).tmps)=true then Oper.wp P p (putAll a N o) w K Q else K ((putAll a N o).put p.dst undef) w)
  (h12:∀ o t w,o 12=none→J o t w→S w→∃ p,ops[12]? = some p∧∀ K:Act→World→Prop,Shut (∀ b t' w',J (upo o 12 b) t' w'→S w'→K (putAll a N (upo o 12 b)) w')→if Region.wanted p (yielded ops (putAll a N o).tmps)=true then Oper.wp P p (putAll a N o) w K Q else K ((putAll a N o).put p.dst undef) w)
  : wpAnyH P md ops Q S 9 (L6b false false false false false false) a w0:=by
 have:=pool6 (fun o (_:τ)=>putAll a N o) J hR H0 h3 h4 h6 h8 h10 h12 t0 w0 hJ hS;simp only[ea]at this;exact this
end Go.Proofs.YtbnkoefljcekbaaGreatDoor
namespace Go.Proofs.YtbnkoefljcekbaaGreatDoor
theorem beginR_pre (F:FP) (t:Int) (i:Nat) (bo:Option Nat) (R:List RR):R <+: beginR F t i bo R:=by
 unfold beginR
 split
 ·exact List.prefix_refl R
 ·exact List.prefix_append R _
theorem strtR_pre (F:FP) (q:QS) (R:List RR) (i:Nat):R <+: strtR F q R i:=by
 unfold strtR
 split
 ·exact beginR_pre F _ i none R
 ·exact List.prefix_refl R
theorem dblR_pre (F:FP) (t:Int) (lost:Nat→Int) (R:List RR) (i:Nat):R <+: dblR F t lost R i:=by
 unfold dblR
 split
 ·split
  ·exact beginR_pre F t i _ R
  ·exact List.prefix_refl R
 ·exact List.prefix_refl R
theorem fold_pre {f:List RR→Nat→List RR} (hf:∀ R i,R <+: f R i):∀ (l:List Nat) (R:List RR),R <+: l.foldl f R
 | [],R=>List.prefix_refl R
 | i::l,R=>(hf R i).trans (fold_pre hf l (f R i))
def strTo (F:FP) (q:QS) (m:Nat):QS:={ q with runs:=(F.order.take m).foldl (strtR F q) q.runs }
theorem strTo_all (F:FP) (q:QS) {m:Nat} (h:F.order.length≤m):strTo F q m=startQ F q:=by
 unfold strTo startQ;rw[List.take_of_length_le h]
theorem strTo_next {F:FP} {q:QS} {m i:Nat} (h:F.order[m]? = some i):strTo F q (m+1) = { q with runs:=strtR F q (strTo F q m).runs i }:=by
 unfold strTo;simp only;rw[List.take_add_one,h,Option.toList_some,List.foldl_append];rfl
theorem strTo_pre (F:FP) (q:QS) (m:Nat):(strTo F q m).runs <+: (startQ F q).runs:=by
 show (F.order.take m).foldl _ _ <+: F.order.foldl _ _
 conv=>rhs;rw[← List.take_append_drop m F.order,List.foldl_append]
 exact fold_pre (strtR_pre F q) _ _
def dblTo (F:FP) (q:QS) (m:Nat):QS:={ q with runs:=(List.range m).foldl (dblR F q.at_ q.lost) q.runs }
theorem dblTo_all (F:FP) (q:QS) (h:F.doubles=true):dblTo F q F.nX=dblQ F q:=by
 unfold dblTo dblQ;rw[if_pos h]
theorem dblQ_no {F:FP} {q:QS} (h:F.doubles=false):dblQ F q=q:=by
 unfold dblQ;rw[h,if_neg (by decide)]
theorem dblTo_next (F:FP) (q:QS) (m:Nat):dblTo F q (m+1) = { q with runs:=dblR F q.at_ q.lost (dblTo F q m).runs m }:=by
 unfold dblTo;simp only;rw[List.range_succ,List.foldl_append];rfl
theorem dblTo_pre {F:FP} {q:QS} {m:Nat} (h:F.doubles=true) (hm:m≤F.nX):(dblTo F q m).runs <+: (dblQ F q).runs:=by
 rw[← dblTo_all F q h];show (List.range m).foldl _ _ <+: (List.range F.nX).foldl _ _;obtain⟨k,hk⟩:=Nat.exists_eq_add_of_le hm;rw[hk,List.range_add,List.foldl_append];exact fold_pre (dblR_pre F q.at_ q.lost) _ _
end Go.Proofs.YtbnkoefljcekbaaGreatDoor
namespace Go.Proofs.YtbnkoefljcekbaaGreatDoor
open Go.RowKit
section
variable {P:Program} {ops:Array Oper} {Q:Exit→Act→World→Prop} {md:Region.Mode}
def reach (md:Region.Mode) (ops:Array Oper):Nat→Nat→Nat→Bool
 | 0,_,_=>false
 | n+1,j,i=>match ops[j]? with
  | some o=>o.after.any fun e=>Region.binds md e&&(e.on==i||reach md ops n e.on i)
  | none=>false
def Clsd (md:Region.Mode) (ops:Array Oper) (listed:Array Bool):Prop:=∀ j oj,ops[j]? = some oj→listed.getD j false=true→∀ e∈oj.after,Region.binds md e=true→listed.getD e.on false=true
def clsdB (md:Region.Mode) (ops:Array Oper) (listed:Array Bool):Bool:=(List.range ops.size).all fun j=>match ops[j]? with
 | some o=>!listed.getD j false||o.after.all fun e=>!Region.binds md e||listed.getD e.on false
 | none=>true
theorem clsd_of {listed:Array Bool} (h:clsdB md ops listed=true):Clsd md ops listed:=fun j oj hj hl e he hb=>by
 unfold clsdB at h;rw[List.all_eq_true]at h;have:=h j (List.mem_range.2 (Array.getElem?_eq_some_iff.1 hj).1);rw[hj]at this;simp only[hl,Bool.not_true,Bool.false_or,Array.all_eq_true_iff_forall_mem]at this;have:=this e he;rw[hb]at this
 simpa using this
theorem reach_listed {listed:Array Bool} (hc:Clsd md ops listed) {i:Nat}:∀ (n j:Nat),(∀ oj,ops[j]? = some oj→∀ e∈oj.after,Region.binds md e=true→listed.getD e.on false=true)→reach md ops n j i=true→listed.getD i false=true
 | 0,_,_,h=>by cases h
 | n+1,j,hj,h=>by
  unfold reach at h
  split at h
  ·rename_i o ho
   simp only[Array.any_eq_true,Bool.and_eq_true,Bool.or_eq_true,beq_iff_eq]at h;obtain⟨k,hk,hb,he⟩:=h;have hl:=hj o ho _ (Array.getElem_mem hk) hb
   rcases he with he | he
   ·rw[he]at hl;exact hl
   ·exact reach_listed hc n _ (fun oj hoj e hem heb=>hc _ oj hoj hl e hem heb) he
  ·cases h
theorem Clsd.set {listed:Array Bool} (h:Clsd md ops listed) {j:Nat} (hr:j∈Region.ready md ops listed):Clsd md ops (listed.setIfInBounds j true):=fun k ok hk hl e he hb=>by
 obtain⟨_,o,ho,hall⟩:=mem_ready.1 hr;have key:listed.getD e.on false=true:=by
  by_cases hkj:j=k
  ·subst hkj;rw[hk]at ho;injection ho with ho;subst ho;exact hall e he hb
  ·rw[getD_set_ne false hkj]at hl;exact h k ok hk hl e he hb
 by_cases hje:j=e.on
 ·rw[← hje];rw[← hje]at key
  rcases Nat.lt_or_ge j listed.size with h' | h'
  ·simp[h']
  ·simp[Array.getElem?_eq_none h']at key
 ·rw[getD_set_ne false hje];exact key
theorem wpAnyR_firstT {R:Nat→World→World→Prop} {Si:World→Prop} {i:Nat} {oi:Oper} {v:Value} (N:Nat) (hi:ops[i]? = some oi) (hsel:∀ (j:Nat) (o:Oper) cs b,ops[j]? = some o→o.op≠.select cs b)
  (hQ:∀ c a w,Q (.panic c) (a.put oi.dst v) w→Q (.panic c) a w) (hR:∀ w,R i w w)
  (hw:∀ j oj,ops[j]? = some oj→reach md ops N j i=false→∀ w w',R j w w'→Si w→Si w') :
  ∀ (fuel:Nat) (listed:Array Bool) (a:Act) (w:World),Clsd md ops listed →
   (∀ j oj,ops[j]? = some oj→j≠i→listed.getD j true=false→(∀ e∈oj.after,Region.binds md e=true→e.on≠i)→oi.apart ops oj=true) →
   i∈Region.ready md ops listed→YieldsIf P ops Si oi v a→Si w →
   wpAnyR P md ops Q R fuel (listed.setIfInBounds i true) (a.put oi.dst v) w→wpAnyR P md ops Q R (fuel+1) listed a w:=by
 intro fuel
 induction fuel with
 | zero =>
  intro listed a w _ _ hr hy hS H;refine⟨fun h=>(by rw[h]at hr;cases hr),fun j hj=>?_⟩
  by_cases hji:j=i
  ·subst hji;exact hy.wpOp hi hS ⟨hR _,H⟩
  ·have:=ready_mono hj hji;rw[H.1]at this
   cases this
 | succ fuel ih =>
  intro listed a w hcl hfree hr hy hS H;refine⟨fun h=>(by rw[h]at hr;cases hr),fun j hj=>?_⟩
  by_cases hji:j=i
  ·subst hji;exact hy.wpOp hi hS ⟨hR _,H⟩
  ·have h1:=H.2 j (ready_mono hj hji);obtain⟨hjun,oj,hoj,hall⟩:=mem_ready.1 hj;have hun:listed.getD i false=false:=by
    have h0:=(mem_ready.1 hr).1
    rcases Nat.lt_or_ge i listed.size with h' | h'
    ·simp[h']at h0 ⊢;exact h0
    ·simp[Array.getElem?_eq_none h']at h0
   have hnot:∀ e∈oj.after,Region.binds md e=true→e.on≠i:=fun e he hb heq=>by
    have h1:=hall e he hb;rw[heq,hun]at h1
    cases h1
   have hnr:reach md ops N j i=false:=by
    cases hh:reach md ops N j i
    ·rfl
    ·have:=reach_listed hcl N j (fun oj' hoj' e he hb=>by rw[hoj]at hoj';injection hoj' with hoj';subst hoj';exact hall e he hb) hh;rw[hun]at this
     cases this
   have h2:=wpOp_putIf hoj (hfree j oj hoj hji hjun hnot) (fun cs b=>hsel i oi cs b hi) (fun cs b=>hsel j oj cs b hoj) hQ hy h1;have hfree':∀ k ok,ops[k]? = some ok→k≠i→(listed.setIfInBounds j true).getD k true=false →
     (∀ e∈ok.after,Region.binds md e=true→e.on≠i)→oi.apart ops ok=true:=fun k ok hk hki hun hno=>by
    refine hfree k ok hk hki ?_ hno
    by_cases hjk:j=k
    ·subst hjk;exact hjun
    ·rw[getD_set_ne true hjk]at hun;exact hun
   refine wpOp_mono (fun a' w' h3=>⟨h3.2.1,ih (listed.setIfInBounds j true) a' w' (hcl.set hj) hfree' (ready_mono hr (Ne.symm hji)) h3.1 (hw j oj hoj hnr _ _ h3.2.1 hS) ?_⟩) h2;rw[Array.setIfInBounds_comm _ _ hji];exact h3.2.2
theorem takeT {F C:World→Prop} {j1 j2 i:Nat} {d:Option Tmp} {oi:Oper} {v:Value} {fuel:Nat} {listed:Array Bool} {a:Act} {w:World} (hi:ops[i]? = some oi) (hd:oi.dst=d)
  (hs:Region.noSelect ops=true) (hf:Region.free md ops listed i=true) (hr:(Region.ready md ops listed).contains i=true) (hcl:clsdB md ops listed=true) (h1:reach md ops ops.size j1 i=true) (h2:reach md ops ops.size j2 i=true)
  (hQ:∀ c a w,Q (.panic c) (a.put d v) w→Q (.panic c) a w) (hy:YieldsIf P ops F oi v a) (hS:F w)
  (h:wpAnyR P md ops Q (Rk F C j1 j2) fuel (listed.setIfInBounds i true) (a.put d v) w):wpAnyR P md ops Q (Rk F C j1 j2) (fuel+1) listed a w:=by
 subst hd;refine wpAnyR_firstT (Si:=F) ops.size hi (Region.noSelect_spec hs) hQ Rk.refl (fun j oj hj hn w w' hw hF=>hw.1 (fun e=>?_) (fun e=>?_) hF) fuel listed a w (clsd_of hcl) (Region.free_spec hi hf) (by simpa using hr) hy hS h
 ·subst e;rw[h2]at hn;cases hn
 ·subst e;rw[h1]at hn;cases hn
end
def L3b (b3 b7 b11:Bool):Array Bool:=#[true,true,true,b3,true,true,true,b7,true,true,true,b11,false,false,false]
def chk3 (R:Array Bool→List Nat) (b3 b7 b11:Bool):Bool:=(b3&&b7&&b11)||(!(R (L3b b3 b7 b11)).isEmpty&&(R (L3b b3 b7 b11)).all fun i=>(i==3 && !b3)||(i==7 && !b7)||(i==11 && !b11))
def pvO (x:Option Value):Value:=x.getD undef
def putO (a:Act) (x y z:Option Value):Act:=((a.put (some 9) (pvO x)).put (some 13) (pvO y)).put (some 17) (pvO z)
def n1v (x:Option Value):Nat:=match x with
 | none=>1
 | some _=>0
theorem pool3 {P:Program} {ops:Array Oper} {Q:Exit→Act→World→Prop} {md:Region.Mode} {S:World→Prop} (J:Option Value→Option Value→Option Value→World→Prop) (a:Act) (ea:putO a none none none=a)
  (hR:∀ b3 b7 b11:Bool,chk3 (Region.ready md ops) b3 b7 b11=true) (w0:World) (hJ:J none none none w0) (hS:S w0)
  (H0:∀ x y z w,J (some x) (some y) (some z) w→S w→wpAnyH P md ops Q S 3 (L3b true true true) (putO a (some x) (some y) (some z)) w)
  (h3:∀ y z w,J none y z w→S w→∃ p,ops[3]? = some p∧∀ K:Act→World→Prop,Shut (∀ x w',J (some x) y z w'→S w'→K (putO a (some x) y z) w')→if Region.wanted p (yielded ops (putO a none y z).tmps)=true then Oper.wp P p (putO a none y z) w K Q else K ((putO a none y z).put p.dst undef) w)
  (h7:∀ x z w,J x none z w→S w→∃ p,ops[7]? = some p∧∀ K:Act→World→Prop,Shut (∀ y w',J x (some y) z w'→S w'→K (putO a x (some y) z) w')→if Region.wanted p (yielded ops (putO a x none z).tmps)=true then Oper.wp P p (putO a x none z) w K Q else K ((putO a x none z).put p.dst undef) w)
  (h11:∀ x y w,J x y none w→S w→∃ p,ops[11]? = some p∧∀ K:Act→World→Prop,Shut (∀ z w',J x y (some z) w'→S w'→K (putO a x y (some z)) w')→if Region.wanted p (yielded ops (putO a x y none).tmps)=true then Oper.wp P p (putO a x y none) w K Q else K ((putO a x y none).put p.dst undef) w) :
  wpAnyH P md ops Q S 6 (L3b false false false) a w0:=by
 have hz:∀ x:Option Value,n1v x=0→∃ v,x=some v:=fun x h=>by cases x with
  | none=>cases h
  | some v=>exact⟨v,rfl⟩
 have key:=pool (P:=P) (ops:=ops) (Q:=Q) (md:=md) (S:=S) (σ:=Option Value × Option Value × Option Value) (fun s=>L3b s.1.isSome s.2.1.isSome s.2.2.isSome) (fun s=>putO a s.1 s.2.1 s.2.2) (fun s w=>J s.1 s.2.1 s.2.2 w) (fun s=>n1v s.1+n1v s.2.1+n1v s.2.2) 3 ?_ ?_ 3 (none,none,none) w0 rfl hJ hS
 ·rw[ea]at key;exact key
 ·rintro⟨x,y,z⟩ w hm hJ hS;simp only at hm hJ;obtain⟨x,rfl⟩:=hz x (by omega);obtain⟨y,rfl⟩:=hz y (by omega);obtain⟨z,rfl⟩:=hz z (by omega);exact H0 x y z w hJ hS
 ·rintro⟨x,y,z⟩ w hm hJ hS;simp only at hm hJ;have hc:=hR x.isSome y.isSome z.isSome;have hn:∀ x:Option Value,x.isSome=false→x=none:=fun x h=>by cases x with
   | none=>rfl
   | some _=>cases h
  have hno:(x.isSome&&y.isSome&&z.isSome)=false:=by
   cases e:(x.isSome&&y.isSome&&z.isSome)
   ·rfl
   ·simp only[Bool.and_eq_true]at e;obtain⟨⟨e3,e4⟩,e6⟩:=e;have q:∀ x:Option Value,x.isSome=true→n1v x=0:=fun x h=>by cases x with
     | none=>cases h
     | some _=>rfl
    rw[q _ e3,q _ e4,q _ e6]at hm;exact absurd rfl hm
  unfold chk3 at hc;rw[hno,Bool.false_or,Bool.and_eq_true]at hc;obtain⟨c1,c2⟩:=hc;refine⟨fun e=>(by simp only at e;rw[e]at c1;cases c1),fun i hi=>?_⟩;rw[List.all_eq_true]at c2;have ci:=c2 i hi;simp only[Bool.or_eq_true,Bool.and_eq_true,beq_iff_eq,Bool.not_eq_true']at ci
  rcases ci with (⟨rfl,c⟩ | ⟨rfl,c⟩) | ⟨rfl,c⟩
  ·obtain rfl:=hn _ c;obtain⟨p,hp,hw⟩:=h3 y z w hJ hS;exact⟨p,hp,fun K hK=>hw K (fun v w' hJ' hS'=>hK (some v,y,z) w' (by simp only[n1v];try omega) rfl hJ' hS')⟩
  ·obtain rfl:=hn _ c;obtain⟨p,hp,hw⟩:=h7 x z w hJ hS;exact⟨p,hp,fun K hK=>hw K (fun v w' hJ' hS'=>hK (x,some v,z) w' (by simp only[n1v];try omega) rfl hJ' hS')⟩
  ·obtain rfl:=hn _ c;obtain⟨p,hp,hw⟩:=h11 x y w hJ hS;exact⟨p,hp,fun K hK=>hw K (fun v w' hJ' hS'=>hK (x,y,some v) w' (by simp only[n1v];try omega) rfl hJ' hS')⟩
end Go.Proofs.YtbnkoefljcekbaaGreatDoor
namespace Go.Proofs.YtbnkoefljcekbaaGreatDoor
theorem strict_uniq {α:Type} {lt:α→α→Prop} (asym:∀ a b,lt a b→lt b a→False):∀ {l m:List α},l.Perm m→l.Pairwise lt→m.Pairwise lt→l=m
 | [],m,h,_,_=>(List.nil_perm.1 h).symm
 | a::l,[],h,_,_=>absurd h.length_eq (by simp)
 | a::l,b::m,h,h1,h2=>by
  have ha:a∈b::m:=h.mem_iff.1 List.mem_cons_self;have hb:b∈a::l:=h.mem_iff.2 List.mem_cons_self;rw[List.pairwise_cons]at h1 h2;have e:a=b:=by
   rcases List.mem_cons.1 ha with e | ha
   ·exact e
   ·rcases List.mem_cons.1 hb with e | hb
    ·exact e.symm
    ·exact absurd (h1.1 b hb) (fun x=>asym a b x (h2.1 a ha))
  subst e;rw[strict_uniq asym (List.Perm.cons_inv h) h1.2 h2.2]
theorem ins_sortedQ {α:Type} {lt:α→α→Prop} (trans:∀ a b c,lt a b→lt b c→lt a c) {L:List α} {x:α} {k:Nat} (hs:L.Pairwise lt) (hk:k≤L.length)
  (h1:∀ y∈L.drop k,lt x y) (h2:∀ y,0<k→L[k-1]? = some y→lt y x):(L.take k++x::L.drop k).Pairwise lt:=by
 have h3:∀ y∈L.take k,lt y x:=by
  intro y hy;obtain⟨j,hj⟩:=List.getElem?_of_mem hy;have hjk:j<k:=by
   have:=(List.getElem?_eq_some_iff.1 hj).1;rw[List.length_take]at this;omega
  rw[List.getElem?_take]at hj;rw[if_pos hjk]at hj;have hz:=List.getElem?_eq_getElem (l:=L) (i:=k-1) (by omega);have hzx:=h2 _ (by omega) hz
  by_cases e:j=k-1
  ·subst e;rw[hj]at hz;injection hz with hz;rw[hz];exact hzx
  ·rw[List.pairwise_iff_getElem]at hs;obtain⟨j1,j2⟩:=List.getElem?_eq_some_iff.1 hj;have:=hs j (k-1) j1 (by omega) (by omega);rw[j2]at this;exact trans _ _ _ this hzx
 have hs':=hs;rw[← List.take_append_drop k L,List.pairwise_append]at hs';rw[List.pairwise_append,List.pairwise_cons];refine⟨hs'.1,⟨h1,hs'.2.1⟩,fun a ha b hb=>?_⟩
 rcases List.mem_cons.1 hb with rfl | hb
 ·exact h3 a ha
 ·exact hs'.2.2 a ha b hb
theorem ins_permQ {α:Type} {L M:List α} {x:α} {k:Nat} (h:L.Perm M):(L.take k++x::L.drop k).Perm (M ++ [x]):=by
 have h1:(L.take k++x::L.drop k).Perm (x::(L.take k++L.drop k)):=List.perm_middle;rw[List.take_append_drop]at h1;exact h1.trans ((List.Perm.cons x h).trans (List.perm_append_singleton x M).symm)
end Go.Proofs.YtbnkoefljcekbaaGreatDoor