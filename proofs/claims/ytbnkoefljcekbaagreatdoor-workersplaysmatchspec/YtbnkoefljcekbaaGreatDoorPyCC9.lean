/-
 Several texts of mine as one, without what is not wanted here: XFit, XEnds, XBsf, XFunc9.
-/
import Derived.Test.YtbnkoefljcekbaaGreatDoorPyBC9
import Derived.Shelf.SlicesQ.Contains
import Derived.Laws.StructEq
set_option linter.unusedVariables false
set_option linter.unusedSimpArgs false
set_option maxRecDepth 100000
set_option maxHeartbeats 8000000
namespace Go.Proofs.YtbnkoefljcekbaaGreatDoor.C9
open Go.RowKit Go.Shelf Go.Lib
def peq (x y:Pair):Bool:=decide (x.name=y.name)&&decide (x.value=y.value)
def encP (x:Pair):List Value:=[.string x.name,.string x.value]
theorem eqPair:EqlAt Tryz.prog 120 (fun x=>.agg (encP x).toArray) peq:=by
 refine⟨fun x y w=>?_,GuardAt.agg _ (by kernel_rfl)⟩;have u9:=Tryz.underlying9;have a9:=Tryz.isAgg9;have z9:=Tryz.sizeOf9;have hS:Tryz.prog.underlying 120 = some (.struct (Tryz.prog.fieldsOf 120)):=by kernel_rfl
 have hp:Tryz.prog.stoodInHeld 120 = false:=by kernel_rfl
 simp only[encP];rw[run_eql_struct,show (10000:Nat)=9999+1 from rfl,run_equalIn_agg w 9999 120 _ _ hS hp];simp only[Program.fieldsOf,Tryz.underlying120];go_simp;unfold peq;have hne:∀ a b:ByteArray,¬ a=b→¬ a.toList=b.toList:=fun a b h e=>h (by
  have:=beq_data a b;rw[e,beq_self_eq_true]at this;exact of_decide_eq_true this.symm)
 by_cases h1:x.name=y.name
 ·by_cases h2:x.value=y.value
  ·simp[h1,h2]
  ·simp[h1,h2,hne _ _ h2]
 ·by_cases h2:x.value=y.value
  ·simp[h1,h2,hne _ _ h1]
  ·simp[h1,h2,hne _ _ h1]
theorem idxP_empty (A:Option Addr) (c:Nat) (p:Pair) (w:World) :
  Calls Tryz.prog 142 #[.slice A 0 c,.agg #[.string p.name,.string p.value]] w fun e w'=>e = .returned (.int .i64 (-1))∧Below w.heap.size w w':=by
 have hba:=(Below.refl w.heap.size w).alloc (Nat.le_refl _) (.cells #[.string p.name,.string p.value] 120);obtain⟨W,hW⟩:∃ X,w.alloc (.cells #[.string p.name,.string p.value] 120)=X:=⟨_,rfl⟩;rw[hW]at hba;obtain⟨hbaH,hWH⟩:=hq2 hba (Lib.hid hW);clear hba hW;go_enter Tryz.func142,Tryz.ntmps142;go_wp2_with fail;rw[hWH.out]
 go_loopw [8] (fun i wr=>i = .int .i64 0∧W=wr) (fun i _=>0)
 case atStart=>exact⟨rfl,rfl⟩
 case round =>
  obtain⟨rfl,rfl⟩:=hrel;go_wp2;go_ret;exact⟨rfl,hbaH.out⟩
theorem contP_any (A:Option Addr) (n c:Nat) (l:List Pair) (p:Pair) (w:World) (hl:SlAt RPair w A n l) (hn:n≤9223372036854775807) :
  Calls Tryz.prog 96 #[.slice A n c,.agg #[.string p.name,.string p.value]] w fun e w'=>e = .returned (.bool (l.any (peq p)))∧Below w.heap.size w w':=by
 by_cases h0:n=0
 ·subst h0;obtain rfl:l = []:=List.eq_nil_of_length_eq_zero hl.1;have hba:=(Below.refl w.heap.size w).alloc (Nat.le_refl _) (.cells #[.string p.name,.string p.value] 120);obtain⟨hbaH,hlH⟩:=hq2 hba (Lib.hid hl);clear hba hl;go_enter Tryz.func96,Tryz.ntmps96;go_wp2_with fail;refine(idxP_empty A c p _).mono ?_;rintro e w1 ⟨rfl,hw1⟩;have hb1:=hbaH.out.trans (hw1.mono hbaH.out.size);have hb1H:=Lib.hid hb1;clear hb1;go_wp2;go_ret;exact⟨rfl,hb1H.out⟩
 ·obtain⟨b,off,rfl,hc⟩:=hl.2.1 (by omega);have h:=AnyQ.slices_Contains Tryz.containsQ 2 Tryz.isAgg120 Tryz.sizeOf120 encP (fun _=>rfl) peq eqPair b off n c l p w (by rw[hl.1];exact Nat.le_refl _) hn (fun j hj i v hi=>by
   rw[getElem!_pos l j hj]at hi;exact hc j _ (List.getElem?_eq_getElem hj) i v hi)
  rw[List.take_of_length_le (by rw[hl.1];exact Nat.le_refl _)]at h;exact h
def fitF (nd has:List Pair):Bool:=nd.all (fun p=>has.any (peq p))
def FitRel (nd has:List Pair) (b:Bool) (w0:World) (i:Value) (wr:World):Prop:=∃ k:Nat,k≤nd.length∧i = .int .i64 k∧fitF (nd.drop k) has=b∧Below w0.heap.size w0 wr
theorem fit_any (A:Option Addr) (n c:Nat) (nd:List Pair) (B:Option Addr) (m mc:Nat) (has:List Pair) (w:World) (hl:SlAt RPair w A n nd) (hn:n≤9223372036854775807) (hh:SlAt RPair w B m has) (hm:m≤9223372036854775807) (b:Bool) (hb:fitF nd has=b) :
  Calls Tryz.prog 51 #[.slice A n c,.slice B m mc] w fun e w'=>e = .returned (.bool b)∧Below w.heap.size w w':=by
 have hll:=hl.1;obtain⟨hlH,hhH,hbH⟩:=hq2 hl (hq2 hh (Lib.hid hb));clear hl hh hb;go_enter Tryz.func51,Tryz.ntmps51;go_wp2
 go_loopw [9] (fun i wr=>FitRel nd has b w i wr) (fun i _=>n-(intOf i).toNat)
 case atStart=>exact⟨0,Nat.zero_le _,rfl,hbH.out,Below.refl _ _⟩
 case round =>
  obtain⟨k,hk,rfl,hck,hb⟩:=hrel;have hbs:=hb.size;have hkl:k≤n:=by have:=hll;omega
  skip
  by_cases hlt:k<n
  ·obtain⟨b0,off,hA,_⟩:=hlH.out.2.1 (by omega);subst hA;obtain⟨x,hx⟩:∃ x,nd[k]? = some x:=⟨nd[k]'(by have:=hll;omega),List.getElem?_eq_getElem _⟩;obtain⟨c0,c1⟩:=cells_Pair (hlH.out.below hb) hx;rw[drop_cons hx,fitF,List.all_cons]at hck;have hkl2:k+1≤nd.length:=by have:=hll;omega
   have hba:=hb.alloc hbs (.cells #[.string x.name,.string x.value] 120);obtain⟨t,ht⟩:∃ t,has.any (peq x)=t:=⟨_,rfl⟩;rw[ht]at hck;obtain⟨hxH,hckH,hbH,hbaH,htH,hkl2H⟩:=hq2 hx (hqb hck hb hba ht (Lib.hid hkl2));clear hx hck hb hba ht hkl2;go_wp2_with fail;refine(contP_any B m mc has x _ (hhH.out.below hbaH.out) hm).mono ?_;rintro e w5 ⟨rfl,hw5⟩;rw[htH.out];have hb5:=hbaH.out.trans (hw5.mono hbaH.out.size);clear hw5 c0 c1;have hck:=hckH.out;clear hckH
   cases t
   ·have hbf:false=b:=hck;subst hbf;clear hck;have hb5H:=Lib.hid hb5;clear hb5;go_wp2;go_ret;exact⟨rfl,hb5H.out⟩
   ·have R:FitRel nd has b w (.int .i64 (k+1)) w5:=⟨k+1,hkl2H.out,by go_num,hck,hb5⟩;clear hck;obtain⟨hb5H,RH⟩:=hq2 hb5 (Lib.hid R);clear hb5 R;go_wp2;refine⟨?rel,?measure⟩
    case measure=>(simp[intOf];omega)
    case rel=>first | exact RH.out | exact⟨rfl,RH.out⟩
  ·have e:nd.drop k = []:=List.drop_eq_nil_of_le (by have:=hll;omega);rw[e]at hck;have hbt:true=b:=hck;subst hbt;clear hck;have hb5:=hb;obtain⟨hbH,hb5H,eH⟩:=hq2 hb (hq2 hb5 (Lib.hid e));clear hb hb5 e;go_wp2;go_ret;exact⟨rfl,hb5H.out⟩
theorem rfits_any (x:Worker) (y:Work) (w:World) (hx:RWorker.ok w x) (hy:RWork.ok w y) (b:Bool) (hb:fitF y.needs.l x.has.l=b) :
  Calls Tryz.prog 52 #[.agg #[.string x.name,.slice x.has.A x.has.n x.has.cap,.int .i64 x.slots,.int .i64 x.speed,.int .i64 x.from_,.int .i64 x.to_,.slice x.stands.A x.stands.n x.stands.cap],.agg #[.string y.id_,.slice y.needs.A y.needs.n y.needs.cap,.int .i64 y.size,.slice y.after.A y.after.n y.after.cap]] w fun e w'=>e = .returned (.bool b)∧Below w.heap.size w w':=by
 obtain⟨nm,⟨B,m,mc,has⟩,sl,sp,fr,tt,st⟩:=x;obtain⟨id,⟨A,n,c,nd⟩,sz,af⟩:=y;obtain⟨_,⟨hh,h2,h3,_⟩,_⟩:=hx;obtain⟨_,⟨hl,g2,g3,_⟩,_⟩:=hy;simp only at hh h2 h3 hl g2 g3 hb ⊢;have hm:m≤9223372036854775807:=Nat.le_trans h2 h3;have hn:n≤9223372036854775807:=Nat.le_trans g2 g3;clear h2 h3 g2 g3;obtain⟨W,hW⟩:∃ X,(w.alloc (.cells #[.string nm,.slice B m mc,.int .i64 sl,.int .i64 sp,.int .i64 fr,.int .i64 tt,.slice st.A st.n st.cap] 84)).alloc (.cells #[.string id,.slice A n c,.int .i64 sz,.slice af.A af.n af.cap] 86)=X:=⟨_,rfl⟩;have hbW:Below w.heap.size w W:=by rw[← hW];exact((Below.refl _ _).alloc (Nat.le_refl _) _).alloc (by simp) _
 have q1:W.cell? ⟨w.heap.size,1,none⟩=some (.slice B m mc):=by rw[← hW];exact(World.cell?_alloc_lt _ _ _ (by simp)).trans (cell_new w _ _ 1)
 have hq:w.heap.size<W.heap.size:=by rw[← hW];simp;omega
 have hl:=hl.below hbW;have hh:=hh.below hbW;have hll:=hl.1;obtain⟨hlH,hhH,hbH,hWH,hbWH⟩:=hqb hl hh hb hW (Lib.hid hbW);clear hl hh hb hW hbW;go_enter Tryz.func52,Tryz.ntmps52;go_wp2_with fail;rw[hWH.out]
 go_loopw [10] (fun i wr=>FitRel nd has b W i wr) (fun i _=>n-(intOf i).toNat)
 case atStart=>exact⟨0,Nat.zero_le _,rfl,hbH.out,Below.refl _ _⟩
 case round =>
  obtain⟨k,hk,rfl,hck,hb⟩:=hrel;have hbs:=hb.size;have hkl:k≤n:=by have:=hll;omega
  have q1r:=(hb.cell hq).trans q1;have hq3:w.heap.size<wr.heap.size:=by omega
  by_cases hlt:k<n
  ·obtain⟨b0,off,hA,_⟩:=hlH.out.2.1 (by omega);subst hA;obtain⟨x,hx⟩:∃ x,nd[k]? = some x:=⟨nd[k]'(by have:=hll;omega),List.getElem?_eq_getElem _⟩;obtain⟨c0,c1⟩:=cells_Pair (hlH.out.below hb) hx;rw[drop_cons hx,fitF,List.all_cons]at hck;have hkl2:k+1≤nd.length:=by have:=hll;omega
   have hba:=hb.alloc hbs (.cells #[.string x.name,.string x.value] 120);obtain⟨t,ht⟩:∃ t,has.any (peq x)=t:=⟨_,rfl⟩;rw[ht]at hck;obtain⟨hxH,hckH,hbH,hbaH,htH,hkl2H⟩:=hq2 hx (hqb hck hb hba ht (Lib.hid hkl2));clear hx hck hb hba ht hkl2;go_wp2_with fail;refine(contP_any B m mc has x _ (hhH.out.below hbaH.out) hm).mono ?_;rintro e w5 ⟨rfl,hw5⟩;rw[htH.out];have hb5:=hbaH.out.trans (hw5.mono hbaH.out.size);clear hw5 c0 c1;have hck:=hckH.out;clear hckH
   cases t
   ·have hbf:false=b:=hck;subst hbf;clear hck;have hb5H:=Lib.hid hb5;clear hb5;go_wp2;go_ret;exact⟨rfl,hbWH.out.trans (hb5H.out.mono hbWH.out.size)⟩
   ·have R:FitRel nd has b W (.int .i64 (k+1)) w5:=⟨k+1,hkl2H.out,by go_num,hck,hb5⟩;clear hck;obtain⟨hb5H,RH⟩:=hq2 hb5 (Lib.hid R);clear hb5 R;go_wp2;refine⟨?rel,?measure⟩
    case measure=>(simp[intOf];omega)
    case rel=>first | exact RH.out | exact⟨rfl,RH.out⟩
  ·have e:nd.drop k = []:=List.drop_eq_nil_of_le (by have:=hll;omega);rw[e]at hck;have hbt:true=b:=hck;subst hbt;clear hck;have hb5:=hb;obtain⟨hbH,hb5H,eH⟩:=hq2 hb (hq2 hb5 (Lib.hid e));clear hb hb5 e;go_wp2;go_ret;exact⟨rfl,hbWH.out.trans (hb5H.out.mono hbWH.out.size)⟩
/-! ### Fits -/
end Go.Proofs.YtbnkoefljcekbaaGreatDoor.C9
namespace Go.Proofs.YtbnkoefljcekbaaGreatDoor.C9
open Go.RowKit
def secsF (x:Worker) (sz:Int):Int:=(sz+x.speed-1) / x.speed
theorem secs_in (sz sp:Int) (h0:1≤sz) (h1:sz≤1000000) (h2:1≤sp) (h3:sp≤1000):1≤(sz+sp-1) / sp∧(sz+sp-1) / sp≤1000000:=by
 constructor
 ·exact(Int.le_ediv_iff_mul_le (by omega)).2 (by omega)
 ·have:(sz+sp-1) / sp≤sz:=by
   have h:(sz+sp-1)<(sz+1)*sp:=by
    have:sz*1≤sz*sp:=Int.mul_le_mul_of_nonneg_left h2 (by omega);rw[Int.add_mul];omega
   have:=(Int.ediv_lt_iff_lt_mul (a:=sz+sp-1) (b:=sz+1) (c:=sp) (by omega)).2 h;omega
  omega
def endsGo:Int→Int→List Span→Int
 | L,T,[]=>T+L
 | L,T,s::r=>if s.to_≤T then endsGo L T r else if T<s.from_ then (if L≤s.from_-T then T+L else endsGo (L-(s.from_-T)) s.to_ r) else endsGo L s.to_ r
def endsF (x:Worker) (sz fm:Int):Int × Bool:=if fm<x.from_ then (0,false) else if x.to_<endsGo (secsF x sz) fm x.stands.l then (0,false) else (endsGo (secsF x sz) fm x.stands.l,true)
def rendsF (x:Worker) (sz fm:Int):Int × Bool:=if fm<x.from_ then (0,false) else (endsGo (secsF x sz) fm x.stands.l,decide (endsGo (secsF x sz) fm x.stands.l≤x.to_))
def SpansIn (l:List Span):Prop:=∀ s∈l,(0≤s.from_∧s.from_≤1000000000)∧0≤s.to_∧s.to_≤1000000000
def EndsRel (l:List Span) (c fm:Int) (w0:World) (lf tm i:Value) (wr:World):Prop :=
 ∃ (L T:Int) (k:Nat),lf = .int .i64 L∧tm = .int .i64 T∧i = .int .i64 k∧k≤l.length∧1≤L∧L≤1000000∧0≤T∧T≤1000000000∧endsGo L T (l.drop k)=endsGo c fm l∧Below w0.heap.size w0 wr
theorem secs (x:Worker) (sz:Int) (w:World) (h0:1≤sz) (h1:sz≤1000000) (h2:1≤x.speed) (h3:x.speed≤1000) (c:Int) (hc:secsF x sz=c) :
  Calls Tryz.prog 94 #[.agg #[.string x.name,.slice x.has.A x.has.n x.has.cap,.int .i64 x.slots,.int .i64 x.speed,.int .i64 x.from_,.int .i64 x.to_,.slice x.stands.A x.stands.n x.stands.cap],.int .i64 sz] w fun e w' =>
   e = .returned (.int .i64 c)∧Below w.heap.size w w':=by
 obtain⟨nm,has,sl,sp,fr,tz,st⟩:=x;simp only[secsF]at h2 h3 hc ⊢;have hba:=(Below.refl w.heap.size w).alloc (Nat.le_refl _) (.cells #[.string nm,.slice has.A has.n has.cap,.int .i64 sl,.int .i64 sp,.int .i64 fr,.int .i64 tz,.slice st.A st.n st.cap] 84);obtain⟨hbaH,hcH⟩:=hq2 hba (Lib.hid hc);clear hba hc;go_enter Tryz.func94,Tryz.ntmps94;go_wp2;go_ret;exact⟨ret1_int (by have:=hcH.out;omega),hbaH.out⟩
theorem rsecs (x:Worker) (sz:Int) (w:World) (h0:1≤sz) (h1:sz≤1000000) (h2:1≤x.speed) (h3:x.speed≤1000) (c:Int) (hc:secsF x sz=c) :
  Calls Tryz.prog 179 #[.agg #[.string x.name,.slice x.has.A x.has.n x.has.cap,.int .i64 x.slots,.int .i64 x.speed,.int .i64 x.from_,.int .i64 x.to_,.slice x.stands.A x.stands.n x.stands.cap],.int .i64 sz] w fun e w' =>
   e = .returned (.int .i64 c)∧Below w.heap.size w w':=by
 obtain⟨nm,has,sl,sp,fr,tz,st⟩:=x;simp only[secsF]at h2 h3 hc ⊢;have hba:=(Below.refl w.heap.size w).alloc (Nat.le_refl _) (.cells #[.string nm,.slice has.A has.n has.cap,.int .i64 sl,.int .i64 sp,.int .i64 fr,.int .i64 tz,.slice st.A st.n st.cap] 84);obtain⟨hbaH,hcH⟩:=hq2 hba (Lib.hid hc);clear hba hc;go_enter Tryz.func179,Tryz.ntmps179;go_wp2;go_ret;exact⟨ret1_int (by have:=hcH.out;omega),hbaH.out⟩
theorem ends_any (x:Worker) (sz fm:Int) (w:World) (hok:RWorker.ok w x) (h0:1≤sz) (h1:sz≤1000000) (h2:1≤x.speed) (h3:x.speed≤1000) (h4:0≤fm) (h5:fm≤1000000000) (hs:SpansIn x.stands.l) (a:Int) (b:Bool) (hE:endsF x sz fm=(a,b)) :
  Calls Tryz.prog 163 #[.agg #[.string x.name,.slice x.has.A x.has.n x.has.cap,.int .i64 x.slots,.int .i64 x.speed,.int .i64 x.from_,.int .i64 x.to_,.slice x.stands.A x.stands.n x.stands.cap],.int .i64 sz,.int .i64 fm] w fun e w' =>
   e = .returned (.tuple #[.int .i64 a,.bool b])∧Below w.heap.size w w':=by
 obtain⟨nm,has,sl,sp,fr,tz,st⟩:=x;obtain⟨o0,o1,o2,o3,o4,o5,o6⟩:=hok;simp only at o0 o1 o2 o3 o4 o5 o6 hE h2 h3 hs ⊢;obtain⟨A,len,cap,l⟩:=st;obtain⟨hl,hcp,hcm,_⟩:=o6;simp only at hl hs hcp hcm ⊢;have hlen:len≤9223372036854775807:=by unfold maxLen at hcm;omega
 clear hcp hcm;have hll:=hl.1;have hba:=(Below.refl w.heap.size w).alloc (Nat.le_refl _) (.cells #[.string nm,.slice has.A has.n has.cap,.int .i64 sl,.int .i64 sp,.int .i64 fr,.int .i64 tz,.slice A len cap] 84);have hbas:=hba.size;obtain⟨o4a,o4b⟩:=o4;obtain⟨o5a,o5b⟩:=o5;obtain⟨o0H,o1H,o2H,o3H,hlH,hllH,hEH,hsH,hbaH,hbasH⟩:=hq2 o0 (hqc o1 o2 o3 hl hll hE hs hba (Lib.hid hbas));clear o0 o1 o2 o3 hl hll hE hs hba hbas
 by_cases hf:fm<fr
 ·have hE:=hEH.out;simp only[endsF,if_pos hf,Prod.mk.injEq]at hE;obtain⟨rfl,rfl⟩:=hE;clear hEH;go_enter Tryz.func163,Tryz.ntmps163;go_wp2
  go_ret2
  exact⟨rfl,hbaH.out⟩
 ·obtain⟨c,hc⟩:∃ c,secsF ⟨nm,has,sl,sp,fr,tz,⟨A,len,cap,l⟩⟩ sz=c:=⟨_,rfl⟩;have hE:=hEH.out;simp only[endsF,if_neg hf,hc]at hE;obtain⟨c1,c2⟩:=secs_in sz sp h0 h1 h2 h3;have hcc:(sz+sp-1) / sp=c:=hc;rw[hcc]at c1 c2;clear hEH;obtain⟨hEH,hccH⟩:=hq2 hE (Lib.hid hcc);clear hE hcc;go_enter Tryz.func163,Tryz.ntmps163;go_wp2_with fail;refine(secs ⟨nm,has,sl,sp,fr,tz,⟨A,len,cap,l⟩⟩ sz _ h0 h1 h2 h3 c hc).mono ?_;rintro e w1 ⟨rfl,hw1⟩;have q4:=(hw1.cell (by simp)).trans (cell_new w _ _ 4);have q5:=(hw1.cell (by simp)).trans (cell_new w _ _ 5);have q6:=(hw1.cell (by simp)).trans (cell_new w _ _ 6);have hbw1:=hbaH.out.trans (hw1.mono hbasH.out);have hz1:w.heap.size<w1.heap.size:=by have:=hw1.size;simp at this;omega
  simp only[List.getElem?_toArray,List.getElem?_cons_succ,List.getElem?_cons_zero]at q4 q5 q6;have hb11:=Below.refl w1.heap.size w1;obtain⟨hw1H,hbw1H,hcH,hb11H,q4H,q5H⟩:=hq2 hw1 (hqb hbw1 hc hb11 q4 (Lib.hid q5));clear hw1 hbw1 hc hb11 q4 q5;go_wp2_with fail;clear q6
  go_loopw [8,9,23] (fun lf tm i wr=>EndsRel l c fm w1 lf tm i wr) (fun _ _ i _=>len-(intOf i).toNat)
  case atStart=>exact⟨c,fm,0,rfl,rfl,rfl,Nat.zero_le _,c1,c2,h4,h5,rfl,hb11H.out⟩
  case round =>
   obtain⟨L,T,k,rfl,rfl,rfl,hk,hL0,hL1,hT0,hT1,hgo,hb⟩:=hrel;have hkl:k≤len:=by have:=hllH.out;omega
   have hbs:=hb.size;have q4:=(hb.cell hz1).trans q4H.out;have q5:=(hb.cell hz1).trans q5H.out
   by_cases hlt:k<len
   ·obtain⟨b0,off,hA,_⟩:=hlH.out.2.1 (by omega);subst hA;obtain⟨y,hy⟩:∃ y,l[k]? = some y:=⟨l[k]'(by have:=hllH.out;omega),List.getElem?_eq_getElem _⟩;have hbw:=hbw1H.out.trans (hb.mono hbw1H.out.size);obtain⟨d0,d1⟩:=cells_Span (hlH.out.below hbw) hy;obtain⟨⟨i0,i1⟩,i2,i3⟩:=hsH.out y (List.mem_of_getElem? hy);rw[drop_cons hy,endsGo]at hgo;obtain⟨yf,yt⟩:=y;simp only at d0 d1 hgo i0 i1 i2 i3;have hba2:=hb.alloc hbs (.cells #[.int .i64 yf,.int .i64 yt] 202);have hkl2:k+1≤l.length:=by have:=hllH.out;omega
    clear q4 q5;obtain⟨hbH,hbwH,hba2H,hyH⟩:=hq2 hb (hq2 hbw (hq2 hba2 (Lib.hid hy)));clear hb hbw hba2 hy
    by_cases e1:yt≤T
    ·rw[if_pos e1]at hgo;have R:EndsRel l c fm w1 (.int .i64 L) (.int .i64 T) (.int .i64 (k+1)) (wr.alloc (.cells #[.int .i64 yf,.int .i64 yt] 202)) :=
      ⟨L,T,k+1,rfl,rfl,by go_num,hkl2,hL0,hL1,hT0,hT1,hgo,hba2H.out⟩
     obtain⟨hgoH,RH⟩:=hq2 hgo (Lib.hid R);clear hgo R;go_wp2;refine⟨?rel,?measure⟩
     case measure=>(simp[intOf];omega)
     case rel=>first | exact RH.out | exact⟨rfl,RH.out⟩
    ·rw[if_neg e1]at hgo;have e1':decide (yt≤T)=false:=decide_eq_false e1
     by_cases e2:T<yf
     ·rw[if_pos e2]at hgo
      by_cases e3:L≤yf-T
      ·rw[if_pos e3]at hgo;have hgoH:=Lib.hid hgo;clear hgo;have q5:=(hba2H.out.cell hz1).trans q5H.out;have hE:=hEH.out;rw[← hgoH.out]at hE;clear hEH hgoH
       by_cases hto:tz<T+L
       ·rw[if_pos hto,Prod.mk.injEq]at hE;obtain⟨rfl,rfl⟩:=hE;go_wp2
        go_ret2
        exact⟨rfl,hbw1H.out.trans (hba2H.out.mono hbw1H.out.size)⟩
       ·rw[if_neg hto,Prod.mk.injEq]at hE;obtain⟨rfl,rfl⟩:=hE;have hto2:decide (tz<T+L)=false:=decide_eq_false hto;go_wp2
        go_ret2
        exact⟨rfl,hbw1H.out.trans (hba2H.out.mono hbw1H.out.size)⟩
      ·rw[if_neg e3]at hgo;have e3':decide (L≤yf-T)=false:=decide_eq_false e3;have R:∀ L':Int,L'=L-(yf-T)→EndsRel l c fm w1 (.int .i64 L') (.int .i64 yt) (.int .i64 (k+1)) (wr.alloc (.cells #[.int .i64 yf,.int .i64 yt] 202)) :=
        fun L' h=>⟨L',yt,k+1,rfl,rfl,by go_num,hkl2,by omega,by omega,i2,i3,h ▸ hgo,hba2H.out⟩
       obtain⟨hgoH,RH⟩:=hq2 hgo (Lib.hid R);clear hgo R;go_wp2;refine⟨?rel,?measure⟩
       case measure=>(simp[intOf];omega)
       case rel=>first | exact(RH.out _ (by omega)) | exact⟨rfl,(RH.out _ (by omega))⟩
     ·rw[if_neg e2]at hgo;have e2':decide (T<yf)=false:=decide_eq_false e2;have R:∀ L':Int,L'=L→EndsRel l c fm w1 (.int .i64 L') (.int .i64 yt) (.int .i64 (k+1)) (wr.alloc (.cells #[.int .i64 yf,.int .i64 yt] 202)) :=
       fun L' h=>⟨L',yt,k+1,rfl,rfl,by go_num,hkl2,by omega,by omega,i2,i3,h ▸ hgo,hba2H.out⟩
      obtain⟨hgoH,RH⟩:=hq2 hgo (Lib.hid R);clear hgo R;go_wp2;refine⟨?rel,?measure⟩
      case measure=>(simp[intOf];omega)
      case rel=>first | exact(RH.out _ (by omega)) | exact⟨rfl,(RH.out _ (by omega))⟩
   ·have e:l.drop k = []:=List.drop_eq_nil_of_le (by have:=hllH.out;omega);rw[e,endsGo]at hgo;have hbw:=hbw1H.out.trans (hb.mono hbw1H.out.size);clear q4;obtain⟨hbH,eH,hgoH,hbwH⟩:=hq2 hb (hq2 e (hq2 hgo (Lib.hid hbw)));clear hb e hgo hbw;have q5:=q5;have hE:=hEH.out;rw[← hgoH.out]at hE;clear hEH hgoH
    by_cases hto:tz<T+L
    ·rw[if_pos hto,Prod.mk.injEq]at hE;obtain⟨rfl,rfl⟩:=hE;go_wp2
     go_ret2
     exact⟨rfl,hbwH.out⟩
    ·rw[if_neg hto,Prod.mk.injEq]at hE;obtain⟨rfl,rfl⟩:=hE;have hto2:decide (tz<T+L)=false:=decide_eq_false hto;go_wp2
     go_ret2
     exact⟨rfl,hbwH.out⟩
theorem workAt1_any (x:Work) (s:ByteArray) (w:World) :
  Calls Tryz.prog 101 #[.agg #[.string x.id_,.slice x.needs.A x.needs.n x.needs.cap,.int .i64 x.size,.slice x.after.A x.after.n x.after.cap],.string s] w fun e w'=>e = .returned (.int .i64 (cmpS x.id_ s))∧Below w.heap.size w w':=by
 have hba:=(Below.refl w.heap.size w).alloc (Nat.le_refl _) (.cells #[.string x.id_,.slice x.needs.A x.needs.n x.needs.cap,.int .i64 x.size,.slice x.after.A x.after.n x.after.cap] 86);have hbaH:=Lib.hid hba;clear hba;go_enter Tryz.func101,Tryz.ntmps101;go_wp2_with (go_at_call 42;refine(Tryz.strings_Compare _ _ _).mono ?_;rintro e w1 ⟨rfl,rfl⟩);go_ret;exact⟨rfl,hbaH.out⟩
theorem split_lt (s:ByteArray):∀ (l:List Work),(l.Pairwise fun a b=>cmpS a.id_ b.id_ = -1)→∃ k0,k0≤l.length∧(∀ t x,l[t]? = some x→t<k0→cmpS x.id_ s = -1)∧(∀ t x,l[t]? = some x→k0≤t→cmpS x.id_ s≠-1)
 | [],_=>⟨0,Nat.le_refl _,fun t x h=>by simp at h,fun t x h=>by simp at h⟩
 | y::r,h=>by
  rw[List.pairwise_cons]at h
  by_cases hy:cmpS y.id_ s = -1
  ·obtain⟨k,hk,h1,h2⟩:=split_lt s r h.2;refine⟨k+1,by rw[List.length_cons];omega,fun t x hx ht=>?_,fun t x hx ht=>?_⟩
   ·cases t with
    | zero=>simp at hx;subst hx;exact hy
    | succ t=>exact h1 t x (by simpa using hx) (by omega)
   ·cases t with
    | zero=>omega
    | succ t=>exact h2 t x (by simpa using hx) (by omega)
  ·refine⟨0,Nat.zero_le _,fun t x _ ht=>by omega,fun t x hx _=>?_⟩
   cases t with
   | zero=>simp at hx;subst hx;exact hy
   | succ t =>
    intro hc;exact hy (cmpS_trans (h.1 x (List.mem_of_getElem? (by simpa using hx))) hc)
def BsRel (k0 n:Nat) (w0:World) (vi vj:Value) (wr:World):Prop:=∃ i j:Nat,vi = .int .i64 i∧vj = .int .i64 j∧i≤k0∧k0≤j∧j≤n∧Below w0.heap.size w0 wr
theorem bsf_work (A:Option Addr) (n c:Nat) (l:List Work) (s:ByteArray) (w:World) (hn:n≤1000) (hl:SlAt RWork w A n l) (hr:l.Pairwise fun a b=>cmpS a.id_ b.id_ = -1) :
  Calls Tryz.prog 100 #[.slice A n c,.string s,.func (.func 101) #[] #[]] w fun e w' =>
   ∃ i:Nat,e = .returned (.tuple #[.int .i64 i,.bool (hasId l s)])∧(hasId l s=true→i=ixOf l s)∧Below w.heap.size w w':=by
 have hll:=hl.1;have eg:∀ args w,(callFunc 101 args).run Tryz.prog w = .ok (.enter 101 args) w:=enters_of Tryz.func101 (by kernel_rfl) rfl;obtain⟨k0,hk0,hlo,hhi⟩:=split_lt s l hr;have hno:(∀ (t:Nat) (x:Work),l[t]? = some x→x.id_≠s)→hasId l s=false:=fun h=>by
  rw[hasId,List.any_eq_false];intro x hx;obtain⟨t,ht,rfl⟩:=List.getElem_of_mem hx
  simpa using h t _ (List.getElem?_eq_getElem ht)
 obtain⟨f,hf⟩:∃ f,hasId l s=f:=⟨_,rfl⟩;rw[hf];obtain⟨hlH,hllH,hrH,hloH,hhiH,hnoH,hfH⟩:=hq2 hl (hq2 hll (hqb hr hlo hhi hno (Lib.hid hf)));clear hl hll hr hlo hhi hno hf;go_enter Tryz.func100,Tryz.ntmps100;go_wp2
 go_loopw [9,10] (fun vi vj wr=>BsRel k0 n w vi vj wr) (fun vi vj _=>(intOf vj).toNat-(intOf vi).toNat)
 case atStart=>exact⟨0,n,rfl,rfl,Nat.zero_le _,by have:=hllH.out;omega,Nat.le_refl _,Below.refl _ _⟩
 case round =>
  obtain⟨i,j,rfl,rfl,hi,hj,hjn,hb⟩:=hrel;have hbs:=hb.size
  by_cases hlt:i<j
  ·obtain⟨b,off,hA,_⟩:=hlH.out.2.1 (by omega);subst hA;obtain⟨x,hx⟩:∃ x,l[(i+j) / 2]? = some x:=⟨l[(i+j) / 2]'(by have:=hllH.out;omega),List.getElem?_eq_getElem _⟩;obtain⟨c0,c1,c2,c3⟩:=cells_Work (hlH.out.below hb) hx;have e1:((i:Int)+(j:Int)) / 2=(((i+j) / 2:Nat):Int):=by omega
   by_cases hc:cmpS x.id_ s = -1
   ·have hneg:(cmpS x.id_ s<0)=True:=by rw[hc];decide
    have hik:(i+j) / 2<k0:=by
     rcases Nat.lt_or_ge ((i+j) / 2) k0 with h | h
     ·exact h
     ·exact absurd hc (hhiH.out _ x hx h)
    have R:∀ w',Below wr.heap.size wr w'→BsRel k0 n w (.int .i64 (((i:Int)+(j:Int)) / 2+1)) (.int .i64 j) w':=fun w' h=>⟨(i+j) / 2+1,j,by rw[e1];rfl,rfl,by omega,hj,hjn,hb.trans (h.mono hbs)⟩;obtain⟨cx,hcx⟩:∃ c,cmpS x.id_ s=c:=⟨_,rfl⟩;rw[hcx]at hc;subst hc;clear hneg;obtain⟨hxH,hbH,e1H,RH,hikH,hcxH⟩:=hq2 hx (hqb hb e1 R hik (Lib.hid hcx));clear hx hb e1 R hik hcx;go_wp2_with (go_at_fn 101;refine(workAt1_any x s _).mono ?_;rintro e w' ⟨rfl,hb'⟩;rw[hcxH.out];have hb'H:=Lib.hid hb';clear hb');refine⟨?rel,?measure⟩
    case measure=>simp[intOf];omega
    case rel=>exact RH.out _ hb'H.out
   ·have hik:k0≤(i+j) / 2:=by
     rcases Nat.lt_or_ge ((i+j) / 2) k0 with h | h
     ·exact absurd (hloH.out _ x hx h) hc
     ·exact h
    obtain⟨cx,hcx⟩:∃ c,cmpS x.id_ s=c:=⟨_,rfl⟩;have hcr:=cmpS_range x.id_ s;rw[hcx]at hc hcr;have hnn:decide (cx<0)=false:=decide_eq_false (by omega);have R:∀ w',Below wr.heap.size wr w'→BsRel k0 n w (.int .i64 i) (.int .i64 (((i:Int)+(j:Int)) / 2)) w':=fun w' h=>⟨i,(i+j) / 2,rfl,by rw[e1],hi,hik,by omega,hb.trans (h.mono hbs)⟩;clear hcr hc;obtain⟨hxH,hbH,e1H,RH,hikH,hcxH⟩:=hq2 hx (hqb hb e1 R hik (Lib.hid hcx));clear hx hb e1 R hik hcx;go_wp2_with (go_at_fn 101;refine(workAt1_any x s _).mono ?_;rintro e w' ⟨rfl,hb'⟩;rw[hcxH.out];have hb'H:=Lib.hid hb';clear hb');refine⟨?rel,?measure⟩
    case measure=>simp[intOf];omega
    case rel=>exact RH.out _ hb'H.out
  ·have hij:i=k0:=by omega
   have hjk:j=k0:=by omega
   subst hij;subst hjk
   by_cases hkn:j<n
   ·obtain⟨b,off,hA,_⟩:=hlH.out.2.1 (by omega);subst hA;obtain⟨x,hx⟩:∃ x,l[j]? = some x:=⟨l[j]'(by have:=hllH.out;omega),List.getElem?_eq_getElem _⟩;obtain⟨c0,c1,c2,c3⟩:=cells_Work (hlH.out.below hb) hx;have hf:=hfH.out;clear hfH;have hfx:f=decide (x.id_=s)∧(f=true→j=ixOf l s):=by
     by_cases hxs:x.id_=s
     ·have:=ixOf_eq hrH.out hx;rw[hxs]at this;rw[← hf];exact⟨by rw[this.2,decide_eq_true hxs],fun _=>this.1.symm⟩
     ·have h0:hasId l s=false:=hnoH.out fun t y hy hys=>by
       rcases Nat.lt_or_ge t j with h | h
       ·have:=hloH.out t y hy h;rw[hys,(cmpS_zero _ _).2 rfl]at this;cases this
       ·rcases Nat.eq_or_lt_of_le h with h | h
        ·subst h;rw[hx]at hy;injection hy with hy;exact hxs (by rw[hy];exact hys)
        ·obtain⟨h1,e1⟩:=List.getElem?_eq_some_iff.1 hx;obtain⟨h2,e2⟩:=List.getElem?_eq_some_iff.1 hy;have:=List.pairwise_iff_getElem.1 hrH.out j t h1 h2 h;rw[e1,e2,hys]at this;exact hhiH.out j x hx (Nat.le_refl _) this
      rw[h0]at hf;subst hf;exact⟨by rw[decide_eq_false hxs],fun h=>by cases h⟩
    obtain⟨cx,hcx⟩:∃ c,cmpS x.id_ s=c:=⟨_,rfl⟩;have hcf:(cx==0)=f:=by
     rw[hfx.1,← hcx,Bool.eq_iff_iff,beq_iff_eq,decide_eq_true_iff];exact cmpS_zero _ _
    have hfx2:=hfx.2;clear hfx;obtain⟨hxH,hbH,hfH,hcxH,hfx2H⟩:=hqb hx hb hf hcx (Lib.hid hfx2);clear hx hb hf hcx hfx2
    cases f
    all_goals
     go_wp2_with (go_at_fn 101;refine(workAt1_any x s _).mono ?_;rintro e w' ⟨rfl,hb'⟩;rw[hcxH.out];have hb'H:=Lib.hid hb';clear hb')
     go_ret2
     first
      | exact⟨j,rfl,(fun h=>hfx2H.out h),hbH.out.trans (hb'H.out.mono hbH.out.size)⟩
      | exact⟨j,rfl,hfx2H.out trivial,hbH.out.trans (hb'H.out.mono hbH.out.size)⟩
   ·have h0:hasId l s=false:=hnoH.out fun t y hy hys=>by
     have h1:=(List.getElem?_eq_some_iff.1 hy).1;have:=hloH.out t y hy (by have:=hllH.out;omega);rw[hys,(cmpS_zero _ _).2 rfl]at this;cases this
    obtain rfl:false=f:=by rw[← h0,hfH.out]
    obtain⟨hbH,h0H⟩:=hq2 hb (Lib.hid h0);clear hb h0;go_wp2_with fail
    go_ret2
    exact⟨j,rfl,(fun h=>nomatch h),hbH.out⟩
theorem workAt_any (A:Option Addr) (n c:Nat) (l:List Work) (s:ByteArray) (w:World) (hn:n≤1000) (hl:SlAt RWork w A n l) (hr:l.Pairwise fun a b=>cmpS a.id_ b.id_ = -1) :
  Calls Tryz.prog 62 #[.slice A n c,.string s] w fun e w' =>
   ∃ i:Nat,e = .returned (.tuple #[.int .i64 i,.bool (hasId l s)])∧(hasId l s=true→i=ixOf l s)∧Below w.heap.size w w':=by
 obtain⟨hlH,hrH⟩:=hq2 hl (Lib.hid hr);clear hl hr;go_enter Tryz.func62,Tryz.ntmps62;go_wp2_with fail;refine(bsf_work A n c l s _ hn hlH.out hrH.out).mono ?_;rintro e w1 ⟨i,rfl,hi,hb⟩;obtain⟨hiH,hbH⟩:=hq2 hi (Lib.hid hb);clear hi hb;go_wp2
 go_ret2
 exact⟨i,rfl,hiH.out,hbH.out⟩
def WoRel (l:List Work) (s:ByteArray) (w0:World) (i:Value) (wr:World):Prop:=∃ k:Nat,k≤l.length∧i = .int .i64 k∧(∀ t x,l[t]? = some x→t<k→x.id_≠s)∧Below w0.heap.size w0 wr
def woF (l:List Work) (s:ByteArray):Int:=if hasId l s=true then ixOf l s else -1
theorem workOf_any (A:Option Addr) (n c:Nat) (l:List Work) (s:ByteArray) (w:World) (hn:n≤1000) (hl:SlAt RWork w A n l) :
  Calls Tryz.prog 60 #[.slice A n c,.string s] w fun e w'=>e = .returned (.int .i64 (woF l s))∧Below w.heap.size w w':=by
 have hll:=hl.1;obtain⟨z,hz⟩:∃ z,woF l s=z:=⟨_,rfl⟩;rw[hz];obtain⟨hlH,hllH,hzH⟩:=hq2 hl (hq2 hll (Lib.hid hz));clear hl hll hz;go_enter Tryz.func60,Tryz.ntmps60;go_wp2
 go_loopw [9] (fun i wr=>WoRel l s w i wr) (fun i _=>n-(intOf i).toNat)
 case atStart=>exact⟨0,Nat.zero_le _,rfl,fun t x _ h=>by omega,Below.refl _ _⟩
 case round =>
  obtain⟨k,hk,rfl,hne,hb⟩:=hrel;have hkl:k≤n:=by have:=hllH.out;omega
  have hbs:=hb.size
  by_cases hlt:k<n
  ·obtain⟨b,off,hA,_⟩:=hlH.out.2.1 (by omega);subst hA;obtain⟨x,hx⟩:∃ x,l[k]? = some x:=⟨l[k]'(by have:=hllH.out;omega),List.getElem?_eq_getElem _⟩;obtain⟨c0,c1,c2,c3⟩:=cells_Work (hlH.out.below hb) hx;have hba:=hb.alloc hbs (.cells #[.string x.id_,.slice x.needs.A x.needs.n x.needs.cap,.int .i64 x.size,.slice x.after.A x.after.n x.after.cap] 86)
   by_cases hxs:x.id_=s
   ·have heq:(x.id_.toList==s.toList)=true:=by rw[beq_data,decide_eq_true hxs]
    have hw:woF l s=k:=by
     unfold woF;have hin:hasId l s=true:=by rw[hasId,List.any_eq_true];exact⟨x,List.mem_of_getElem? hx,decide_eq_true hxs⟩
     rw[if_pos hin];obtain⟨y,hy,hys⟩:=ixOf_get hin;have hle:ixOf l s≤k:=by
      rcases Nat.lt_or_ge k (ixOf l s) with h | h
      ·obtain⟨h1,e1⟩:=List.getElem?_eq_some_iff.1 hx;have:=List.not_of_lt_findIdx h;rw[e1]at this;simp[hxs]at this
      ·exact h
     rcases Nat.lt_or_ge (ixOf l s) k with h | h
     ·exact absurd hys (hne _ y hy h)
     ·omega
    obtain rfl:(k:Int)=z:=by rw[← hw,hzH.out]
    obtain⟨hxH,hbH,hneH,hbaH,hxsH,hwH⟩:=hq2 hx (hqb hb hne hba hxs (Lib.hid hw));clear hx hb hne hba hxs hw;go_wp2;go_ret;exact⟨rfl,hbaH.out⟩
   ·have heq:(x.id_.toList==s.toList)=false:=by rw[beq_data,decide_eq_false hxs]
    have R:WoRel l s w (.int .i64 (k+1)) (wr.alloc (.cells #[.string x.id_,.slice x.needs.A x.needs.n x.needs.cap,.int .i64 x.size,.slice x.after.A x.after.n x.after.cap] 86)):=⟨k+1,by have:=hllH.out;omega,by go_num,fun t y hy ht=>by
     rcases Nat.lt_or_ge t k with h | h
     ·exact hne t y hy h
     ·have:t=k:=by omega
      subst this;rw[hx]at hy;injection hy with hy;rw[← hy];exact hxs,hba⟩
    obtain⟨hxH,hbH,hneH,hbaH,hxsH,RH⟩:=hq2 hx (hqb hb hne hba hxs (Lib.hid R));clear hx hb hne hba hxs R;go_wp2;refine⟨?rel,?measure⟩
    case measure=>(simp[intOf];omega)
    case rel=>first | exact RH.out | exact⟨rfl,RH.out⟩
  ·have hw:woF l s = -1:=by
    unfold woF;rw[if_neg];intro h;obtain⟨y,hy,hys⟩:=ixOf_get h;exact hne _ y hy (by have:=ixOf_lt h;have:=hllH.out;omega) hys
   obtain rfl:-1=z:=by rw[← hw,hzH.out]
   obtain⟨hbH,hneH,hwH⟩:=hq2 hb (hq2 hne (Lib.hid hw));clear hb hne hw;go_wp2;go_ret;exact⟨rfl,hbH.out⟩
def PredL (g:Nat) (lb:Array Value) (p:ByteArray→Bool) (l:List ByteArray) (w:World):Prop :=
 ∀ (W:World) (x:ByteArray),x∈l→Below w.heap.size w W→Calls Tryz.prog g (#[.string x]++lb) W fun e w'=>e = .returned (.bool (p x))∧Below W.heap.size W w'
def AnyRel (p:ByteArray→Bool) (l:List ByteArray) (b:Bool) (w0:World) (i:Value) (wr:World):Prop:=∃ k:Nat,k≤l.length∧i = .int .i64 k∧(l.drop k).any p=b∧Below w0.heap.size w0 wr
theorem indexFunc_any (g:Nat) (lb:Array Value) (eg:∀ args w,(callFunc g args).run Tryz.prog w = .ok (.enter g args) w) (p:ByteArray→Bool) (A:Option Addr) (n c:Nat) (l:List ByteArray) (w:World)
  (hl:SlAt RStr w A n l) (hn:n≤9223372036854775807) (hp:PredL g lb p l w) (b:Bool) (hb:l.any p=b) :
  Calls Tryz.prog 181 #[.slice A n c,.func (.func g) #[] lb] w fun e w'=>∃ i:Int,e = .returned (.int .i64 i)∧(if b=true then 0≤i else i = -1)∧Below w.heap.size w w':=by
 have hll:=hl.1;obtain⟨hlH,hbH,hpH,hllH⟩:=hq2 hl (hq2 hb (hq2 hp (Lib.hid hll)));clear hl hb hp hll;go_enter Tryz.func181,Tryz.ntmps181;go_wp2
 go_loopw [5,8] (fun s5 i wr=>AnyRel p l b w i wr) (fun _ i _=>n-(intOf i).toNat)
 case atStart=>exact⟨0,Nat.zero_le _,rfl,hbH.out,Below.refl _ _⟩
 case round =>
  obtain⟨k,hk,rfl,hr,hbw⟩:=hrel;have hkl:k≤n:=by have:=hllH.out;omega
  by_cases hlt:k<n
  ·obtain⟨b0,off,hA,_⟩:=hlH.out.2.1 (by omega);subst hA;obtain⟨x,hx⟩:∃ x,l[k]? = some x:=⟨l[k]'(by have:=hllH.out;omega),List.getElem?_eq_getElem _⟩;have c0:=cell_StrW (hlH.out.below hbw) hx;have hcall:=hpH.out wr x (List.mem_of_getElem? hx) hbw;rw[drop_cons hx,List.any_cons]at hr;have hkl2:k+1≤l.length:=by have:=hllH.out;omega
   cases hq:p x
   ·rw[hq]at hcall hr;rw[Bool.false_or]at hr;have R:∀ w',Below wr.heap.size wr w'→AnyRel p l b w (.int .i64 (k+1)) w':=fun w' h=>⟨k+1,hkl2,by go_num,hr,hbw.trans (h.mono hbw.size)⟩;clear hr;obtain⟨RH,hxH,hbwH,hqH,hcallH⟩:=hqb R hx hbw hq (Lib.hid hcall);clear R hx hbw hq hcall;go_wp2_with (go_at_fn g;refine hcallH.out.mono ?_;rintro e w' ⟨rfl,hb'⟩;have hb'H:=Lib.hid hb';clear hb');refine⟨?rel,?measure⟩
    case measure=>(simp[intOf];omega)
    case rel=>first | exact(RH.out _ hb'H.out) | exact⟨rfl,(RH.out _ hb'H.out)⟩
   ·rw[hq]at hcall hr;rw[Bool.true_or]at hr;subst hr;obtain⟨hxH,hbwH,hqH,hcallH⟩:=hq2 hx (hq2 hbw (hq2 hq (Lib.hid hcall)));clear hx hbw hq hcall;go_wp2_with (go_at_fn g;refine hcallH.out.mono ?_;rintro e w' ⟨rfl,hb'⟩;have hb'H:=Lib.hid hb';clear hb');go_ret;exact⟨k,rfl,by first | omega | (rw[if_pos rfl];omega),hbwH.out.trans (hb'H.out.mono hbwH.out.size)⟩
  ·have e:l.drop k = []:=List.drop_eq_nil_of_le (by have:=hllH.out;omega);rw[e]at hr;subst hr;obtain⟨hbwH,eH⟩:=hq2 hbw (Lib.hid e);clear hbw e;go_wp2;go_ret;exact⟨-1,rfl,by simp,hbwH.out⟩
theorem containsFunc_any (g:Nat) (lb:Array Value) (eg:∀ args w,(callFunc g args).run Tryz.prog w = .ok (.enter g args) w) (p:ByteArray→Bool) (A:Option Addr) (n c:Nat) (l:List ByteArray) (w:World)
  (hl:SlAt RStr w A n l) (hn:n≤9223372036854775807) (hp:PredL g lb p l w) (b:Bool) (hb:l.any p=b) :
  Calls Tryz.prog 137 #[.slice A n c,.func (.func g) #[] lb] w fun e w'=>e = .returned (.bool b)∧Below w.heap.size w w':=by
 obtain⟨hlH,hbH,hpH⟩:=hq2 hl (hq2 hb (Lib.hid hp));clear hl hb hp;go_enter Tryz.func137,Tryz.ntmps137;go_wp2_with fail;refine(indexFunc_any g lb eg p A n c l _ hlH.out hn hpH.out b hbH.out).mono ?_;rintro e w1 ⟨i,rfl,hi,hw1⟩;have hw1H:=Lib.hid hw1;clear hw1
 cases b
 ·rw[if_neg (by simp)]at hi;subst hi;go_wp2;go_ret;exact⟨rfl,hw1H.out⟩
 ·rw[if_pos rfl]at hi;go_wp2;go_ret;exact⟨rfl,hw1H.out⟩
end Go.Proofs.YtbnkoefljcekbaaGreatDoor.C9