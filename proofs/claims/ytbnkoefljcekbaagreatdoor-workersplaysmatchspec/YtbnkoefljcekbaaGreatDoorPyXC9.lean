/-
 Several texts of mine as one, without what is not wanted here: XFmE, XFmF, XFmG.
-/
import Derived.Test.YtbnkoefljcekbaaGreatDoorPyWC9
set_option linter.unusedVariables false
set_option linter.unusedSimpArgs false
set_option maxRecDepth 100000
set_option maxHeartbeats 8000000
namespace Go.Proofs.YtbnkoefljcekbaaGreatDoor.C9
open Go.ChangeShapes Go.WideShapes Go.Deep Go.RowKit
theorem own_nil_new (w:World) (base:Nat) (hb:base≤w.heap.size):Own RGRun 144 (w.alloc (.cells #[] 144)) base (.slice (some ⟨w.heap.size,0,none⟩) 0 0) [] :=
 own_make (cur:=#[]) hb (by show (w.heap.push _)[w.heap.size]? = _;exact Array.getElem?_push_size) (Nat.le_refl _) (Nat.zero_le _) rfl (by simp) rfl (fun x hx=>by cases hx)
theorem cloneG_any (A:Option Addr) (n cap:Nat) (L:List GRun) (w:World) (base:Nat) (hO:Own RGRun 144 w base (.slice A n cap) L) (hn:n≤1000000) :
  Calls Tryz.prog 160 #[.slice A n cap] w fun e w'=>∃ A' c',e = .returned (.slice A' n c')∧Own RGRun 144 w' w.heap.size (.slice A' n c') L∧Below w.heap.size w w':=by
 have q22:∀ (w:World) (a:Option Addr) (n c n' c':Nat),(binOp .eql 58 (.slice a n c) (.slice none n' c')).run Tryz.prog w = .ok (.bool a.isNone) w:=fun w a n c n' c'=>Lib.run_eql_slice_nil w _ _ a n c n' c' Tryz.underlying58;have hl:=hO.len
 rcases hO.1.2 with ⟨hv,h0⟩ | ⟨g,cap',cur,hv,_⟩
 ·injection hv with e1 e2 e3;subst e1 e2 e3;obtain rfl:L = []:=List.eq_nil_of_length_eq_zero h0;have R:Own RGRun 144 w w.heap.size (.slice none 0 0) []:=Own.nil _ _;obtain⟨hOH,hlH,RH⟩:=hq2 hO (hq2 hl (Lib.hid R));clear hO hl R;go_enter Tryz.func160,Tryz.ntmps160;go_wp2;go_ret;exact⟨none,0,rfl,RH.out,Below.refl _ _⟩
 ·injection hv with e1 e2 e3;subst e1 e3;clear e2;have hs:=hO.slAt;have hem:=own_nil_new w w.heap.size (Nat.le_refl _);obtain⟨hOH,hlH,hsH,hemH⟩:=hq2 hO (hq2 hl (hq2 hs (Lib.hid hem)));clear hO hl hs hem;go_enter Tryz.func160,Tryz.ntmps160;go_wp2_with (at_builtin;go_loud (refine wpList_app (R:=RGRun) (base:=w.heap.size) rfl (.tmp 5) (.tmp 6) 58 rfl Tryz.underlying58 elem_GRun (by decide) rfl hemH.out (some ⟨g,0,none⟩) n cap L rfl (hsH.out.below ((Below.refl _ _).alloc (Nat.le_refl _) _)) (fun _ h=>by cases h) (fun _ _ _ _ h=>h) (by simp only[List.length_nil];unfold maxLen;omega) (by simp only[List.length_nil];omega) (by simp) n (by simp) ?_);intro A' c' w' hq hg hat hbl);go_ret;rw[List.nil_append]at hq;exact⟨A',c',rfl,hq,((Below.refl w.heap.size w).alloc (Nat.le_refl _) (.cells #[] 144)).trans hbl⟩
theorem indexG_nil (g:Nat) (lb:Array Value) (w:World) :
  Calls Tryz.prog 157 #[.slice none 0 0,.func (.func g) #[] lb] w fun e w'=>e = .returned (.int .i64 (-1))∧w=w':=by
 go_enter Tryz.func157,Tryz.ntmps157;go_wp2_with fail
 go_loopw [8] (fun i wr=>i = .int .i64 0∧w=wr) (fun i _=>0)
 case atStart=>exact⟨rfl,rfl⟩
 case round =>
  obtain⟨rfl,rfl⟩:=hrel;go_wp2;go_ret;exact⟨rfl,rfl⟩
theorem deleteG_nil (g:Nat) (lb:Array Value) (w:World) :
  Calls Tryz.prog 113 #[.slice none 0 0,.func (.func g) #[] lb] w fun e w'=>e = .returned (.slice none 0 0)∧w=w':=by
 go_enter Tryz.func113,Tryz.ntmps113;go_wp2_with fail;refine(indexG_nil g lb w).mono ?_;rintro e w' ⟨rfl,rfl⟩;go_wp2;go_ret;exact⟨rfl,rfl⟩
theorem ro1_any (pb:Nat) (i:Int) (x:GRun) (W:World) (hc:W.cell? ⟨pb,0,none⟩=some (.int .i64 i)) :
  Calls Tryz.prog 161 #[.agg (gvals x),.pointer (some ⟨pb,0,none⟩)] W fun e w'=>e = .returned (.bool (x.work != i))∧Below W.heap.size W w':=by
 unfold gvals;obtain⟨a,b,c,d⟩:=x;have hlt:=cell?_lt hc;have hba:=(Below.refl W.heap.size W).alloc (Nat.le_refl _) (.cells #[.int .i64 a,.int .i64 b,.int .i64 c,.int .i64 d] 144);have hbaH:=Lib.hid hba;clear hba;go_enter Tryz.func161,Tryz.ntmps161;go_wp2;go_ret;exact⟨rfl,hbaH.out⟩
theorem filter_gr (F:FP) (P:List RR) (i:Nat) (hg:∀ r∈P,going r=true):(P.map (gr F)).filter (fun x=>!(x.work != (i:Int)))=(goingOf P i).map (gr F):=by
 unfold goingOf;rw[List.filter_map]
 congr 1
 refine List.filter_congr fun r hr=>?_;simp only[Function.comp,hg r hr,Bool.true_and];show (!!((r.work:Int)==(i:Int)))=(r.work==i);rw[Bool.not_not,Bool.eq_iff_iff,beq_iff_eq,beq_iff_eq];omega
def RoAns (F:FP) (P:List RR) (i:Nat) (w:World) (e:Ending) (w':World):Prop :=
 ∃ A k c,e = .returned (.slice A k c)∧k=(goingOf P i).length∧SlAt RGRun w' A k ((goingOf P i).map (gr F))∧Below w.heap.size w w'
theorem runsOf_any (fb:Nat) (F:FP) (A:Option Addr) (n cap:Nat) (P:List RR) (i:Nat) (w:World) (base:Nat) (h8:w.cell? ⟨fb,8,none⟩=some (.slice A n cap)) (hO:Own RGRun 144 w base (.slice A n cap) (P.map (gr F))) (hn:n≤1000000) (hg:∀ r∈P,going r=true) :
  Calls Tryz.prog 119 #[.pointer (some ⟨fb,0,none⟩),.int .i64 i] w (RoAns F P i w):=by
 have hlt:=cell?_lt h8;have hba:=(Below.refl w.heap.size w).alloc (Nat.le_refl _) (.cells #[.int .i64 i] 3);have b0:=Boxed.new w 3 (.int .i64 i);have hcl:=cloneG_any A n cap (P.map (gr F)) _ base (hO.below hba) hn;have hfl:=filter_gr F P i hg;have eg:∀ args w,(callFunc 161 args).run Tryz.prog w = .ok (.enter 161 args) w:=enters_of Tryz.func161 (by kernel_rfl) rfl;obtain⟨hOH,hbaH,hclH,hflH,hgH⟩:=hqb hO hba hcl hfl (Lib.hid hg);clear hO hba hcl hfl hg;go_enter Tryz.func119,Tryz.ntmps119;go_wp2_with fail;refine hclH.out.mono ?_;rintro e w1 ⟨A1,c1,rfl,hO1,hb1⟩;have hb01:=hbaH.out.trans (hb1.mono hbaH.out.size);have q0:w1.cell? ⟨w.heap.size,0,none⟩=some (.int .i64 i):=(hb1.cell (p:=⟨w.heap.size,0,none⟩) (by simp)).trans b0.cell;clear b0 hclH hbaH
 rcases hO1.1.2 with ⟨hv,h0⟩ | ⟨g,cap',cur,hv,hge,_⟩
 ·injection hv with e1 e2 e3;subst e1 e2 e3;have hP0:P = []:=by cases P with
   | nil=>rfl
   | cons a b=>simp at h0
  subst hP0;have R:RoAns F [] i w (.returned (.slice none 0 0)) w1:=⟨none,0,0,rfl,rfl,⟨rfl,fun h=>absurd h (Nat.lt_irrefl 0),fun x hx=>by cases hx⟩,hb01⟩;clear hO1 hb1 hb01 q0 h0;have RH:=Lib.hid R;clear R;go_wp2_with fail;refine(deleteG_nil _ _ w1).mono ?_;rintro e w2 ⟨rfl,rfl⟩;go_wp2;go_ret;exact RH.out
 ·injection hv with e1 e2 e3;subst e1 e3;clear e2;have hgl:=own_lt hO1;have hgw:w.heap.size≠g:=by simp at hge;omega
  have hwl:w.heap.size<w1.heap.size:=cell?_lt q0;have hcellW:∀ W,w1.grownBy W (some g)→W.cell? ⟨w.heap.size,0,none⟩=some (.int .i64 i):=fun W hW=>hW.cell q0 (by intro e;injection e with e;exact hgw e);have hP:DelP 161 #[.pointer (some ⟨w.heap.size,0,none⟩)] (fun x=>x.work != (i:Int)) (P.map (gr F)) g (fun _ W=>w1.grownBy W (some g)):=by
   refine⟨fun _ W W' h h2=>grown_trans h h2,fun k x W0 W hx hI hW=>?_⟩;have hIW:w1.grownBy W (some g):=grown_trans hI ⟨hW.os,hW.tape,hW.output,hW.size,fun k hk _=>hW.block k hk⟩;refine(ro1_any w.heap.size i x W (hcellW W hIW)).mono ?_;rintro e w' ⟨rfl,hb⟩;exact⟨rfl,grown_trans hIW ⟨hb.os,hb.tape,hb.output,hb.size,fun k hk _=>hb.block k hk⟩,hb.size,fun b _ hb2=>hb.block b hb2⟩
  have hdl:=deleteG_any 161 #[.pointer (some ⟨w.heap.size,0,none⟩)] eg (fun x=>x.work != (i:Int)) _ g n c1 (P.map (gr F)) _ w1 hP hO1 (World.grownBy.refl _ _) hn;clear hP hcellW hO1 q0;have hge2:w.heap.size≤g:=by simp at hge;omega
  obtain⟨hb1H,hb01H,hdlH⟩:=hq2 hb1 (hq2 hb01 (Lib.hid hdl));clear hb1 hb01 hdl;go_wp2_with fail;refine hdlH.out.mono ?_;rintro e w2 ⟨k,hk,rfl,hO2,hg2⟩;rw[hflH.out]at hO2;have R:RoAns F P i w (.returned (.slice (some ⟨g,0,none⟩) k c1)) w2 :=
   ⟨_,k,c1,rfl,by have:=hO2.len;rw[List.length_map]at this;exact this.symm,hO2.slAt,hb01H.out.grown hg2 hb01H.out.size (fun b hb=>by injection hb with hb;omega)⟩
  clear hO2 hg2 hk;have RH:=Lib.hid R;clear R;go_wp2;go_ret;exact RH.out
end Go.Proofs.YtbnkoefljcekbaaGreatDoor.C9
namespace Go.Proofs.YtbnkoefljcekbaaGreatDoor.C9
open Go.ChangeShapes Go.WideShapes Go.Deep Go.RowKit Go.Sort
def cfW (x y:GRun):Int:=Lib.compareInt x.worker y.worker
theorem ltW (x y:GRun):ltOf cfW x y=decide (x.worker<y.worker):=by
 unfold ltOf cfW Lib.compareInt
 by_cases h1:x.worker<y.worker
 ·simp[h1]
 ·by_cases h2:y.worker<x.worker <;> simp[h1,h2]
theorem swoW:SWO (ltOf cfW) where
 irrefl x:=by rw[ltW];simp
 trans x y z h1 h2:=by rw[ltW]at *;simp at *;omega
 ntrans x y z h1 h2:=by rw[ltW]at *;simp at *;omega
theorem fin1_any (x y:GRun) (W:World):Calls Tryz.prog 112 #[.agg (RGRun.vals x).toArray,.agg (RGRun.vals y).toArray] W fun e w'=>e = .returned (.int .i64 (cfW x y))∧∃ q os',w'=grow (W.drewN q) os':=by
 have hcon:=fun W'=>Tryz.cmp_Compare_int x.worker y.worker W';unfold cfW
 generalize Lib.compareInt x.worker y.worker=r at hcon ⊢
 obtain⟨xa,xb,xc,xd⟩:=x;obtain⟨ya,yb,yc,yd⟩:=y;show Calls Tryz.prog 112 #[.agg #[.int .i64 xa,.int .i64 xb,.int .i64 xc,.int .i64 xd],.agg #[.int .i64 ya,.int .i64 yb,.int .i64 yc,.int .i64 yd]] W _;have hconH:=Lib.hid hcon;clear hcon;go_enter Tryz.func112,Tryz.ntmps112;go_wp2_with fail;refine(hconH.out _).mono ?_;rintro e w' ⟨rfl,rfl⟩;go_wp2;go_ret;exact⟨rfl,0,_,by rw[alloc_eq_grow,alloc_eq_grow,grow_grow];rfl⟩
theorem perm_map_inv {α β:Type} {f:α→β} {L M:List β} (h:L.Perm M):∀ P:List α,M=P.map f→∃ P':List α,P'.Perm P∧L=P'.map f:=by
 induction h with
 | nil=>intro P hP;exact⟨P,List.Perm.refl _,hP⟩
 | cons x _ ih =>
  intro P hP
  cases P with
  | nil=>cases hP
  | cons a P =>
   rw[List.map_cons]at hP;injection hP with h1 h2;obtain⟨P',h3,h4⟩:=ih P h2;exact⟨a::P',h3.cons a,by rw[List.map_cons,h1,h4]⟩
 | swap x y l =>
  intro P hP
  match P,hP with
  | a::b::P,hP =>
   simp only[List.map_cons,List.cons.injEq]at hP;obtain⟨h1,h2,h3⟩:=hP;exact⟨b::a::P,List.Perm.swap _ _ _,by simp[h1,h2,h3]⟩
 | trans _ _ ih1 ih2 =>
  intro P hP;obtain⟨P1,h1,h2⟩:=ih2 P hP;obtain⟨P2,h3,h4⟩:=ih1 P1 h2;exact⟨P2,h3.trans h1,h4⟩
def SrtAns (base:Nat) (v:Value) (F:FP) (P:List RR) (w:World) (e:Ending) (w':World):Prop :=
 e = .returned (.tuple #[])∧∃ P':List RR,P'.Perm P∧(P'.Pairwise fun a b=>a.worker≤b.worker)∧Own RGRun 144 w' base v (P'.map (gr F))∧w.grownBy w' v.ownBlock
theorem sortG_any (A:Option Addr) (n cap:Nat) (F:FP) (P:List RR) (w:World) (base:Nat) (hO:Own RGRun 144 w base (.slice A n cap) (P.map (gr F))) (hn:n≤1000000) :
  Calls Tryz.prog 111 #[.slice A n cap,.func (.func 112) #[] #[]] w (SrtAns base (.slice A n cap) F P w):=by
 have hl:=hO.len
 rcases hO.1.2 with ⟨hv,h0⟩ | ⟨g,cap',cur,hv,_⟩
 ·injection hv with e1 e2 e3;subst e1 e2 e3;have hP0:P = []:=by cases P with
   | nil=>rfl
   | cons a b=>simp at h0
  subst hP0;have hcon:=AnyF.slices_SortFunc_none { Tryz.sortG with } none 0 (.func (.func 112) #[] #[]) w
  change Calls Tryz.prog 111 _ _ _ at hcon
  refine hcon.mono ?_;rintro e w' ⟨rfl,rfl⟩;exact⟨rfl,[],List.Perm.refl _,List.Pairwise.nil,hO,World.grownBy.refl _ _⟩
 ·injection hv with e1 e2 e3;subst e1 e3;clear e2;have eg:∀ args w,(callFunc 112 args).run Tryz.prog w = .ok (.enter 112 args) w:=enters_of Tryz.func112 (by kernel_rfl) rfl;have hH:=holdsK_of_own hO;have hsz:(P.map (gr F)).toArray.size=n:=by simpa using hl
  have hcon:=AnyQ.slices_SortFunc Tryz.sortG 4 Tryz.isAgg144 Tryz.sizeOf144 RGRun.vals (fun _=>rfl) RGRun.one cfW swoW 112 #[] g 0 cap (P.map (gr F)).toArray w eg
   (fun m os dk _ x y=>fin1_any x y _) hH (own_lt hO) (by rw[hsz];omega)
  change Calls Tryz.prog 111 _ _ _ at hcon
  rw[hsz]at hcon;refine hcon.mono ?_;rintro e w' ⟨rfl,d',m,os,hp,hs,rfl⟩;rw[← hsz]at hp hs;obtain⟨p1,p2⟩:=perm_of_in hp;obtain⟨P',h1,h2⟩:=perm_map_inv p1 P rfl;have hso:=sorted_of_in p2 hs;rw[h2]at hso;have hd:d'=(P'.map (gr F)).toArray:=by rw[← h2]
  have hlen:(P'.map (gr F)).length=n:=by rw[← hl,List.length_map,List.length_map];exact h1.length_eq
  refine⟨rfl,P',h1,?_,?_,?_⟩
  ·rw[List.pairwise_map]at hso;refine hso.imp fun {a b} hab=>?_;rw[ltW]at hab;have h9:(gr F a).worker≤(gr F b).worker:=by simpa using hab
   have e1:(gr F a).worker=(a.worker:Int):=rfl;have e2:(gr F b).worker=(b.worker:Int):=rfl;omega
  ·rw[hd];refine own_sortK hO _ hlen m os (fun x hx=>?_);obtain⟨r,hr,rfl⟩:=List.mem_map.1 hx;exact grun_okW w _ _ (hO.2 _ (List.mem_map_of_mem (h1.mem_iff.1 hr)))
  ·exact grown_sortK _ _ _
/-! ### finish,run by run: plain -/
section
variable {F:FP} {t:Int} {P:List RR}
def byF (F:FP) (t:Int) (P:List RR) (k:Nat) (i:Int):Option Int:=((P.take k).find? fun r=>(r.work:Int)==i&&cand F t r).map fun r=>(r.worker:Int)
theorem byF_succ {k:Nat} {r:RR} (hr:P[k]? = some r) (i:Int):byF F t P (k+1) i=match byF F t P k i with
  | some v=>some v
  | none=>if ((r.work:Int)==i&&cand F t r)=true then some (r.worker:Int) else none:=by
 unfold byF;rw[List.take_add_one,hr,Option.toList_some,List.find?_append]
 cases h:(P.take k).find? fun r=>(r.work:Int)==i&&cand F t r with
 | some x=>rfl
 | none =>
  simp only[Option.none_or,Option.map_none,List.find?_singleton]
  split
  ·rfl
  ·rfl
theorem byF_all (hs:P.Pairwise fun a b=>a.worker≤b.worker) (i:Nat):(byF F t P P.length (i:Int)=none∧hasDone F t P i=false) ∨
  (hasDone F t P i=true∧∃ c∈P,byF F t P P.length (i:Int)=some (c.worker:Int)∧c.work=i∧isBest F t P c=true):=by
 unfold byF;rw[List.take_length]
 cases h:P.find? fun r=>(r.work:Int)==(i:Int)&&cand F t r with
 | none =>
  left;refine⟨rfl,?_⟩;rw[List.find?_eq_none]at h;unfold hasDone;rw[List.any_eq_false];intro r hr hc;simp only[Bool.and_eq_true,beq_iff_eq]at hc;exact h r hr (by simp[hc.1,hc.2])
 | some c =>
  right;obtain⟨hc1,a,b,hab,hno⟩:=List.find?_eq_some_iff_append.1 h;simp only[Bool.and_eq_true,beq_iff_eq]at hc1;have hcm:c∈P:=by rw[hab];simp
  have hw:c.work=i:=by omega
  refine⟨List.any_eq_true.2 ⟨c,hcm,by rw[hc1.2,hw];simp⟩,c,hcm,rfl,hw,?_⟩;unfold isBest;rw[hc1.2,Bool.true_and,List.all_eq_true];intro x hx
  cases hcx:(x.work==c.work&&cand F t x)
  ·rfl
  ·simp only[Bool.and_eq_true,beq_iff_eq]at hcx;have hle:c.worker≤x.worker:=by
    rw[hab]at hx hs
    rcases List.mem_append.1 hx with hx | hx
    ·have:=hno x hx;simp[hcx.1,hw,hcx.2]at this
    ·rcases List.mem_cons.1 hx with rfl | hx
     ·exact Nat.le_refl _
     ·exact(List.pairwise_cons.1 (List.pairwise_append.1 hs).2.1).1 x hx
   simp[hle]
theorem best_iff (hs:P.Pairwise fun a b=>a.worker≤b.worker) (hd:P.Pairwise fun a b=>a.work=b.work→a.worker≠b.worker) {r:RR} (hr:r∈P) {v:Int} (hv:byF F t P P.length (r.work:Int)=some v):(v==(r.worker:Int))=isBest F t P r:=by
 rcases byF_all (F:=F) (t:=t) hs r.work with ⟨h1,_⟩ | ⟨h1,c,hc,h2,h3,h4⟩
 ·rw[h1]at hv;cases hv
 ·rw[h2]at hv;injection hv with hv;subst hv;rw[Bool.eq_iff_iff,beq_iff_eq]
  constructor
  ·intro e;have hcr:c=r:=by
    apply Classical.byContradiction;intro hne;obtain⟨i,hi,hci⟩:=List.getElem_of_mem hc;obtain⟨j,hj,hrj⟩:=List.getElem_of_mem hr;rw[List.pairwise_iff_getElem]at hd
    rcases Nat.lt_trichotomy i j with h | h | h
    ·have:=hd i j hi hj h;rw[hci,hrj]at this;exact this h3 (by omega)
    ·subst h;rw[hci]at hrj;exact hne hrj
    ·have:=hd j i hj hi h;rw[hci,hrj]at this;exact this h3.symm (by omega)
   rw[← hcr];exact h4
  ·intro hb;have hcand:=isBest_cand hb;unfold isBest at h4 hb;simp only[Bool.and_eq_true,List.all_eq_true]at h4 hb;have a:=h4.2 r hr;have b:=hb.2 c hc;rw[h3,hcand]at a;rw[h3,h4.1]at b;simp at a b;omega
def doneF (F:FP) (t:Int) (P:List RR) (k j:Nat):Bool:=(P.take k).any fun r=>r.work==j&&isBest F t P r
theorem doneF_succ {k:Nat} {r:RR} (hr:P[k]? = some r) (j:Nat):doneF F t P (k+1) j=(doneF F t P k j||(r.work==j&&isBest F t P r)):=by
 unfold doneF;rw[List.take_add_one,hr,Option.toList_some,List.any_append];simp
theorem doneF_all (j:Nat):doneF F t P P.length j=hasDone F t P j:=by
 unfold doneF;rw[List.take_length,Bool.eq_iff_iff]
 constructor
 ·intro h;obtain⟨r,hr,hc⟩:=List.any_eq_true.1 h;simp only[Bool.and_eq_true,beq_iff_eq]at hc;exact List.any_eq_true.2 ⟨r,hr,by rw[hc.1,isBest_cand hc.2];simp⟩
 ·intro h;obtain⟨r,hr,hw,hb⟩:=hasDone_ex h;exact List.any_eq_true.2 ⟨r,hr,by rw[hw,hb];simp⟩
def fnS (F:FP) (s:PS) (k:Nat):PS :=
 { s with out:=s.out++((s.runs.take k).filter fun r=>hasDone F s.now s.runs r.work).map (finRun F s.now s.runs),done:=fun j=>s.done j||doneF F s.now s.runs k j,last:=fun j=>if doneF F s.now s.runs k j=true then s.now else s.last j }
theorem fnS_zero (F:FP) (s:PS):fnS F s 0=s:=by
 unfold fnS doneF;simp
theorem fnS_all (F:FP) (s:PS):{ fnS F s s.runs.length with runs:=s.runs.filter fun r=>!hasDone F s.now s.runs r.work }=finP F s:=by
 unfold fnS finP;simp only[List.take_length];have:doneF F s.now s.runs s.runs.length=hasDone F s.now s.runs:=by funext j;exact doneF_all j
 simp only[this]
theorem fnS_no {s:PS} {k:Nat} {r:RR} (hr:s.runs[k]? = some r) (h:hasDone F s.now s.runs r.work=false):fnS F s (k+1)=fnS F s k:=by
 have hb:isBest F s.now s.runs r=false:=by
  cases hb:isBest F s.now s.runs r
  ·rfl
  ·have h9:hasDone F s.now s.runs r.work=true:=List.any_eq_true.2 ⟨r,List.mem_of_getElem? hr,by simp[isBest_cand hb]⟩;rw[h]at h9;cases h9
 have hd:doneF F s.now s.runs (k+1)=doneF F s.now s.runs k:=by funext j;rw[doneF_succ hr,hb];simp
 unfold fnS;rw[hd,List.take_add_one,hr,Option.toList_some,List.filter_append,List.filter_cons_of_neg (by simp[h]),List.filter_nil,List.append_nil]
theorem fnS_stop {s:PS} {k:Nat} {r:RR} (hr:s.runs[k]? = some r) (hg:going r=true) (h:hasDone F s.now s.runs r.work=true) (hb:isBest F s.now s.runs r=false):fnS F s (k+1)=clS (fnS F s k) r 3:=by
 have hd:doneF F s.now s.runs (k+1)=doneF F s.now s.runs k:=by funext j;rw[doneF_succ hr,hb];simp
 rw[clS_3];unfold fnS;rw[hd,List.take_add_one,hr,Option.toList_some,List.filter_append,List.filter_cons_of_pos (p:=fun r:RR=>hasDone F s.now s.runs r.work) h,List.filter_nil,List.map_append,List.map_singleton,finRun_yes (by rw[hg,h];rfl),hb];simp
theorem fnS_done {s:PS} {k:Nat} {r:RR} (hr:s.runs[k]? = some r) (hg:going r=true) (h:hasDone F s.now s.runs r.work=true) (hb:isBest F s.now s.runs r=true) :
  fnS F s (k+1)=clS { fnS F s k with done:=fun j=>if j=r.work then true else (fnS F s k).done j } r 1:=by
 rw[clS_n _ r (by decide) rfl];unfold fnS;rw[List.take_add_one,hr,Option.toList_some,List.filter_append,List.filter_cons_of_pos (p:=fun r:RR=>hasDone F s.now s.runs r.work) h,List.filter_nil,List.map_append,List.map_singleton,finRun_yes (by rw[hg,h];rfl),hb];simp only[if_true,List.append_assoc]
 congr 1
 ·funext j
  rw[doneF_succ hr,hb]
  by_cases e:j=r.work
  ·subst e;simp
  ·have:(r.work==j)=false:=by simpa using fun h=>e h.symm
   rw[if_neg e,this];simp
 ·funext j
  rw[doneF_succ hr,hb]
  by_cases e:j=r.work
  ·subst e;simp
  ·have:(r.work==j)=false:=by simpa using fun h=>e h.symm
   rw[if_neg e,this];simp
end
end Go.Proofs.YtbnkoefljcekbaaGreatDoor.C9
namespace Go.Proofs.YtbnkoefljcekbaaGreatDoor.C9
open Go.ChangeShapes Go.WideShapes Go.Deep Go.RowKit Go.Maps
noncomputable def KI:KD Tryz.prog 3 Int:=KInt Tryz.underlying3
theorem ki_good {n:Int} (h0:0≤n) (h1:n≤1000000):KI.good n:=by
 show (Lit.int .i64 n).wf=true;simp[Lit.wf,IntKind.min,IntKind.max,IntKind.signed,IntKind.bits];omega
theorem FS.congr {X:FX} {s s':PS} {w0:World} (h:FS X s w0) (h1:s'.now=s.now) (h2:s'.runs=s.runs):FS X s' w0 :=
 ⟨h.ok,h.F,h.ws,h.xs,h.ls,by rw[h1];exact h.t0,by rw[h1];exact h.t1,by rw[h1,h2];exact h.rn⟩
def StepAns (X:FX) (K:KD Tryz.prog 71 Loss) (rv ov:Value) (b:Bool) (s':PS) (w0 W:World) (e:Ending) (w':World):Prop :=
 e = .returned (.bool b)∧∃ ov',FC X K rv ov' s' w0 w'∧(∀ b,ov'.ownBlock=some b→ov.ownBlock=some b∨W.heap.size≤b)∧W.heap.size≤w'.heap.size∧∀ b,b<W.heap.size→b ∉ X.bl→ov.ownBlock≠some b→w'.heap[b]? = W.heap[b]?
theorem gr_agg (F:FP) (r:RR):gvals (gr F r) = #[.int .i64 r.work,.int .i64 r.worker,.int .i64 r.from_,.int .i64 ((F.endAt r.worker r.work r.from_).getD (-1))]:=rfl
theorem fin2_any {X:FX} {K:KD Tryz.prog 71 Loss} {rv ov:Value} {s:PS} {w0 W:World} {k c qb pb mk:Nat} {r:RR} (hC:FC X K rv ov (fnS X.F s k) w0 W) (hS:FS X s w0) (hr:s.runs[k]? = some r)
  (hso:s.runs.Pairwise fun a b=>a.worker≤b.worker) (hdi:s.runs.Pairwise fun a b=>a.work=b.work→a.worker≠b.worker) (hlen:s.out.length+s.runs.length≤900000)
  (hqp:qb ∉ X.bl∧pb ∉ X.bl) (q1:W.cell? ⟨qb,0,none⟩=some (.map (some mk))) (q2:W.cell? ⟨pb,0,none⟩=some (.pointer (some ⟨X.f,0,none⟩))) (hM:TMap KI (fun n:Int=>Value.int .i64 n) W mk (byF X.F s.now s.runs s.runs.length) c) :
  Calls Tryz.prog 114 #[.agg (gvals (gr X.F r)),.pointer (some ⟨qb,0,none⟩),.pointer (some ⟨pb,0,none⟩)] W (StepAns X K rv ov (hasDone X.F s.now s.runs r.work) (fnS X.F s (k+1)) w0 W):=by
 obtain⟨n1,n2,n3,n4,n5,n6⟩:=hS.nW;obtain⟨hg,_,hkW,hiX,hf0,hf1⟩:=hS.rn r (List.mem_of_getElem? hr);have hrm:=List.mem_of_getElem? hr;have hall:=byF_all (F:=X.F) (t:=s.now) hso r.work;have hbi:=fun v=>best_iff (F:=X.F) (t:=s.now) hso hdi hrm (v:=v);obtain⟨ed,hed⟩:∃ e,(X.F.endAt r.worker r.work r.from_).getD (-1)=e:=⟨_,rfl⟩;rw[gr_agg,hed];have hba:=(Below.refl W.heap.size W).alloc (Nat.le_refl _) (.cells #[.int .i64 r.work,.int .i64 r.worker,.int .i64 r.from_,.int .i64 ed] 144);have hC1:=hC.below hba;have hlk0:=(hM.alloc (.cells #[.int .i64 r.work,.int .i64 r.worker,.int .i64 r.from_,.int .i64 ed] 144)).look (t:=146) (e:=3) Tryz.underlying146 (z0:=(0:Int)) (Tryz.zeroValue3 _) injInt (x:=(r.work:Int)) (ki_good (by omega) (by omega));have hlk:=hlk0.2;clear hlk0;rw[show KI.val (r.work:Int)=Value.int .i64 (r.work:Int) from rfl]at hlk;have hlen2:(fnS X.F s k).out.length≤900000:=by
  show (s.out++_).length≤_;rw[List.length_append,List.length_map];have:=List.length_filter_le (fun r:RR=>hasDone X.F s.now s.runs r.work) (s.runs.take k);rw[List.length_take]at this;omega
 have hqlt:=cell?_lt q1;have hplt:=cell?_lt q2
 rcases hall with ⟨hby,hno⟩ | ⟨hyes,c0,hc0,hby,hcw,hcb⟩
 ·rw[hby]at hlk;have q1':=keepC hba q1;have R:StepAns X K rv ov (hasDone X.F s.now s.runs r.work) (fnS X.F s (k+1)) w0 W (.returned (.bool false)) (W.alloc (.cells #[.int .i64 r.work,.int .i64 r.worker,.int .i64 r.from_,.int .i64 ed] 144)) :=
   ⟨by rw[hno],ov,by rw[fnS_no hr hno];exact hC1,fun b hb=>.inl hb,hba.size,fun b hb _ _=>hba.block b hb⟩
  obtain⟨iw,hiw⟩:∃ q,r.work=q:=⟨_,rfl⟩;obtain⟨ik,hik⟩:∃ q,r.worker=q:=⟨_,rfl⟩;obtain⟨ifr,hifr⟩:∃ q,r.from_=q:=⟨_,rfl⟩;rw[hiw,hik,hifr]at hlk q1';obtain⟨Q,hQ⟩:∃ Q,StepAns X K rv ov (hasDone X.F s.now s.runs r.work) (fnS X.F s (k+1)) w0 W=Q:=⟨_,rfl⟩;rw[hQ]at R ⊢;rw[hiw,hik,hifr]at R ⊢;clear hbi hlen2 hS hC hC1 hso hdi hqp;simp only[Option.getD_none,Option.isSome_none]at hlk;obtain⟨hrH,hbaH,RH,hMH,hbyH,hnoH,hedH,hgH,hiwH,hikH,hifrH,hrmH,hQH⟩:=hqb hr hba R hM (hqc hby hno hed hg hiw hik hifr hrm (Lib.hid hQ));clear hr hba R hM hby hno hed hg hiw hik hifr hrm hQ;go_enter Tryz.func114,Tryz.ntmps114;go_wp2;exact RH.out
 ·rw[hby]at hlk;have hbv:=hbi _ hby
  have hSk:FS X (fnS X.F s k) w0:=hS.congr rfl rfl;have t0:=hS.t0;have t1:=hS.t1;simp only[Option.getD_some,Option.isSome_some]at hlk;have q1':=keepC hba q1;have q2':=keepC hba q2;have hnew:W.heap.size ∉ X.bl∧ov.ownBlock≠some W.heap.size:=⟨fun hm=>Nat.lt_irrefl _ (hC.lt _ hm),fun e=>Nat.lt_irrefl _ (hC.out.1.lt _ e).2⟩;have hdm:=hC.memf.2.2.2.1;have Rall:∀ (W2:World) (s':PS) (ov':Value) (w5:World),hasDone X.F s.now s.runs r.work=true→(W.heap.size≤W2.heap.size)→(∀ b,b<W.heap.size→b ∉ X.bl→ov.ownBlock≠some b→W2.heap[b]? = W.heap[b]?)→FC X K rv ov' s' w0 w5→(∀ b,ov'.ownBlock=some b→ov.ownBlock=some b∨W2.heap.size≤b)→W2.heap.size≤w5.heap.size →
    (∀ b,b<W2.heap.size→b ∉ X.bl→ov.ownBlock≠some b→w5.heap[b]? = W2.heap[b]?)→StepAns X K rv ov true s' w0 W (.returned (.bool true)) w5:=by
   intro W2 s' ov' w5 _ a1 a2 a3 a4 a5 a6;refine⟨rfl,ov',a3,fun b hb=>?_,by omega,fun b h1 h2 h3=>(a6 b (by omega) h2 h3).trans (a2 b h1 h2 h3)⟩
   rcases a4 b hb with h | h
   ·exact .inl h
   ·right;omega
  cases hb:isBest X.F s.now s.runs r
  ·rw[hb]at hbv;have hcl:=close_any hC1 hSk r hkW hiX hf0 (by omega) 3 (by omega) (by omega) hlen2 ed;have R:∀ w5,ClAns X K rv ov (clS (fnS X.F s k) r 3) w0 (W.alloc (.cells #[.int .i64 r.work,.int .i64 r.worker,.int .i64 r.from_,.int .i64 ed] 144)) (.returned (.tuple #[])) w5→StepAns X K rv ov (hasDone X.F s.now s.runs r.work) (fnS X.F s (k+1)) w0 W (.returned (.bool true)) w5:=by
    rintro w5 ⟨_,ov',h5,h6,h7,h8⟩;rw[fnS_stop hr hg hyes hb,hyes];exact Rall (W.alloc (.cells #[.int .i64 r.work,.int .i64 r.worker,.int .i64 r.from_,.int .i64 ed] 144)) _ ov' w5 hyes hba.size (fun b h1 _ _=>hba.block b h1) h5 h6 h7 h8
   obtain⟨iw,hiw⟩:∃ q,r.work=q:=⟨_,rfl⟩;obtain⟨ik,hik⟩:∃ q,r.worker=q:=⟨_,rfl⟩;obtain⟨ifr,hifr⟩:∃ q,r.from_=q:=⟨_,rfl⟩;obtain⟨Q,hQ⟩:∃ Q,StepAns X K rv ov (hasDone X.F s.now s.runs r.work) (fnS X.F s (k+1)) w0 W=Q:=⟨_,rfl⟩;obtain⟨Z,hZ⟩:∃ Q,ClAns X K rv ov (clS (fnS X.F s k) r 3) w0 (W.alloc (.cells #[.int .i64 r.work,.int .i64 r.worker,.int .i64 r.from_,.int .i64 ed] 144))=Q:=⟨_,rfl⟩;obtain⟨vc,hvc⟩:∃ v,(c0.worker:Int)=v:=⟨_,rfl⟩;rw[hQ]at R ⊢;rw[hZ]at R hcl;rw[hvc,hik]at hbv;rw[hvc,hiw,hik,hifr]at hlk;rw[hiw,hik,hifr]at hcl q1' q2' hba ⊢;clear hbi hlen2 hS hSk hC hC1 hso hdi Rall hnew hby hcw hcb hc0 q1 q2 hqp hf0 hf1 hkW hiX;obtain⟨hrH,hbaH,RH,hMH,hyesH,hedH,hgH,hiwH,hikH,hifrH,hrmH,hQH,hZH,hvcH,hclH,hbH⟩:=hq2 hr (hq2 hba (hq2 R (hqb hM hyes hed hg (hqc hiw hik hifr hrm hQ hZ hvc hcl (Lib.hid hb)))));clear hr hba R hM hyes hed hg hiw hik hifr hrm hQ hZ hvc hcl hb;go_enter Tryz.func114,Tryz.ntmps114;go_wp2_with fail;refine hclH.out.mono ?_;rintro e w5 h5;have h50:e = .returned (.tuple #[]):=by rw[← hZH.out]at h5;exact h5.1
   subst h50;have R5:=RH.out w5 h5;clear h5;have R5H:=Lib.hid R5;clear R5;go_wp2;exact R5H.out
  ·rw[hb]at hbv;have hCd:=(hC1.setDone r.work true).below (Below.refl _ _).drew;obtain⟨s9,hs9⟩:∃ s9,{ fnS X.F s k with done:=fun j=>if j=r.work then true else (fnS X.F s k).done j }=s9:=⟨_,rfl⟩;have hfn:fnS X.F s (k+1)=clS s9 r 1:=by rw[← hs9];exact fnS_done hr hg hyes hb
   have hS9:FS X s9 w0:=hSk.congr (by rw[← hs9]) (by rw[← hs9]);have ho9:s9.out.length≤900000:=by rw[← hs9];exact hlen2
   rw[hs9]at hCd;have hcl:=close_any hCd hS9 r hkW hiX hf0 (by omega) 1 (by omega) (by omega) ho9 ed;have R:∀ w5,ClAns X K rv ov (clS s9 r 1) w0 ((W.alloc (.cells #[.int .i64 r.work,.int .i64 r.worker,.int .i64 r.from_,.int .i64 ed] 144)).setCell ⟨X.db,r.work,none⟩ (.bool true)).drew (.returned (.tuple #[])) w5→StepAns X K rv ov (hasDone X.F s.now s.runs r.work) (fnS X.F s (k+1)) w0 W (.returned (.bool true)) w5:=by
    rintro w5 ⟨_,ov',h5,h6,h7,h8⟩;rw[hfn,hyes];have hbs:=hba.size;refine Rall _ _ ov' w5 hyes (by simp at hbs ⊢) (fun b h1 h2 _=>?_) h5 h6 h7 h8;have e1:=(grown_setc (W.alloc (.cells #[.int .i64 r.work,.int .i64 r.worker,.int .i64 r.from_,.int .i64 ed] 144)) ⟨X.db,r.work,none⟩ (.bool true)).block b (by simp;omega) (fun e=>h2 (by injection e with e;rw[e];exact hdm));exact Eq.trans e1 (hba.block b h1)
   have c9:=(hC1.blk 9 _ rfl).1;have dd:=hC1.done r.work (by show r.work<X.x.works.n;omega);obtain⟨dd1,dd2⟩:=dd;obtain⟨dv,hdv⟩:∃ v,(fnS X.F s k).done r.work=v:=⟨_,rfl⟩;rw[hdv]at dd1;have hqd:qb≠X.db:=fun e=>hqp.1 (by rw[e];exact hdm);have hpd:pb≠X.db:=fun e=>hqp.2 (by rw[e];exact hdm);have hwd:W.heap.size≠X.db:=fun e=>hnew.1 (by rw[e];exact hdm);have hNN:X.N=X.x.works.n:=rfl;rw[hNN]at c9;have hiN:r.work<X.x.works.n:=by omega
   have hlt9:X.db<W.heap.size:=hC.lt _ hdm;have c9w:=(hC.blk 9 _ rfl).1;rw[show X.N=X.x.works.n from rfl]at c9w;obtain⟨iw,hiw⟩:∃ q,r.work=q:=⟨_,rfl⟩;obtain⟨ik,hik⟩:∃ q,r.worker=q:=⟨_,rfl⟩;obtain⟨ifr,hifr⟩:∃ q,r.from_=q:=⟨_,rfl⟩;obtain⟨Q,hQ⟩:∃ Q,StepAns X K rv ov (hasDone X.F s.now s.runs r.work) (fnS X.F s (k+1)) w0 W=Q:=⟨_,rfl⟩;rw[hQ]at R ⊢;obtain⟨vc,hvc⟩:∃ v,(c0.worker:Int)=v:=⟨_,rfl⟩;rw[hvc,hik]at hbv;rw[hvc,hiw,hik,hifr]at hlk;rw[hiw,hik,hifr]at hcl q1' q2' hba R c9 dd1 dd2 ⊢;rw[hiw]at hiN;clear hbi hlen2 hS hSk hC hC1 hso hdi Rall hnew hby hcw hcb hc0 hqp hf0 hf1 hkW hiX hNN hCd hS9 ho9 hfn;obtain⟨hrH,hbaH,RH,hMH,hyesH,hedH,hgH,hiwH,hikH,hifrH,hrmH,hQH,hvcH,hclH,hbH,hdvH,hs9H⟩:=hqc hr hba R hM hyes hed hg hiw (hqc hik hifr hrm hQ hvc hcl hb hdv (Lib.hid hs9));clear hr hba R hM hyes hed hg hiw hik hifr hrm hQ hvc hcl hb hdv hs9;go_enter Tryz.func114,Tryz.ntmps114;go_wp2_with fail;have g0:=cell_new W #[.int .i64 iw,.int .i64 ik,.int .i64 ifr,.int .i64 ed] 144 0;have g1:=cell_new W #[.int .i64 iw,.int .i64 ik,.int .i64 ifr,.int .i64 ed] 144 1;have g2:=cell_new W #[.int .i64 iw,.int .i64 ik,.int .i64 ifr,.int .i64 ed] 144 2;have g3:=cell_new W #[.int .i64 iw,.int .i64 ik,.int .i64 ifr,.int .i64 ed] 144 3;simp only[List.getElem?_toArray,List.getElem?_cons_succ,List.getElem?_cons_zero]at g0 g1 g2 g3;have hcl:=hclH.out
   have R:=RH.out;have hba:=hbaH.out;clear hclH RH hbaH q1 q2 c9w hlk q1';obtain⟨W1,hW1⟩:∃ Y,W.alloc (.cells #[.int .i64 iw,.int .i64 ik,.int .i64 ifr,.int .i64 ed] 144)=Y:=⟨_,rfl⟩;rw[hW1]at g0 g1 g2 g3 hcl R hba q2' c9 dd1 dd2 ⊢;obtain⟨rb,hrb⟩:∃ b,W.heap.size=b:=⟨_,rfl⟩;have hltr:W.heap.size<W1.heap.size:=cell?_lt g0;rw[hrb]at g0 g1 g2 g3 hwd hqlt hplt hlt9 hltr ⊢;obtain⟨hclH,RH,hbaH,hW1H,hrbH⟩:=hqb hcl R hba hW1 (Lib.hid hrb);clear hcl R hba hW1 hrb
   go_still_tail 7,(by kernel_rfl)
   go_wp2_with fail;refine hclH.out.mono ?_;rintro e w5 h5;have h50:e = .returned (.tuple #[]):=h5.1;subst h50;have R5:=RH.out w5 h5;clear h5;have R5H:=Lib.hid R5;clear R5;go_wp2;exact R5H.out
end Go.Proofs.YtbnkoefljcekbaaGreatDoor.C9