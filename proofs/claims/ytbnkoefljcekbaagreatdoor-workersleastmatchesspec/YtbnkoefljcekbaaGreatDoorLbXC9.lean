/-
 Several texts of mine as one, without what is not wanted here: XOutW, XLawLst, XLstRow.
-/
import Derived.Test.YtbnkoefljcekbaaGreatDoorLbWC9
import Derived.Test.YtbnkoefljcekbaaGreatDoorLbKC9
import Derived.Test.YtbnkoefljcekbaaGreatDoorLbMC9
import Derived.Test.YtbnkoefljcekbaaGreatDoorLbNC9
import Derived.Test.YtbnkoefljcekbaaGreatDoorLbOC9
import Derived.Test.YtbnkoefljcekbaaGreatDoorCards
import Derived.Test.YtbnkoefljcekbaaGreatDoorTie
import Derived.OpenShut
import Derived.ShutString
import Derived.ChangeOld
import Derived.Deep.DeepHandedRow
import Derived.Lib.LaidTab
import Derived.Lib.LaidU8
import Derived.JoinedCond
import Derived.Deep.CondSized
set_option linter.unusedVariables false
set_option linter.unusedSimpArgs false
set_option maxRecDepth 100000
set_option maxHeartbeats 8000000
namespace Go.Proofs.YtbnkoefljcekbaaGreatDoor.C9
open Go.ChangeShapes Go.WideShapes Go.Deep Go.RowKit Go.Maps
theorem elem_Out:Elem Tryz.prog 42 ROutcome.size 40:=elem_of (z:=.agg #[.string ByteArray.empty,.int .i64 0,.int .i64 0,.int .i64 0]) (by kernel_rfl) (by decide)
def OutRel (x:Farm) (p:PS) (N:Nat) (W3:World) (v i:Value) (wr:World):Prop :=
 ∃ (k:Nat) (A:Option Addr) (c:Nat),k≤N∧i = .int .i64 k∧v = .slice A k c∧Own ROutcome 42 wr W3.heap.size (.slice A k c) ((List.range k).map (outOf x p))∧Below W3.heap.size W3 wr
def OutAns (x:Farm) (c:Int) (w:World) (e:Ending) (w':World):Prop :=
 (c≠0∧e = .returned (.tuple #[.slice none 0 0,.int .i64 c])∧Below w.heap.size w w') ∨
 (c=0∧∃ (A:Option Addr) (cap:Nat) (p:PS) (q:QS),e = .returned (.tuple #[.slice A x.works.n cap,.int .i64 0])∧SlAt ROutcome w' A x.works.n ((List.range x.works.n).map (outOf x p))∧QTrace (fpx x) q0 q∧EndP (fpx x) p q∧Below w.heap.size w w')
theorem Outcomes_any (x:Farm) (w:World) (hx:RFarm.ok w x) (c:Int) (hF:farmF x=c) :
  Calls Tryz.prog 16 #[farmV x] w (OutAns x c w):=by
 unfold farmV;have hN:x.works.n=x.works.l.length:=hx.2.1.1.1.symm;obtain⟨W1,hW1⟩:∃ Y,w.alloc (.cells #[.slice x.workers.A x.workers.n x.workers.cap,.slice x.works.A x.works.n x.works.cap,.slice x.lost.A x.lost.n x.lost.cap,.int .i64 x.tries,.bool x.doubles] 26)=Y:=⟨_,rfl⟩;obtain⟨xb,hxb⟩:∃ b,w.heap.size=b:=⟨_,rfl⟩;have hba:Below w.heap.size w W1:=by rw[← hW1];exact(Below.refl _ _).alloc (Nat.le_refl _) _
 have hx1:=RFarm.mono _ _ _ hba hx;have c0:W1.cell? ⟨xb,0,none⟩=some (.slice x.workers.A x.workers.n x.workers.cap):=by rw[← hW1,← hxb];exact cell_new _ _ _ 0
 have c1:W1.cell? ⟨xb,1,none⟩=some (.slice x.works.A x.works.n x.works.cap):=by rw[← hW1,← hxb];exact cell_new _ _ _ 1
 have c2:W1.cell? ⟨xb,2,none⟩=some (.slice x.lost.A x.lost.n x.lost.cap):=by rw[← hW1,← hxb];exact cell_new _ _ _ 2
 have c3:W1.cell? ⟨xb,3,none⟩=some (.int .i64 x.tries):=by rw[← hW1,← hxb];exact cell_new _ _ _ 3
 have c4:W1.cell? ⟨xb,4,none⟩=some (.bool x.doubles):=by rw[← hW1,← hxb];exact cell_new _ _ _ 4
 obtain⟨Z,hZ⟩:∃ Z,OutAns x c w=Z:=⟨_,rfl⟩;rw[hZ];obtain⟨hZH,hxH,hx1H,hW1H,hxbH,hbaH,hFH,hNH⟩:=hq2 hZ (hq2 hx (hq2 hx1 (hqb hW1 hxb hba hF (Lib.hid hN))));clear hZ hx hx1 hW1 hxb hba hF hN;go_enter Tryz.func16,Tryz.ntmps16;go_wp2_with fail;rw[hW1H.out,hxbH.out];refine(farm_any x _ hx1H.out c hFH.out).mono ?_;rintro e w1 ⟨rfl,hb1⟩;have c0:=keepC hb1 c0;have c1:=keepC hb1 c1;have c2:=keepC hb1 c2;have c3:=keepC hb1 c3;have c4:=keepC hb1 c4;have hx2:=RFarm.mono _ _ _ hb1 hx1H.out;have hbb:=hbaH.out.trans (hb1.mono hbaH.out.size)
 by_cases h1:c=0
 ·subst h1;obtain⟨hb1H,hx2H,hbbH⟩:=hq2 hb1 (hq2 hx2 (Lib.hid hbb));clear hb1 hx2 hbb;go_wp2_with fail;have c1H:=Lib.hid c1;have c3H:=Lib.hid c3;refine(open_any x _ hx2H.out (farmOk_of hFH.out)).mono ?_;rintro e w2 ⟨X,rv,ov,rfl,hXx,hXF,hC,hA⟩;have hXN:X.N=x.works.l.length:=by unfold FX.N;rw[hXx];exact hNH.out
  have hfin:=farm_fine hFH.out hXF hXN hC;have hp:=play_any hA (fs_start hFH.out hx2H.out hXx hXF) hfin (ordX_of (by rw[hXx];exact hXF));clear c0 c1 c2 c3 c4 hA;obtain⟨hXxH,hXFH,hCH,hXNH,hfinH,hpH⟩:=hq2 hXx (hqb hXF hC hXN hfin (Lib.hid hp));clear hXx hXF hC hXN hfin hp;go_wp2_with fail;go_at_call 32;refine hpH.out.mono ?_;rintro e w3 ⟨rfl,rv2,ov2,p',L,hT,hL,hs,hA3⟩;have hbe:=hA3.core.bel;obtain⟨_,_,q,hq,hE,hD⟩:=farm_done hFH.out hXxH.out hXFH.out hXNH.out hCH.out hT;obtain⟨N,hNe⟩:∃ n,x.works.n=n:=⟨_,rfl⟩;have hNl:x.works.l.length=N:=by rw[← hNe];exact hNH.out.symm
  have hXN2:X.N=N:=by rw[hXNH.out,hNl]
  have c1:=keepC hbe c1H.out;have c3:=keepC hbe c3H.out;have hf:=hA3.core.blk;have b9:=(hf 9 _ rfl).1;have b10:=(hf 10 _ rfl).1;have b12:=(hf 12 _ rfl).1;have b13:=(hf 13 _ rfl).1;rw[hXN2]at b9 b10 b12 b13;have r9:BRow w3 X.db X.N p'.done:=hA3.core.done;have r10:IRow w3 X.lb X.N p'.lost:=hA3.core.lost;have r12:IRow w3 X.tb X.N p'.last:=hA3.core.last;have r13:IRow w3 X.gb X.N p'.begun:=hA3.core.begun;rw[hXN2]at r9 r10 r12 r13;rw[hNe]at c1;have hxs3:=hx2H.out.2.1.1.below hbe;rw[hNe]at hxs3;have hK:∀ W,Below w3.heap.size w3 W→(W.cell? ⟨xb,1,none⟩=some (.slice x.works.A N x.works.cap)∧W.cell? ⟨xb,3,none⟩=some (.int .i64 x.tries)) ∧
    (W.cell? ⟨X.f,9,none⟩=some (.slice (some ⟨X.db,0,none⟩) N N)∧W.cell? ⟨X.f,10,none⟩=some (.slice (some ⟨X.lb,0,none⟩) N N)∧W.cell? ⟨X.f,12,none⟩=some (.slice (some ⟨X.tb,0,none⟩) N N)∧W.cell? ⟨X.f,13,none⟩=some (.slice (some ⟨X.gb,0,none⟩) N N)) ∧
    ∀ k,k<N→W.cell? ⟨X.db,k,none⟩=some (.bool (p'.done k))∧W.cell? ⟨X.lb,k,none⟩=some (.int .i64 (p'.lost k))∧W.cell? ⟨X.tb,k,none⟩=some (.int .i64 (p'.last k))∧W.cell? ⟨X.gb,k,none⟩=some (.int .i64 (p'.begun k)) :=
   fun W h=>⟨⟨keepC h c1,keepC h c3⟩,⟨keepC h b9,keepC h b10,keepC h b12,keepC h b13⟩,fun k hk=>⟨keepC h (r9 k hk).1,keepC h (r10 k hk).1,keepC h (r12 k hk).1,keepC h (r13 k hk).1⟩⟩
  have hn9:∀ k,0≤p'.begun k∧p'.begun k≤11∧0≤p'.last k∧p'.last k≤1000000000:=fun k=>endP_nums hE hFH.out k;have RZ:∀ (A:Option Addr) (cp:Nat) (W:World),Own ROutcome 42 W w3.heap.size (.slice A N cp) ((List.range N).map (outOf x p'))→Below w3.heap.size w3 W→Z (.returned (.tuple #[.slice A N cp,.int .i64 0])) W:=by
   intro A cp W ho hb;rw[← hZH.out,← hNe];refine .inr ⟨rfl,A,cp,p',q,rfl,?_,hq,hE,?_⟩
   ·rw[hNe];exact ho.slAt
   ·have h23:=hbe;exact hbbH.out.trans ((h23.trans (hb.mono h23.size)).mono hbbH.out.size)
  have hst:OutRel x p' N w3 (.slice none 0 0) (.int .i64 0) w3:=⟨0,none,0,Nat.zero_le _,rfl,rfl,Own.nil _ _,Below.refl _ _⟩;have hN2:N≤200:=by have:=(farmOk_of hFH.out).wo.len;omega
  clear hf b9 b10 b12 b13 r9 r10 r12 r13 hA3 hT hL hs hD hE hpH c1H c3H hbe;obtain⟨xA,hxA⟩:∃ a,x.works.A=a:=⟨_,rfl⟩;obtain⟨xc,hxc⟩:∃ a,x.works.cap=a:=⟨_,rfl⟩;rw[hxA]at hxs3;rw[hxA,hxc]at c1 hK;have hxlt:=cell?_lt c1;obtain⟨hKH,hn9H,RZH,hstH,hxs3H,hqH,hxAH,hxcH,hNeH,hNlH,hXN2H⟩:=hq2 hK (hq2 hn9 (hqc RZ hst hxs3 hq hxA hxc hNe hNl (Lib.hid hXN2)));clear hK hn9 RZ hst hxs3 hq hxA hxc hNe hNl hXN2;go_wp2_with fail;clear c1 c3
  go_loopw [6,22] (fun v i wr=>OutRel x p' N w3 v i wr) (fun _ i _=>N-(intOf i).toNat)
  case atStart=>exact hstH.out
  case round =>
   clear hstH;obtain⟨k,A1,c1',hk,rfl,rfl,hown,hb⟩:=hrel;have hbs:=hb.size
   by_cases hlt:k<N
   ·obtain⟨⟨c1,c3⟩,⟨f9,f10,f12,f13⟩,hr⟩:=hKH.out wr hb;obtain⟨g9,g10,g12,g13⟩:=hr k hlt;clear hr;have hsl:=hxs3H.out.below hb;obtain⟨bx,ox,hA9,_⟩:=hsl.2.1 (by omega);subst hA9;obtain⟨z,hz⟩:∃ z,x.works.l[k]? = some z:=⟨x.works.l[k]'(by have:=hNlH.out;omega),List.getElem?_eq_getElem _⟩;obtain⟨e0,e1,e2,e3⟩:=cells_Work hsl hz;have hzo:=(hsl.2.2 z (List.mem_of_getElem? hz)).1;have hzw:=woOf_get hz;obtain⟨bg,hbg⟩:∃ v,p'.begun k=v:=⟨_,rfl⟩;obtain⟨dn,hdn⟩:∃ v,p'.done k=v:=⟨_,rfl⟩;obtain⟨la,hla⟩:∃ v,p'.last k=v:=⟨_,rfl⟩;obtain⟨lo,hlo⟩:∃ v,p'.lost k=v:=⟨_,rfl⟩;have hn:=hn9H.out k;rw[hbg]at g13 hn;rw[hdn]at g9;rw[hla]at g12 hn;rw[hlo]at g10;obtain⟨id,nd,sz,af⟩:=z;simp only at e0 e1 e2 e3 hzo;have hba:=hb.alloc hbs (.cells #[.string id,.slice nd.A nd.n nd.cap,.int .i64 sz,.slice af.A af.n af.cap] 86);have hbz:=(Below.refl wr.heap.size wr).alloc (Nat.le_refl _) (.cells #[.string id,.slice nd.A nd.n nd.cap,.int .i64 sz,.slice af.A af.n af.cap] 86);have hs5:∀ s t,s=outS x p' k→t=outT x p' k→outOf x p' k=⟨id,s,t,bg⟩:=fun s t hs ht=>by unfold outOf;rw[hzw,← hs,← ht,hbg]
    have hstt:(if dn=true then (1:Int) else if x.tries≤lo then 2 else 3)=outS x p' k∧(if dn=true then la else if x.tries≤lo then la else 0)=outT x p' k:=by
     unfold outS outT;rw[hdn,hlo,hla];exact⟨rfl,rfl⟩
    have R:∀ (s t:Int) (w8:World),s=outS x p' k→t=outT x p' k→∀ (A':Option Addr) (c':Nat) (w9:World),Own ROutcome 42 w9 w3.heap.size (.slice A' (k+1) c') ((List.range k).map (outOf x p') ++ [⟨id,s,t,bg⟩])→Below w3.heap.size w3 w9→OutRel x p' N w3 (.slice A' (k+1) c') (.int .i64 ((k:Int)+1)) w9:=by
     intro s t w8 hs ht A' c' w9 ho hb9;refine⟨k+1,A',c',hlt,by go_num,rfl,?_,hb9⟩;rw[List.range_succ,List.map_append,List.map_singleton,hs5 s t hs ht];exact ho
    obtain⟨W5,hW5⟩:∃ Y,wr.alloc (.cells #[.string id,.slice nd.A nd.n nd.cap,.int .i64 sz,.slice af.A af.n af.cap] 86)=Y:=⟨_,rfl⟩;obtain⟨zb,hzb⟩:∃ b,wr.heap.size=b:=⟨_,rfl⟩;have y0:W5.cell? ⟨zb,0,none⟩=some (.string id):=by rw[← hW5,← hzb];exact cell_new _ _ _ 0
    rw[hW5]at hba hbz;have hown5:=hown.below hbz;obtain⟨hzH,hbaH,hbzH,hown5H,hs5H,hsttH,RH,hW5H,hzbH,hnH,hzoH,hzwH,hbgH,hdnH,hlaH,hloH,hownH,hbH⟩:=hq2 hz (hqc hba hbz hown5 hs5 hstt R hW5 hzb (hqc hn hzo hzw hbg hdn hla hlo hown (Lib.hid hb)));clear hz hba hbz hown5 hs5 hstt R hW5 hzb hn hzo hzw hbg hdn hla hlo hown hb;go_wp2_with fail;rw[hW5H.out,hzbH.out];have c1:=keepC hbzH.out c1;have c3:=keepC hbzH.out c3;have f9:=keepC hbzH.out f9;have f10:=keepC hbzH.out f10;have f12:=keepC hbzH.out f12;have f13:=keepC hbzH.out f13;have g9:=keepC hbzH.out g9;have g10:=keepC hbzH.out g10;have g12:=keepC hbzH.out g12;have g13:=keepC hbzH.out g13;clear e0 e1 e2 e3;have l1:=cell?_lt f9;have l2:=cell?_lt g13;have l3:=cell?_lt y0;simp only at l1 l2 l3
    go_region
    obtain⟨W6,hW6⟩:∃ Y,(W5.alloc (.cells #[.string id,.int .i64 3,.int .i64 0,.int .i64 bg] 42)).drew=Y:=⟨_,rfl⟩;obtain⟨ob,hob⟩:∃ b,W5.heap.size=b:=⟨_,rfl⟩;have hb6:Below W5.heap.size W5 W6:=by rw[← hW6];exact((Below.refl _ _).alloc (Nat.le_refl _) _).drew
    have hB6:Blk W6 ob [.string id,.int .i64 3,.int .i64 0,.int .i64 bg]:=by
     rw[← hW6,← hob];exact(blk_new W5 [.string id,.int .i64 3,.int .i64 0,.int .i64 bg] 42).keep rfl
    have n1:=cell?_lt f9;have n2:=cell?_lt g12;have n3:=cell?_lt g10;have n4:=cell?_lt c3;simp only at n1 n2 n3 n4;rw[hob]at n1 n2 n3 n4;rw[hW6,hob];have c1:=keepC hb6 c1;have c3:=keepC hb6 c3;have f9:=keepC hb6 f9;have f10:=keepC hb6 f10;have f12:=keepC hb6 f12;have g9:=keepC hb6 g9;have g10:=keepC hb6 g10;have g12:=keepC hb6 g12;have o0:=(hB6 0 _ rfl).1;have o1:=(hB6 1 _ rfl).1;have o2:=(hB6 2 _ rfl).1;have o3:=(hB6 3 _ rfl).1;have z1:=(hB6 1 _ rfl).2;have z2:=(hB6 2 _ rfl).2;have l1:=cell?_lt f9;have l2:=cell?_lt o0;simp only at l1 l2;have hob5:W5.heap.size≤ob:=Nat.le_of_eq hob;have hb6s:=hb6.size
    cases dn
    ·by_cases hlt3:x.tries≤lo
     ·have hdec:decide (lo ≥ x.tries)=true:=decide_eq_true hlt3;have hs9:(2:Int)=outS x p' k:=by rw[← hsttH.out.1,if_neg (by decide),if_pos hlt3]
      have ht9:la=outT x p' k:=by rw[← hsttH.out.2,if_neg (by decide),if_pos hlt3]
      obtain⟨hW6H,hobH,hb6H,hB6H,hob5H,hs9H,ht9H⟩:=hq2 hW6 (hq2 hob (hqb hb6 hB6 hob5 hs9 (Lib.hid ht9)));clear hW6 hob hb6 hB6 hob5 hs9 ht9;go_wp2_with fail
      go_quiet (fail)
      obtain⟨W8,hW8⟩:∃ Y,W6.drewN nq=Y:=⟨_,rfl⟩;have hb68:Below W6.heap.size W6 W8:=by rw[← hW8];exact bel_drewN (Below.refl _ _) nq
      have hB8:Blk W8 ob [.string id,.int .i64 3,.int .i64 0,.int .i64 bg]:=hB6H.out.keep (hb68.block ob (cell?_lt o0));have hb8:Below W5.heap.size W5 W8:=hb6H.out.trans (hb68.mono hb6H.out.size);have c1:=keepC hb68 c1;have c3:=keepC hb68 c3;have f9:=keepC hb68 f9;have f10:=keepC hb68 f10;have f12:=keepC hb68 f12;have g9:=keepC hb68 g9;have g10:=keepC hb68 g10;have g12:=keepC hb68 g12;have o0:=(hB8 0 _ rfl).1;have o1:=(hB8 1 _ rfl).1;have o2:=(hB8 2 _ rfl).1;have o3:=(hB8 3 _ rfl).1;have z1:=(hB8 1 _ rfl).2;have z2:=(hB8 2 _ rfl).2;have l1:=cell?_lt f9;have l2:=cell?_lt o0;simp only at l1 l2;rw[hW8];obtain⟨hB8H,hb8H,hb68H,hW8H⟩:=hq2 hB8 (hq2 hb8 (hq2 hb68 (Lib.hid hW8)));clear hB8 hb8 hb68 hW8;go_wp2_with fail
      go_region
      obtain⟨W7,hW7⟩:∃ Y,((W8.setCell ⟨ob,1,none⟩ (.int .i64 2)).setCell ⟨ob,2,none⟩ (.int .i64 la)).drew=Y:=⟨_,rfl⟩;have hB7:Blk W7 ob [.string id,.int .i64 2,.int .i64 la,.int .i64 bg]:=by
       rw[← hW7];exact(((hB8H.out.set (k:=1) (by simp) (.int .i64 2)).set (k:=2) (by simp) (.int .i64 la))).keep rfl
      have hb7:Below W5.heap.size W5 W7:=by
       rw[← hW7];exact((hb8H.out.setCell (p:=⟨ob,1,none⟩) hob5H.out _).setCell (p:=⟨ob,2,none⟩) hob5H.out _).drew
      rw[hW7];have hs9:=hs9H.out;have ht9:=ht9H.out;clear hW7;have q0:=(hB7 0 _ rfl).1;have q1:=(hB7 1 _ rfl).1;have q2:=(hB7 2 _ rfl).1;have q3:=(hB7 3 _ rfl).1;have hown7:=hown5H.out.below hb7;have hb73:=hbaH.out.trans (hb7.mono hbaH.out.size);have hsz7:=hb73.size;have hnw:=slAt_new (R:=ROutcome) W7 42 (⟨id,2,la,bg⟩:Outcome) ⟨hzoH.out,by show I64 2;unfold I64;omega,by show I64 la;unfold I64;have:=hnH.out;omega,by show I64 bg;unfold I64;have:=hnH.out;omega⟩;have RR:=RH.out 2 la W7 hs9 ht9;clear hB7 c1 c3 f9 f10 f12 f13 g9 g10 g12 g13 o0 o1 o2 o3 z1 z2 y0;obtain⟨hown7H,hb73H,hsz7H,hnwH,RRH,hb7H,hs9H,ht9H⟩:=hq2 hown7 (hq2 hb73 (hq2 hsz7 (hqb hnw RR hb7 hs9 (Lib.hid ht9))));clear hown7 hb73 hsz7 hnw RR hb7 hs9 ht9;go_wp2_with (at_builtin;go_loud (refine wpList_app rfl (.tmp 74) (.tmp 76) 37 rfl Tryz.underlying37 elem_Out (by decide) rfl (hown7H.out.alloc _) (some ⟨W7.heap.size,0,none⟩) 1 1 [(⟨id,2,la,bg⟩:Outcome)] rfl hnwH.out ?nn ?ok ?c1 ?c2 ?c3 (k+1) ?c4 ?_))
      case nn=>intro h;cases h
      case ok=>exact fun _ _ _ _ h=>h
      case c1=>simp[maxLen];omega
      case c2=>simp;omega
      case c3=>have:=hsz7H.out;simp;omega
      case c4=>simp
      intro A' c' w9 hown9 hg9 hat9 hb9;have R9:=RRH.out A' c' w9 hown9 ((hb73H.out.alloc hsz7H.out _).trans hb9);clear hg9 hat9 hb9 hown9;have R9H:=Lib.hid R9;clear R9;go_wp2;refine⟨?rel,?measure⟩
      case measure=>(simp[intOf];omega)
      case rel=>first | exact R9H.out | exact⟨rfl,R9H.out⟩
     ·have hdec:decide (lo ≥ x.tries)=false:=decide_eq_false hlt3;have hs9:(3:Int)=outS x p' k:=by rw[← hsttH.out.1,if_neg (by decide),if_neg hlt3]
      have ht9:(0:Int)=outT x p' k:=by rw[← hsttH.out.2,if_neg (by decide),if_neg hlt3]
      obtain⟨hW6H,hobH,hb6H,hB6H,hob5H,hs9H,ht9H⟩:=hq2 hW6 (hq2 hob (hqb hb6 hB6 hob5 hs9 (Lib.hid ht9)));clear hW6 hob hb6 hB6 hob5 hs9 ht9;go_wp2_with fail
      go_quiet (fail)
      obtain⟨W8,hW8⟩:∃ Y,W6.drewN nq=Y:=⟨_,rfl⟩;have hb68:Below W6.heap.size W6 W8:=by rw[← hW8];exact bel_drewN (Below.refl _ _) nq
      have hB8:Blk W8 ob [.string id,.int .i64 3,.int .i64 0,.int .i64 bg]:=hB6H.out.keep (hb68.block ob (cell?_lt o0));have hb8:Below W5.heap.size W5 W8:=hb6H.out.trans (hb68.mono hb6H.out.size);have c1:=keepC hb68 c1;have c3:=keepC hb68 c3;have f9:=keepC hb68 f9;have f10:=keepC hb68 f10;have f12:=keepC hb68 f12;have g9:=keepC hb68 g9;have g10:=keepC hb68 g10;have g12:=keepC hb68 g12;have o0:=(hB8 0 _ rfl).1;have o1:=(hB8 1 _ rfl).1;have o2:=(hB8 2 _ rfl).1;have o3:=(hB8 3 _ rfl).1;have z1:=(hB8 1 _ rfl).2;have z2:=(hB8 2 _ rfl).2;have l1:=cell?_lt f9;have l2:=cell?_lt o0;simp only at l1 l2;rw[hW8];obtain⟨hB8H,hb8H,hb68H,hW8H⟩:=hq2 hB8 (hq2 hb8 (hq2 hb68 (Lib.hid hW8)));clear hB8 hb8 hb68 hW8;have hB7:Blk W8 ob [.string id,.int .i64 3,.int .i64 0,.int .i64 bg]:=hB8H.out;obtain⟨W7,hW7⟩:∃ Y,W8=Y:=⟨_,rfl⟩;have hb7:=hb8H.out;clear hb8H hB8H;subst hW7;have hs9:=hs9H.out;have ht9:=ht9H.out;have q0:=(hB7 0 _ rfl).1;have q1:=(hB7 1 _ rfl).1;have q2:=(hB7 2 _ rfl).1;have q3:=(hB7 3 _ rfl).1;have hown7:=hown5H.out.below hb7;have hb73:=hbaH.out.trans (hb7.mono hbaH.out.size);have hsz7:=hb73.size;have hnw:=slAt_new (R:=ROutcome) W8 42 (⟨id,3,0,bg⟩:Outcome) ⟨hzoH.out,by show I64 3;unfold I64;omega,by show I64 0;unfold I64;have:=hnH.out;omega,by show I64 bg;unfold I64;have:=hnH.out;omega⟩;have RR:=RH.out 3 0 W8 hs9 ht9;clear hB7 c1 c3 f9 f10 f12 f13 g9 g10 g12 g13 o0 o1 o2 o3 z1 z2 y0;obtain⟨hown7H,hb73H,hsz7H,hnwH,RRH,hb7H,hs9H,ht9H⟩:=hq2 hown7 (hq2 hb73 (hq2 hsz7 (hqb hnw RR hb7 hs9 (Lib.hid ht9))));clear hown7 hb73 hsz7 hnw RR hb7 hs9 ht9
      go_wp2_with (at_builtin;go_loud (refine wpList_app rfl (.tmp 74) (.tmp 76) 37 rfl Tryz.underlying37 elem_Out (by decide) rfl (hown7H.out.alloc _) (some ⟨W8.heap.size,0,none⟩) 1 1 [(⟨id,3,0,bg⟩:Outcome)] rfl hnwH.out ?nn ?ok ?c1 ?c2 ?c3 (k+1) ?c4 ?_))
      case nn=>intro h;cases h
      case ok=>exact fun _ _ _ _ h=>h
      case c1=>simp[maxLen];omega
      case c2=>simp;omega
      case c3=>have:=hsz7H.out;simp;omega
      case c4=>simp
      intro A' c' w9 hown9 hg9 hat9 hb9;have R9:=RRH.out A' c' w9 hown9 ((hb73H.out.alloc hsz7H.out _).trans hb9);clear hg9 hat9 hb9 hown9;have R9H:=Lib.hid R9;clear R9;go_wp2;refine⟨?rel,?measure⟩
      case measure=>(simp[intOf];omega)
      case rel=>first | exact R9H.out | exact⟨rfl,R9H.out⟩
    ·have hs9:(1:Int)=outS x p' k:=by rw[← hsttH.out.1,if_pos rfl]
     have ht9:la=outT x p' k:=by rw[← hsttH.out.2,if_pos rfl]
     obtain⟨hW6H,hobH,hb6H,hB6H,hob5H,hs9H,ht9H⟩:=hq2 hW6 (hq2 hob (hqb hb6 hB6 hob5 hs9 (Lib.hid ht9)));clear hW6 hob hb6 hB6 hob5 hs9 ht9;go_wp2_with fail
     go_region
     obtain⟨W7,hW7⟩:∃ Y,((W6.setCell ⟨ob,1,none⟩ (.int .i64 1)).setCell ⟨ob,2,none⟩ (.int .i64 la)).drew=Y:=⟨_,rfl⟩;have hB7:Blk W7 ob [.string id,.int .i64 1,.int .i64 la,.int .i64 bg]:=by
      rw[← hW7];exact(((hB6H.out.set (k:=1) (by simp) (.int .i64 1)).set (k:=2) (by simp) (.int .i64 la))).keep rfl
     have hb7:Below W5.heap.size W5 W7:=by
      rw[← hW7];exact((hb6H.out.setCell (p:=⟨ob,1,none⟩) hob5H.out _).setCell (p:=⟨ob,2,none⟩) hob5H.out _).drew
     rw[hW7];have hs9:=hs9H.out;have ht9:=ht9H.out;clear hW7;have q0:=(hB7 0 _ rfl).1;have q1:=(hB7 1 _ rfl).1;have q2:=(hB7 2 _ rfl).1;have q3:=(hB7 3 _ rfl).1;have hown7:=hown5H.out.below hb7;have hb73:=hbaH.out.trans (hb7.mono hbaH.out.size);have hsz7:=hb73.size;have hnw:=slAt_new (R:=ROutcome) W7 42 (⟨id,1,la,bg⟩:Outcome) ⟨hzoH.out,by show I64 1;unfold I64;omega,by show I64 la;unfold I64;have:=hnH.out;omega,by show I64 bg;unfold I64;have:=hnH.out;omega⟩;have RR:=RH.out 1 la W7 hs9 ht9;clear hB7 c1 c3 f9 f10 f12 f13 g9 g10 g12 g13 o0 o1 o2 o3 z1 z2 y0;obtain⟨hown7H,hb73H,hsz7H,hnwH,RRH,hb7H,hs9H,ht9H⟩:=hq2 hown7 (hq2 hb73 (hq2 hsz7 (hqb hnw RR hb7 hs9 (Lib.hid ht9))));clear hown7 hb73 hsz7 hnw RR hb7 hs9 ht9;go_wp2_with (at_builtin;go_loud (refine wpList_app rfl (.tmp 74) (.tmp 76) 37 rfl Tryz.underlying37 elem_Out (by decide) rfl (hown7H.out.alloc _) (some ⟨W7.heap.size,0,none⟩) 1 1 [(⟨id,1,la,bg⟩:Outcome)] rfl hnwH.out ?nn ?ok ?c1 ?c2 ?c3 (k+1) ?c4 ?_))
     case nn=>intro h;cases h
     case ok=>exact fun _ _ _ _ h=>h
     case c1=>simp[maxLen];omega
     case c2=>simp;omega
     case c3=>have:=hsz7H.out;simp;omega
     case c4=>simp
     intro A' c' w9 hown9 hg9 hat9 hb9;have R9:=RRH.out A' c' w9 hown9 ((hb73H.out.alloc hsz7H.out _).trans hb9);clear hg9 hat9 hb9 hown9;have R9H:=Lib.hid R9;clear R9;go_wp2;refine⟨?rel,?measure⟩
     case measure=>(simp[intOf];omega)
     case rel=>first | exact R9H.out | exact⟨rfl,R9H.out⟩
   ·obtain rfl:k=N:=by omega
    have R:=RZH.out A1 c1' wr hown hb;obtain⟨RH,hownH,hbH⟩:=hq2 R (hq2 hown (Lib.hid hb));clear R hown hb;go_wp2;exact RH.out
 ·have R:Z (.returned (.tuple #[.slice none 0 0,.int .i64 c])) w1:=by
   rw[← hZH.out];exact .inl ⟨h1,rfl,hbb⟩
  have h1':(c != 0)=true:=by simpa using h1
  clear h1;obtain⟨RH,hb1H,hx2H,hbbH⟩:=hq2 R (hq2 hb1 (hq2 hx2 (Lib.hid hbb)));clear R hb1 hx2 hbb;go_wp2;exact RH.out
theorem both_le {x:Farm} {c:Int} {w1 w1':World} {e1:Ending} (hwo:c=0→WOk x.works.l) (h1:LeAns x c w1 e1 w1') :
  ∃ (v f:Int),e1 = .returned (.tuple #[.int .i64 v,.int .i64 f]) ∧
   (f≠0∨(f=0∧x.works.l = [])∨(f=0∧c=0∧x.works.l≠[]∧x.workers.l≠[]∧∃ S:List Int,S.length=x.works.l.length∧Crit (gOf x.works.l) (szOf x.works.l) x.works.l.length (gt S)∧v=leV x S)) ∧
   Below w1.heap.size w1 w1'∧∀ (w2 w2':World) (e2:Ending),LeAns x c w2 e2 w2'→e2 = .returned (.tuple #[.int .i64 v,.int .i64 f])∧Below w2.heap.size w2 w2':=by
 obtain⟨b1,h1⟩:=h1
 rcases h1 with ⟨hc,r1⟩ | ⟨hc,hw,r1⟩ | ⟨hc,hw,hk,r1⟩ | ⟨hc,hw,hk,S,hl,hC,r1⟩
 ·refine⟨0,c,r1,.inl hc,b1,fun w2 w2' e2 h2=>?_⟩;obtain⟨b2,h2⟩:=h2
  rcases h2 with ⟨_,r2⟩ | ⟨h0,_⟩ | ⟨h0,_⟩ | ⟨h0,_⟩
  ·exact⟨r2,b2⟩
  all_goals exact absurd h0 hc
 ·refine⟨0,0,r1,.inr (.inl ⟨rfl,hw⟩),b1,fun w2 w2' e2 h2=>?_⟩;obtain⟨b2,h2⟩:=h2
  rcases h2 with ⟨h0,_⟩ | ⟨_,_,r2⟩ | ⟨_,h0,_⟩ | ⟨_,h0,_⟩
  ·exact absurd hc h0
  ·exact⟨r2,b2⟩
  all_goals exact absurd hw h0
 ·refine⟨0,9,r1,.inl (by decide),b1,fun w2 w2' e2 h2=>?_⟩;obtain⟨b2,h2⟩:=h2
  rcases h2 with ⟨h0,_⟩ | ⟨_,h0,_⟩ | ⟨_,_,_,r2⟩ | ⟨_,_,h0,_⟩
  ·exact absurd hc h0
  ·exact absurd h0 hw
  ·exact⟨r2,b2⟩
  ·exact absurd hk h0
 ·refine⟨leV x S,0,r1,.inr (.inr ⟨rfl,hc,hw,hk,S,hl,hC,rfl⟩),b1,fun w2 w2' e2 h2=>?_⟩;obtain⟨b2,h2⟩:=h2
  rcases h2 with ⟨h0,_⟩ | ⟨_,h0,_⟩ | ⟨_,_,h0,_⟩ | ⟨_,_,_,S',hl',hC',r2⟩
  ·exact absurd hc h0
  ·exact absurd h0 hw
  ·exact absurd h0 hk
  ·rw[leV_same (hwo hc) hl hl' hC hC'];exact⟨r2,b2⟩
theorem law_lst (x:Farm) (w:World) (hx:RFarm.ok w x) :
  Calls Tryz.prog 5 #[.agg (RFarm.vals x).toArray] w fun e w'=>e = .returned (.bool true)∧Below w.heap.size w w':=by
 have hN:x.works.n=x.works.l.length:=hx.2.1.1.1.symm;simp only[RFarm];obtain⟨W1,hW1⟩:∃ Y,w.alloc (.cells #[.slice x.workers.A x.workers.n x.workers.cap,.slice x.works.A x.works.n x.works.cap,.slice x.lost.A x.lost.n x.lost.cap,.int .i64 x.tries,.bool x.doubles] 26)=Y:=⟨_,rfl⟩;obtain⟨xb,hxb⟩:∃ b,w.heap.size=b:=⟨_,rfl⟩;have hba:Below w.heap.size w W1:=by rw[← hW1];exact(Below.refl _ _).alloc (Nat.le_refl _) _
 have hx1:=RFarm.mono _ _ _ hba hx;have c0:W1.cell? ⟨xb,0,none⟩=some (.slice x.workers.A x.workers.n x.workers.cap):=by rw[← hW1,← hxb];exact cell_new _ _ _ 0
 have c1:W1.cell? ⟨xb,1,none⟩=some (.slice x.works.A x.works.n x.works.cap):=by rw[← hW1,← hxb];exact cell_new _ _ _ 1
 have c2:W1.cell? ⟨xb,2,none⟩=some (.slice x.lost.A x.lost.n x.lost.cap):=by rw[← hW1,← hxb];exact cell_new _ _ _ 2
 have c3:W1.cell? ⟨xb,3,none⟩=some (.int .i64 x.tries):=by rw[← hW1,← hxb];exact cell_new _ _ _ 3
 have c4:W1.cell? ⟨xb,4,none⟩=some (.bool x.doubles):=by rw[← hW1,← hxb];exact cell_new _ _ _ 4
 obtain⟨c,hF⟩:∃ c,farmF x=c:=⟨_,rfl⟩;have hn0:c=0→x.works.n≤1000:=fun h=>by
  have:=(farmOk_of (hF.trans h)).wo.len;omega
 obtain⟨Z,hZ⟩:∃ Z,(fun (e:Ending) (w':World)=>e = .returned (.bool true)∧Below w.heap.size w w')=Z:=⟨_,rfl⟩;rw[hZ];have RZ:∀ W,Below w.heap.size w W→Z (.returned (.bool true)) W:=fun W h=>by rw[← hZ];exact⟨rfl,h⟩
 have hne:(c != c)=false:=bne_self_eq_false c;have heq:(c==c)=true:=beq_self_eq_true c;obtain⟨hZH,RZH,hxH,hx1H,hW1H,hxbH,hbaH,hFH,hNH,hn0H⟩:=hq2 hZ (hqc RZ hx hx1 hW1 hxb hba hF hN (Lib.hid hn0));clear hZ RZ hx hx1 hW1 hxb hba hF hN hn0;go_enter Tryz.func5,Tryz.ntmps5;go_wp2_with fail;rw[hW1H.out,hxbH.out];refine(Least_any x _ hx1H.out c hFH.out).mono ?_;rintro e w1 hP;obtain⟨v,f,rfl,hk,hb1,hP2⟩:=both_le (fun h=>(farmOk_of (hFH.out.trans h)).wo) hP;clear hP;have c0:=keepC hb1 c0;have c1:=keepC hb1 c1;have c2:=keepC hb1 c2;have c3:=keepC hb1 c3;have c4:=keepC hb1 c4;have hx2:=RFarm.mono _ _ _ hb1 hx1H.out;have hbb2:=hbaH.out.trans (hb1.mono hbaH.out.size);obtain⟨hb1H,hx2H,hbb2H,hP2H⟩:=hq2 hb1 (hq2 hx2 (hq2 hbb2 (Lib.hid hP2)));clear hb1 hx2 hbb2 hP2;go_wp2_with fail;refine(rLeast_any x _ hx2H.out c hFH.out).mono ?_;rintro e w2 hP;obtain⟨rfl,hb2⟩:=hP2H.out _ _ _ hP;clear hP hP2H;have c0:=keepC hb2 c0;have c1:=keepC hb2 c1;have c2:=keepC hb2 c2;have c3:=keepC hb2 c3;have c4:=keepC hb2 c4;have hx3:=RFarm.mono _ _ _ hb2 hx2H.out;have hbb3:=hbb2H.out.trans (hb2.mono hbb2H.out.size);obtain⟨hb2H,hx3H,hbb3H,hkH⟩:=hq2 hb2 (hq2 hx3 (hq2 hbb3 (Lib.hid hk)));clear hb2 hx3 hbb3 hk;have hnf:(f != f)=false:=bne_self_eq_false f;have hnv:(v != v)=false:=bne_self_eq_false v;go_wp2_with fail;refine(awake_any _).mono ?_;rintro e w3 ⟨rfl,hb3⟩;have c0:=keepC hb3 c0;have c1:=keepC hb3 c1;have c2:=keepC hb3 c2
 have c3:=keepC hb3 c3;have c4:=keepC hb3 c4;have hx4:=RFarm.mono _ _ _ hb3 hx3H.out;have hbb4:=hbb3H.out.trans (hb3.mono hbb3H.out.size);obtain⟨hb3H,hx4H,hbb4H⟩:=hq2 hb3 (hq2 hx4 (Lib.hid hbb4));clear hb3 hx4 hbb4;have R:=RZH.out _ hbb4H.out;obtain⟨N,hNe⟩:∃ n,x.works.n=n:=⟨_,rfl⟩;rw[hNe]at c1
 rcases hkH.out with hf | ⟨rfl,hw0⟩ | ⟨rfl,rfl,hw,hkn,S,hSl,hC,rfl⟩
 ·have hf1:(f != 0)=true:=by simpa using hf
  clear hf;obtain⟨RH,hNeH⟩:=hq2 R (Lib.hid hNe);clear R hNe;go_wp2;exact RH.out
 ·have hz:((N:Int)==0)=true:=by
   have h1:=hNH.out;rw[hw0]at h1;rw[show N=0 by rw[← hNe];exact h1];rfl
  clear hw0;obtain⟨RH,hNeH⟩:=hq2 R (Lib.hid hNe);clear R hNe;go_wp2;exact RH.out
 ·have hz:((N:Int)==0)=false:=by
   rw[beq_eq_false_iff_ne];have h1:=hNH.out;have h2:=List.length_pos_iff.2 hw;omega
  rw[← hNe]at c1 hz;clear hNe;obtain⟨RH,hwH,hknH,hSlH,hCH⟩:=hqb R hw hkn hSl (Lib.hid hC);clear R hw hkn hSl hC;go_wp2_with fail;refine(Outcomes_any x _ hx4H.out 0 hFH.out).mono ?_;rintro e w4 hP
  rcases hP with ⟨h0,_⟩ | ⟨_,A1,cap1,p,q,rfl,s1,t1,d1,hb4⟩
  ·exact absurd rfl h0
  have c0:=keepC hb4 c0;have c1:=keepC hb4 c1;have c2:=keepC hb4 c2;have c3:=keepC hb4 c3;have c4:=keepC hb4 c4;have hx5:=RFarm.mono _ _ _ hb4 hx4H.out;have hbb5:=hbb4H.out.trans (hb4.mono hbb4H.out.size);obtain⟨hb4H,hx5H,hbb5H,s1H,t1H,d1H⟩:=hq2 hb4 (hqb hx5 hbb5 s1 t1 (Lib.hid d1));clear hb4 hx5 hbb5 s1 t1 d1;go_wp2_with fail;refine(Play_any x _ hx5H.out 0 hFH.out).mono ?_;rintro e w5 hP
  rcases hP with ⟨h0,_⟩ | ⟨_,A2,n2,cap2,q',L,rfl,s2,t2,d2,hb5⟩
  ·exact absurd rfl h0
  obtain rfl:=t1H.out.uniq t2;have s1:=s1H.out.below hb5;have hbb6:=hbb5H.out.trans (hb5.mono hbb5H.out.size);have hn2:n2≤4000:=by
   have h1:=d2.len;have h2:=s2.1;rw[List.length_map]at h2;omega
  have hn1:x.works.n≤1000:=by simpa using hn0H.out
  obtain⟨N1,hN1⟩:∃ n,x.works.n=n:=⟨_,rfl⟩;rw[hN1]at s1 hn1 ⊢;obtain⟨b,hb⟩:∃ b,((List.range N1).map (outOf x p)).all (fun o=>decide (o.state=1))=b:=⟨_,rfl⟩;have hall:=allDone_any A1 N1 cap1 _ w5 s1 (by omega) b hb;have hge:b=true→decide (lastF (L.map (toRun x)) ≥ leV x S)=true:=fun e=>by
   rw[e,List.all_eq_true]at hb;refine decide_eq_true (least_le d1H.out d2 hwH.out hknH.out hSlH.out hCH.out fun i hi=>?_);have h1:=hb (outOf x p i) (List.mem_map_of_mem (List.mem_range.2 (by have:=hNH.out;omega)));have h2:outS x p i=1:=of_decide_eq_true h1;rw[← d1H.out.sim.done i];exact outS_one.1 h2
  obtain⟨m,hm⟩:∃ m,lastF (L.map (toRun x))=m:=⟨_,rfl⟩;obtain⟨v,hv⟩:∃ v,leV x S=v:=⟨_,rfl⟩;have hlast:=fun W (h:Below w5.heap.size w5 W)=>last_any A2 n2 cap2 _ W (s2.below h) (by omega);rw[hm,hv]at hge;rw[hv];rw[hm]at hlast;clear c0 c1 c2 c3 c4 RH;obtain⟨hb5H,hbb6H,s1H,s2H,t2H,d2H,hN1H,hbH,hallH,hlastH,hmH,hvH⟩:=hq2 hb5 (hq2 hbb6 (hq2 s1 (hqc s2 t2 d2 hN1 hb hall hlast hm (Lib.hid hv))));clear hb5 hbb6 s1 s2 t2 d2 hN1 hb hall hlast hm hv
  cases b
  ·clear hge;go_wp2_with fail;refine hallH.out.mono ?_;rintro e w6 ⟨rfl,hb6⟩;have R:=RZH.out _ (hbb6H.out.trans (hb6.mono hbb6H.out.size));obtain⟨hb6H,RH⟩:=hq2 hb6 (Lib.hid R);clear hb6 R;go_wp2;exact RH.out
  ·have hge:=hge rfl;go_wp2_with fail;refine hallH.out.mono ?_;rintro e w6 ⟨rfl,hb6⟩;have hl6:=hlastH.out w6 hb6;have hbb7:=hbb6H.out.trans (hb6.mono hbb6H.out.size);obtain⟨hb6H,hl6H,hbb7H⟩:=hq2 hb6 (hq2 hl6 (Lib.hid hbb7));clear hb6 hl6 hbb7;go_wp2_with fail;refine hl6H.out.mono ?_;rintro e w7 ⟨rfl,hb7⟩;have R:=RZH.out _ (hbb7H.out.trans (hb7.mono hbb7H.out.size));obtain⟨hb7H,RH⟩:=hq2 hb7 (Lib.hid R);clear hb7 R;go_wp2;exact RH.out
end Go.Proofs.YtbnkoefljcekbaaGreatDoor.C9
namespace Go.Proofs.YtbnkoefljcekbaaGreatDoor.workersLeastMatchesSpec
open Go.Proofs.YtbnkoefljcekbaaGreatDoor.C9
open Go.ChangeShapes Go.WideShapes Go.ChangeAt Go.RowKit
open Go.ChangeMaps (open_string shut_string)
theorem own:ownKnob Tryz.prog.godebug=none:=by kernel_rfl
theorem laidOut:laidOutB Tryz.prog=true:=by kernel_rfl
theorem contract (H:Type) (enc:TypeId × Value→H) (W:World) (base:Nat) (args:Array Value) (ds gs:List (DataW H)) (before:List MemPlace)
  (hval0:∀ (j:Nat) t v,Tryz.f5.params[j]? = some t→args[j]? = some v→Value.okWide Tryz.prog W .any base t v)
  (hW:DataW.Whole enc Tryz.prog Tryz.f5.params.toList Rows.workersLeastMatchesSpecSpec.vars false W args.toList ds gs before) :
  Calls Tryz.prog 5 args W fun e W'=>∃ v,e = .returned v∧Rows.workersLeastMatchesSpecSpec.post enc Tryz.prog Tryz.f5 false true false false W args v W':=by
 have hval:=hval0;have hW':=hW;obtain⟨p,q,hA0,hV,rfl,hfz,hnd⟩:=hW;have hA:DataW.TrodAll enc Tryz.prog W 0 (fun _=>true) true Tryz.f5.params.toList args.toList ds p:=hA0;rw[Tryz.params5]at hA hval;obtain⟨v0,vs0,d0,ds0,p0,q0,hargs,rfl,rfl,h0,r0⟩:=trodAll_cons hA;obtain⟨rfl,rfl,rfl⟩:=trodAll_nil r0;obtain rfl:args = #[v0]:=by cases args;simp_all
 obtain⟨rfl,rfl⟩:=trodVars_none hV;have m0:=h0;have lt0:∀ x∈p0,x.block<W.heap.size:=by obtain⟨m,hm⟩:=m0;exact DataW.trod_lt m _ _ _ hm
 obtain⟨a0,rfl,k0,b0⟩:=param_struct Tryz.underlying26 opens_Farm (hval 0 26 v0 rfl rfl) h0;clear hA0 hval0;refine(law_lst a0 W k0).mono fun e W' ⟨he,bel⟩=>?_;subst he;exact⟨_,rfl,_,_,_,[],_,[],hW',trodAll_mk1 (shut_bool Tryz.underlying4 _),(trodAll_cons_mk (Below.trod laidOut (by kernel_rfl) (of_decide_eq_true (by kernel_rfl)) m0 bel lt0) trodAll_mk0),rfl,bel.frame _,fun h=>by cases h⟩
noncomputable def laidWorld (os:Os):World :=
 let put (h:Array Obj) (g:Nat) (cs:Array Value):Array Obj:=h.modify g fun
  | .cells _ t frozen=>.cells cs t frozen
  | o=>o
 { World.holding Tryz.prog os ⟨#[],#[],[]⟩ with heap:=put (put (World.holding Tryz.prog os ⟨#[],#[],[]⟩).heap 1 (Lib.firstTab.map fun z=>Value.int .u8 z).toArray) 2 ((List.range 16).flatMap fun i=>[Value.int .u8 (Lib.accLo i),Value.int .u8 (Lib.accHi i)]).toArray }
theorem laid_met (os:Os):laidMet Tryz.prog Rows.workersLeastMatchesSpecRow.laid ((laidWorld os).forCall (fun _ _=>0) ⟨#[],#[.agg #[.slice none 0 0,.slice none 0 0,.slice none 0 0,.int .i64 0,.bool false]],[]⟩).memory :=
 laidMet_of_run' 8 (by kernel_rfl) (by kernel_rfl)
theorem reads (os:Os) {H:Type} (enc:TypeId × Value→H):∃ places,DataW.whole enc Tryz.prog ((laidWorld os).forCall (fun _ _=>0) ⟨#[],#[.agg #[.slice none 0 0,.slice none 0 0,.slice none 0 0,.int .i64 0,.bool false]],[]⟩).memory Tryz.f5.params.toList Rows.workersLeastMatchesSpecSpec.vars false (#[.agg #[.slice none 0 0,.slice none 0 0,.slice none 0 0,.int .i64 0,.bool false]]:Array Value).toList 8=some ([.agg [.nil,.nil,.nil,.lit (.int .i64 0),.lit (.bool false)]],[],places) :=
 ⟨[],by kernel_rfl⟩
theorem lifted (os:Os) (started:os.Started) (H:Type) (enc:TypeId × Value→H) (F:Stop.Interp) :
  ReturnsInHanded {} Tryz.checked os 5 .any ((OpenSpec.ofChange Rows.workersLeastMatchesSpecSpec).preRow enc Tryz.prog Tryz.f5 Rows.workersLeastMatchesSpecRow.domain false Rows.workersLeastMatchesSpecRow.laid) (((OpenSpec.ofChange Rows.workersLeastMatchesSpecSpec).at F).post enc Tryz.prog Tryz.f5 false true false false):=by
 obtain⟨places,hx⟩:=reads os enc;refine returnsInHanded_of_row (C:=Tryz.checked) (s:=(OpenSpec.ofChange Rows.workersLeastMatchesSpecSpec)) own started (by kernel_rfl) Tryz.func5
  (witness_row_at (enc:=enc) (C:=Tryz.checked) false (laidWorld os) #[.agg #[.slice none 0 0,.slice none 0 0,.slice none 0 0,.int .i64 0,.bool false]] rfl (by kernel_rfl) (by kernel_rfl) (by kernel_rfl)
   (OpenSpec.preRow_of_cond 8 hx (by kernel_rfl) (fun k hk=>by cases hk) (by kernel_rfl) (laid_met os))) ?_
 intro W base args ds gs before hval hW _ hcond hsz hlaid hsh _;exact contract H enc W base args ds gs before hval hW
theorem said:Rows.WorkersLeastMatchesSpecSaid :=
 OpenClaim.holds_of_cond 5 Tryz.f5 rfl rfl rfl rfl rfl rfl rfl ⟨rfl,rfl,rfl,rfl,rfl⟩ rfl rfl rfl rfl rfl (by kernel_rfl) Tryz.func5 (by kernel_rfl)
  (of_decide_eq_true (by kernel_rfl)) (by unfold Func.isWrapper;first | (rw[if_pos (by decide +kernel)];kernel_rfl) | (rw[if_neg (by decide +kernel)];exact⟨rfl,rfl⟩))
  (fun os started H enc _ F=>by rw[OpenClaim.pre_eq_preRow];exact lifted os started H enc F)
theorem plain (f : FuncId) (fn : Func) (hf : Tryz.pinned.checked.prog.funcNamed "smithyard/smithyardlaw9.WorkersLeastMatchesSpec" = some f) (hfn : Tryz.pinned.checked.prog.funcs[f]? = some fn) :
  false = Tryz.pinned.checked.prog.looks []∧∀ (j:Nat) t,fn.params[j]? = some t→Tryz.pinned.checked.prog.wantsStandIn t=false:=by
 obtain rfl : f = 5 := Option.some.inj ((show Tryz.prog.funcNamed "smithyard/smithyardlaw9.WorkersLeastMatchesSpec" = some 5 by kernel_rfl).symm.trans hf) |>.symm;obtain rfl:fn = Tryz.f5:=(Option.some.inj (Tryz.func5.symm.trans hfn)).symm;refine⟨by kernel_rfl,fun j t ht=>?_⟩;rw[Tryz.params5]at ht;have hm:t = 26:=by have:=Array.mem_of_getElem? ht;simpa using this
 obtain rfl:=hm
 ·exact(show Tryz.prog.wantsStandIn 26 = false by kernel_rfl)
theorem card:Rows.WorkersLeastMatchesSpecCardSaid :=
 Claim7.holds_tied_plain_at .later [] _ _ _ _ said (fun _ h=>by cases h) (by kernel_rfl) (fun _ h=>by cases h) workersLeastMatchesSpec_row_tie rfl ⟨rfl,rfl⟩ (by kernel_rfl) rfl plain (by kernel_rfl)
end Go.Proofs.YtbnkoefljcekbaaGreatDoor.workersLeastMatchesSpec