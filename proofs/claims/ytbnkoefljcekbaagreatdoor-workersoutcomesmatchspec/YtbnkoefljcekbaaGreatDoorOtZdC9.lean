/-
 Several texts of mine as one, without what is not wanted here: XOutW, XNvR, XWtC.
-/
import Derived.Test.YtbnkoefljcekbaaGreatDoorOtZcC9
set_option linter.unusedVariables false
set_option linter.unusedSimpArgs false
set_option maxRecDepth 100000
set_option maxHeartbeats 8000000
namespace Go.Proofs.YtbnkoefljcekbaaGreatDoor.C9
open Go.ChangeShapes Go.WideShapes Go.Deep Go.RowKit Go.Maps
theorem elem_Out:Elem Tryz.prog 42 ROutcome.size 40:=elem_of (z:=.agg #[.string ByteArray.empty,.int .i64 0,.int .i64 0,.int .i64 0]) (by kernel_rfl) (by decide)
def OutRel (x:Farm) (p:PS) (N:Nat) (W3:World) (v i:Value) (wr:World):Prop :=
 ∃ (k:Nat) (A:Option Addr) (c:Nat),k≤N∧i = .int .i64 k∧v = .slice A k c∧Own ROutcome 42 wr W3.heap.size (.slice A k c) ((List.range k).map (outOf x p))∧Below W3.heap.size W3 wr
def OutAns (x:Farm) (c:Int) (w:World) (e:Ending) (w':World):Prop :=
 (c≠0∧e = .returned (.tuple #[.slice none 0 0,.int .i64 c])∧Below w.heap.size w w') ∨
 (c=0∧∃ (A:Option Addr) (cap:Nat) (p:PS) (q:QS),e = .returned (.tuple #[.slice A x.works.n cap,.int .i64 0])∧SlAt ROutcome w' A x.works.n ((List.range x.works.n).map (outOf x p))∧QTrace (fpx x) q0 q∧EndP (fpx x) p q∧Below w.heap.size w w')
theorem Outcomes_any (x:Farm) (w:World) (hx:RFarm.ok w x) (c:Int) (hF:farmF x=c) :
  Calls Tryz.prog 16 #[farmV x] w (OutAns x c w):=by
 unfold farmV;have hN:x.works.n=x.works.l.length:=hx.2.1.1.1.symm;obtain⟨W1,hW1⟩:∃ Y,w.alloc (.cells #[.slice x.workers.A x.workers.n x.workers.cap,.slice x.works.A x.works.n x.works.cap,.slice x.lost.A x.lost.n x.lost.cap,.int .i64 x.tries,.bool x.doubles] 26)=Y:=⟨_,rfl⟩;obtain⟨xb,hxb⟩:∃ b,w.heap.size=b:=⟨_,rfl⟩;have hba:Below w.heap.size w W1:=by rw[← hW1];exact(Below.refl _ _).alloc (Nat.le_refl _) _
 have hx1:=RFarm.mono _ _ _ hba hx;have c0:W1.cell? ⟨xb,0,none⟩=some (.slice x.workers.A x.workers.n x.workers.cap):=by rw[← hW1,← hxb];exact cell_new _ _ _ 0
 have c1:W1.cell? ⟨xb,1,none⟩=some (.slice x.works.A x.works.n x.works.cap):=by rw[← hW1,← hxb];exact cell_new _ _ _ 1
 have c2:W1.cell? ⟨xb,2,none⟩=some (.slice x.lost.A x.lost.n x.lost.cap):=by rw[← hW1,← hxb];exact cell_new _ _ _ 2
 have c3:W1.cell? ⟨xb,3,none⟩=some (.int .i64 x.tries):=by rw[← hW1,← hxb];exact cell_new _ _ _ 3
 have c4:W1.cell? ⟨xb,4,none⟩=some (.bool x.doubles):=by rw[← hW1,← hxb];exact cell_new _ _ _ 4
 obtain⟨Z,hZ⟩:∃ Z,OutAns x c w=Z:=⟨_,rfl⟩;rw[hZ];obtain⟨hZH,hxH,hx1H,hW1H,hxbH,hbaH,hFH,hNH⟩:=hq2 hZ (hq2 hx (hq2 hx1 (hqb hW1 hxb hba hF (Lib.hid hN))));clear hZ hx hx1 hW1 hxb hba hF hN;go_enter Tryz.func16,Tryz.ntmps16;go_wp2_with fail;rw[hW1H.out,hxbH.out];refine(farm_any x _ hx1H.out c hFH.out).mono ?_;rintro e w1 ⟨rfl,hb1⟩;have c0:=keepC hb1 c0;have c1:=keepC hb1 c1;have c2:=keepC hb1 c2;have c3:=keepC hb1 c3;have c4:=keepC hb1 c4;have hx2:=RFarm.mono _ _ _ hb1 hx1H.out;have hbb:=hbaH.out.trans (hb1.mono hbaH.out.size)
 by_cases h1:c=0
 ·subst h1;obtain⟨hb1H,hx2H,hbbH⟩:=hq2 hb1 (hq2 hx2 (Lib.hid hbb));clear hb1 hx2 hbb;go_wp2_with fail;have c1H:=Lib.hid c1;have c3H:=Lib.hid c3;refine(open_any x _ hx2H.out (farmOk_of hFH.out)).mono ?_;rintro e w2 ⟨X,rv,ov,rfl,hXx,hXF,hC,hA⟩;have hXN:X.N=x.works.l.length:=by unfold FX.N;rw[hXx];exact hNH.out
  have hfin:=farm_fine hFH.out hXF hXN hC;have hp:=play_any hA (fs_start hFH.out hx2H.out hXx hXF) hfin (ordX_of (by rw[hXx];exact hXF));clear c0 c1 c2 c3 c4 hA;obtain⟨hXxH,hXFH,hCH,hXNH,hfinH,hpH⟩:=hq2 hXx (hqb hXF hC hXN hfin (Lib.hid hp));clear hXx hXF hC hXN hfin hp;go_wp2_with fail;go_at_call 32;refine hpH.out.mono ?_;rintro e w3 ⟨rfl,rv2,ov2,p',L,hT,hL,hs,hA3⟩;have hbe:=hA3.core.bel;obtain⟨_,_,q,hq,hE,hD⟩:=farm_done hFH.out hXxH.out hXFH.out hXNH.out hCH.out hT;obtain⟨N,hNe⟩:∃ n,x.works.n=n:=⟨_,rfl⟩;have hNl:x.works.l.length=N:=by rw[← hNe];exact hNH.out.symm
  have hXN2:X.N=N:=by rw[hXNH.out,hNl]
  have c1:=keepC hbe c1H.out;have c3:=keepC hbe c3H.out;have hf:=hA3.core.blk;have b9:=(hf 9 _ rfl).1;have b10:=(hf 10 _ rfl).1;have b12:=(hf 12 _ rfl).1;have b13:=(hf 13 _ rfl).1;rw[hXN2]at b9 b10 b12 b13;have r9:BRow w3 X.db X.N p'.done:=hA3.core.done;have r10:IRow w3 X.lb X.N p'.lost:=hA3.core.lost;have r12:IRow w3 X.tb X.N p'.last:=hA3.core.last;have r13:IRow w3 X.gb X.N p'.begun:=hA3.core.begun;rw[hXN2]at r9 r10 r12 r13;rw[hNe]at c1;have hxs3:=hx2H.out.2.1.1.below hbe;rw[hNe]at hxs3;have hK:∀ W,Below w3.heap.size w3 W→(W.cell? ⟨xb,1,none⟩=some (.slice x.works.A N x.works.cap)∧W.cell? ⟨xb,3,none⟩=some (.int .i64 x.tries)) ∧
    (W.cell? ⟨X.f,9,none⟩=some (.slice (some ⟨X.db,0,none⟩) N N)∧W.cell? ⟨X.f,10,none⟩=some (.slice (some ⟨X.lb,0,none⟩) N N)∧W.cell? ⟨X.f,12,none⟩=some (.slice (some ⟨X.tb,0,none⟩) N N)∧W.cell? ⟨X.f,13,none⟩=some (.slice (some ⟨X.gb,0,none⟩) N N)) ∧
    ∀ k,k<N→W.cell? ⟨X.db,k,none⟩=some (.bool (p'.done k))∧W.cell? ⟨X.lb,k,none⟩=some (.int .i64 (p'.lost k))∧W.cell? ⟨X.tb,k,none⟩=some (.int .i64 (p'.last k))∧W.cell? ⟨X.gb,k,none⟩=some (.int .i64 (p'.begun k)) :=
   fun W h=>⟨⟨keepC h c1,keepC h c3⟩,⟨keepC h b9,keepC h b10,keepC h b12,keepC h b13⟩,fun k hk=>⟨keepC h (r9 k hk).1,keepC h (r10 k hk).1,keepC h (r12 k hk).1,keepC h (r13 k hk).1⟩⟩
  have hn9:∀ k,0≤p'.begun k∧p'.begun k≤11∧0≤p'.last k∧p'.last k≤1000000000:=fun k=>endP_nums hE hFH.out k;have RZ:∀ (A:Option Addr) (cp:Nat) (W:World),Own ROutcome 42 W w3.heap.size (.slice A N cp) ((List.range N).map (outOf x p'))→Below w3.heap.size w3 W→Z (.returned (.tuple #[.slice A N cp,.int .i64 0])) W:=by
   intro A cp W ho hb;rw[← hZH.out,← hNe];refine .inr ⟨rfl,A,cp,p',q,rfl,?_,hq,hE,?_⟩
   ·rw[hNe];exact ho.slAt
   ·have h23:=hbe;exact hbbH.out.trans ((h23.trans (hb.mono h23.size)).mono hbbH.out.size)
  have hst:OutRel x p' N w3 (.slice none 0 0) (.int .i64 0) w3:=⟨0,none,0,Nat.zero_le _,rfl,rfl,Own.nil _ _,Below.refl _ _⟩;have hN2:N≤200:=by have:=(farmOk_of hFH.out).wo.len;omega
  clear hf b9 b10 b12 b13 r9 r10 r12 r13 hA3 hT hL hs hD hE hpH c1H c3H hbe;obtain⟨xA,hxA⟩:∃ a,x.works.A=a:=⟨_,rfl⟩;obtain⟨xc,hxc⟩:∃ a,x.works.cap=a:=⟨_,rfl⟩;rw[hxA]at hxs3;rw[hxA,hxc]at c1 hK;have hxlt:=cell?_lt c1;obtain⟨hKH,hn9H,RZH,hstH,hxs3H,hqH,hxAH,hxcH,hNeH,hNlH,hXN2H⟩:=hq2 hK (hq2 hn9 (hqc RZ hst hxs3 hq hxA hxc hNe hNl (Lib.hid hXN2)));clear hK hn9 RZ hst hxs3 hq hxA hxc hNe hNl hXN2;go_wp2_with fail;clear c1 c3
  go_loopw [6,22] (fun v i wr=>OutRel x p' N w3 v i wr) (fun _ i _=>N-(intOf i).toNat)
  case atStart=>exact hstH.out
  case round =>
   clear hstH;obtain⟨k,A1,c1',hk,rfl,rfl,hown,hb⟩:=hrel;have hbs:=hb.size
   by_cases hlt:k<N
   ·obtain⟨⟨c1,c3⟩,⟨f9,f10,f12,f13⟩,hr⟩:=hKH.out wr hb;obtain⟨g9,g10,g12,g13⟩:=hr k hlt;clear hr;have hsl:=hxs3H.out.below hb;obtain⟨bx,ox,hA9,_⟩:=hsl.2.1 (by omega);subst hA9;obtain⟨z,hz⟩:∃ z,x.works.l[k]? = some z:=⟨x.works.l[k]'(by have:=hNlH.out;omega),List.getElem?_eq_getElem _⟩;obtain⟨e0,e1,e2,e3⟩:=cells_Work hsl hz;have hzo:=(hsl.2.2 z (List.mem_of_getElem? hz)).1;have hzw:=woOf_get hz;obtain⟨bg,hbg⟩:∃ v,p'.begun k=v:=⟨_,rfl⟩;obtain⟨dn,hdn⟩:∃ v,p'.done k=v:=⟨_,rfl⟩;obtain⟨la,hla⟩:∃ v,p'.last k=v:=⟨_,rfl⟩;obtain⟨lo,hlo⟩:∃ v,p'.lost k=v:=⟨_,rfl⟩;have hn:=hn9H.out k;rw[hbg]at g13 hn;rw[hdn]at g9;rw[hla]at g12 hn;rw[hlo]at g10;obtain⟨id,nd,sz,af⟩:=z;simp only at e0 e1 e2 e3 hzo;have hba:=hb.alloc hbs (.cells #[.string id,.slice nd.A nd.n nd.cap,.int .i64 sz,.slice af.A af.n af.cap] 86);have hbz:=(Below.refl wr.heap.size wr).alloc (Nat.le_refl _) (.cells #[.string id,.slice nd.A nd.n nd.cap,.int .i64 sz,.slice af.A af.n af.cap] 86);have hs5:∀ s t,s=outS x p' k→t=outT x p' k→outOf x p' k=⟨id,s,t,bg⟩:=fun s t hs ht=>by unfold outOf;rw[hzw,← hs,← ht,hbg]
    have hstt:(if dn=true then (1:Int) else if x.tries≤lo then 2 else 3)=outS x p' k∧(if dn=true then la else if x.tries≤lo then la else 0)=outT x p' k:=by
     unfold outS outT;rw[hdn,hlo,hla];exact⟨rfl,rfl⟩
    have R:∀ (s t:Int) (w8:World),s=outS x p' k→t=outT x p' k→∀ (A':Option Addr) (c':Nat) (w9:World),Own ROutcome 42 w9 w3.heap.size (.slice A' (k+1) c') ((List.range k).map (outOf x p') ++ [⟨id,s,t,bg⟩])→Below w3.heap.size w3 w9→OutRel x p' N w3 (.slice A' (k+1) c') (.int .i64 ((k:Int)+1)) w9:=by
     intro s t w8 hs ht A' c' w9 ho hb9;refine⟨k+1,A',c',hlt,by go_num,rfl,?_,hb9⟩;rw[List.range_succ,List.map_append,List.map_singleton,hs5 s t hs ht];exact ho
    obtain⟨W5,hW5⟩:∃ Y,wr.alloc (.cells #[.string id,.slice nd.A nd.n nd.cap,.int .i64 sz,.slice af.A af.n af.cap] 86)=Y:=⟨_,rfl⟩;obtain⟨zb,hzb⟩:∃ b,wr.heap.size=b:=⟨_,rfl⟩;have y0:W5.cell? ⟨zb,0,none⟩=some (.string id):=by rw[← hW5,← hzb];exact cell_new _ _ _ 0
    rw[hW5]at hba hbz;have hown5:=hown.below hbz;obtain⟨hzH,hbaH,hbzH,hown5H,hs5H,hsttH,RH,hW5H,hzbH,hnH,hzoH,hzwH,hbgH,hdnH,hlaH,hloH,hownH,hbH⟩:=hq2 hz (hqc hba hbz hown5 hs5 hstt R hW5 hzb (hqc hn hzo hzw hbg hdn hla hlo hown (Lib.hid hb)));clear hz hba hbz hown5 hs5 hstt R hW5 hzb hn hzo hzw hbg hdn hla hlo hown hb;go_wp2_with fail;rw[hW5H.out,hzbH.out];have c1:=keepC hbzH.out c1;have c3:=keepC hbzH.out c3;have f9:=keepC hbzH.out f9;have f10:=keepC hbzH.out f10;have f12:=keepC hbzH.out f12;have f13:=keepC hbzH.out f13;have g9:=keepC hbzH.out g9;have g10:=keepC hbzH.out g10;have g12:=keepC hbzH.out g12;have g13:=keepC hbzH.out g13;clear e0 e1 e2 e3;have l1:=cell?_lt f9;have l2:=cell?_lt g13;have l3:=cell?_lt y0;simp only at l1 l2 l3
    go_region
    obtain⟨W6,hW6⟩:∃ Y,(W5.alloc (.cells #[.string id,.int .i64 3,.int .i64 0,.int .i64 bg] 42)).drew=Y:=⟨_,rfl⟩;obtain⟨ob,hob⟩:∃ b,W5.heap.size=b:=⟨_,rfl⟩;have hb6:Below W5.heap.size W5 W6:=by rw[← hW6];exact((Below.refl _ _).alloc (Nat.le_refl _) _).drew
    have hB6:Blk W6 ob [.string id,.int .i64 3,.int .i64 0,.int .i64 bg]:=by
     rw[← hW6,← hob];exact(blk_new W5 [.string id,.int .i64 3,.int .i64 0,.int .i64 bg] 42).keep rfl
    have n1:=cell?_lt f9;have n2:=cell?_lt g12;have n3:=cell?_lt g10;have n4:=cell?_lt c3;simp only at n1 n2 n3 n4;rw[hob]at n1 n2 n3 n4;rw[hW6,hob];have c1:=keepC hb6 c1;have c3:=keepC hb6 c3;have f9:=keepC hb6 f9;have f10:=keepC hb6 f10;have f12:=keepC hb6 f12;have g9:=keepC hb6 g9;have g10:=keepC hb6 g10;have g12:=keepC hb6 g12;have o0:=(hB6 0 _ rfl).1;have o1:=(hB6 1 _ rfl).1;have o2:=(hB6 2 _ rfl).1;have o3:=(hB6 3 _ rfl).1;have z1:=(hB6 1 _ rfl).2;have z2:=(hB6 2 _ rfl).2;have l1:=cell?_lt f9;have l2:=cell?_lt o0;simp only at l1 l2;have hob5:W5.heap.size≤ob:=Nat.le_of_eq hob;have hb6s:=hb6.size
    cases dn
    ·by_cases hlt3:x.tries≤lo
     ·have hdec:decide (lo ≥ x.tries)=true:=decide_eq_true hlt3;have hs9:(2:Int)=outS x p' k:=by rw[← hsttH.out.1,if_neg (by decide),if_pos hlt3]
      have ht9:la=outT x p' k:=by rw[← hsttH.out.2,if_neg (by decide),if_pos hlt3]
      obtain⟨hW6H,hobH,hb6H,hB6H,hob5H,hs9H,ht9H⟩:=hq2 hW6 (hq2 hob (hqb hb6 hB6 hob5 hs9 (Lib.hid ht9)));clear hW6 hob hb6 hB6 hob5 hs9 ht9;go_wp2_with fail
      go_quiet (fail)
      obtain⟨W8,hW8⟩:∃ Y,W6.drewN nq=Y:=⟨_,rfl⟩;have hb68:Below W6.heap.size W6 W8:=by rw[← hW8];exact bel_drewN (Below.refl _ _) nq
      have hB8:Blk W8 ob [.string id,.int .i64 3,.int .i64 0,.int .i64 bg]:=hB6H.out.keep (hb68.block ob (cell?_lt o0));have hb8:Below W5.heap.size W5 W8:=hb6H.out.trans (hb68.mono hb6H.out.size);have c1:=keepC hb68 c1;have c3:=keepC hb68 c3;have f9:=keepC hb68 f9;have f10:=keepC hb68 f10;have f12:=keepC hb68 f12;have g9:=keepC hb68 g9;have g10:=keepC hb68 g10;have g12:=keepC hb68 g12;have o0:=(hB8 0 _ rfl).1;have o1:=(hB8 1 _ rfl).1;have o2:=(hB8 2 _ rfl).1;have o3:=(hB8 3 _ rfl).1;have z1:=(hB8 1 _ rfl).2;have z2:=(hB8 2 _ rfl).2;have l1:=cell?_lt f9;have l2:=cell?_lt o0;simp only at l1 l2;rw[hW8];obtain⟨hB8H,hb8H,hb68H,hW8H⟩:=hq2 hB8 (hq2 hb8 (hq2 hb68 (Lib.hid hW8)));clear hB8 hb8 hb68 hW8;go_wp2_with fail
      go_region
      obtain⟨W7,hW7⟩:∃ Y,((W8.setCell ⟨ob,1,none⟩ (.int .i64 2)).setCell ⟨ob,2,none⟩ (.int .i64 la)).drew=Y:=⟨_,rfl⟩;have hB7:Blk W7 ob [.string id,.int .i64 2,.int .i64 la,.int .i64 bg]:=by
       rw[← hW7];exact(((hB8H.out.set (k:=1) (by simp) (.int .i64 2)).set (k:=2) (by simp) (.int .i64 la))).keep rfl
      have hb7:Below W5.heap.size W5 W7:=by
       rw[← hW7];exact((hb8H.out.setCell (p:=⟨ob,1,none⟩) hob5H.out _).setCell (p:=⟨ob,2,none⟩) hob5H.out _).drew
      rw[hW7];have hs9:=hs9H.out;have ht9:=ht9H.out;clear hW7;have q0:=(hB7 0 _ rfl).1;have q1:=(hB7 1 _ rfl).1;have q2:=(hB7 2 _ rfl).1;have q3:=(hB7 3 _ rfl).1;have hown7:=hown5H.out.below hb7;have hb73:=hbaH.out.trans (hb7.mono hbaH.out.size);have hsz7:=hb73.size;have hnw:=slAt_new (R:=ROutcome) W7 42 (⟨id,2,la,bg⟩:Outcome) ⟨hzoH.out,by show I64 2;unfold I64;omega,by show I64 la;unfold I64;have:=hnH.out;omega,by show I64 bg;unfold I64;have:=hnH.out;omega⟩;have RR:=RH.out 2 la W7 hs9 ht9;clear hB7 c1 c3 f9 f10 f12 f13 g9 g10 g12 g13 o0 o1 o2 o3 z1 z2 y0;obtain⟨hown7H,hb73H,hsz7H,hnwH,RRH,hb7H,hs9H,ht9H⟩:=hq2 hown7 (hq2 hb73 (hq2 hsz7 (hqb hnw RR hb7 hs9 (Lib.hid ht9))));clear hown7 hb73 hsz7 hnw RR hb7 hs9 ht9;go_wp2_with (at_builtin;go_loud (refine wpList_app rfl (.tmp 74) (.tmp 76) 37 rfl Tryz.underlying37 elem_Out (by decide) rfl (hown7H.out.alloc _) (some ⟨W7.heap.size,0,none⟩) 1 1 [(⟨id,2,la,bg⟩:Outcome)] rfl hnwH.out ?nn ?ok ?c1 ?c2 ?c3 (k+1) ?c4 ?_))
      case nn=>intro h;cases h
      case ok=>exact fun _ _ _ _ h=>h
      case c1=>simp[maxLen];omega
      case c2=>simp;omega
      case c3=>have:=hsz7H.out;simp;omega
      case c4=>simp
      intro A' c' w9 hown9 hg9 hat9 hb9;have R9:=RRH.out A' c' w9 hown9 ((hb73H.out.alloc hsz7H.out _).trans hb9);clear hg9 hat9 hb9 hown9;have R9H:=Lib.hid R9;clear R9;go_wp2;refine⟨?rel,?measure⟩
      case measure=>(simp[intOf];omega)
      case rel=>first | exact R9H.out | exact⟨rfl,R9H.out⟩
     ·have hdec:decide (lo ≥ x.tries)=false:=decide_eq_false hlt3;have hs9:(3:Int)=outS x p' k:=by rw[← hsttH.out.1,if_neg (by decide),if_neg hlt3]
      have ht9:(0:Int)=outT x p' k:=by rw[← hsttH.out.2,if_neg (by decide),if_neg hlt3]
      obtain⟨hW6H,hobH,hb6H,hB6H,hob5H,hs9H,ht9H⟩:=hq2 hW6 (hq2 hob (hqb hb6 hB6 hob5 hs9 (Lib.hid ht9)));clear hW6 hob hb6 hB6 hob5 hs9 ht9;go_wp2_with fail
      go_quiet (fail)
      obtain⟨W8,hW8⟩:∃ Y,W6.drewN nq=Y:=⟨_,rfl⟩;have hb68:Below W6.heap.size W6 W8:=by rw[← hW8];exact bel_drewN (Below.refl _ _) nq
      have hB8:Blk W8 ob [.string id,.int .i64 3,.int .i64 0,.int .i64 bg]:=hB6H.out.keep (hb68.block ob (cell?_lt o0));have hb8:Below W5.heap.size W5 W8:=hb6H.out.trans (hb68.mono hb6H.out.size);have c1:=keepC hb68 c1;have c3:=keepC hb68 c3;have f9:=keepC hb68 f9;have f10:=keepC hb68 f10;have f12:=keepC hb68 f12;have g9:=keepC hb68 g9;have g10:=keepC hb68 g10;have g12:=keepC hb68 g12;have o0:=(hB8 0 _ rfl).1;have o1:=(hB8 1 _ rfl).1;have o2:=(hB8 2 _ rfl).1;have o3:=(hB8 3 _ rfl).1;have z1:=(hB8 1 _ rfl).2;have z2:=(hB8 2 _ rfl).2;have l1:=cell?_lt f9;have l2:=cell?_lt o0;simp only at l1 l2;rw[hW8];obtain⟨hB8H,hb8H,hb68H,hW8H⟩:=hq2 hB8 (hq2 hb8 (hq2 hb68 (Lib.hid hW8)));clear hB8 hb8 hb68 hW8;have hB7:Blk W8 ob [.string id,.int .i64 3,.int .i64 0,.int .i64 bg]:=hB8H.out;obtain⟨W7,hW7⟩:∃ Y,W8=Y:=⟨_,rfl⟩;have hb7:=hb8H.out;clear hb8H hB8H;subst hW7;have hs9:=hs9H.out;have ht9:=ht9H.out;have q0:=(hB7 0 _ rfl).1;have q1:=(hB7 1 _ rfl).1;have q2:=(hB7 2 _ rfl).1;have q3:=(hB7 3 _ rfl).1;have hown7:=hown5H.out.below hb7;have hb73:=hbaH.out.trans (hb7.mono hbaH.out.size);have hsz7:=hb73.size;have hnw:=slAt_new (R:=ROutcome) W8 42 (⟨id,3,0,bg⟩:Outcome) ⟨hzoH.out,by show I64 3;unfold I64;omega,by show I64 0;unfold I64;have:=hnH.out;omega,by show I64 bg;unfold I64;have:=hnH.out;omega⟩;have RR:=RH.out 3 0 W8 hs9 ht9;clear hB7 c1 c3 f9 f10 f12 f13 g9 g10 g12 g13 o0 o1 o2 o3 z1 z2 y0;obtain⟨hown7H,hb73H,hsz7H,hnwH,RRH,hb7H,hs9H,ht9H⟩:=hq2 hown7 (hq2 hb73 (hq2 hsz7 (hqb hnw RR hb7 hs9 (Lib.hid ht9))));clear hown7 hb73 hsz7 hnw RR hb7 hs9 ht9
      go_wp2_with (at_builtin;go_loud (refine wpList_app rfl (.tmp 74) (.tmp 76) 37 rfl Tryz.underlying37 elem_Out (by decide) rfl (hown7H.out.alloc _) (some ⟨W8.heap.size,0,none⟩) 1 1 [(⟨id,3,0,bg⟩:Outcome)] rfl hnwH.out ?nn ?ok ?c1 ?c2 ?c3 (k+1) ?c4 ?_))
      case nn=>intro h;cases h
      case ok=>exact fun _ _ _ _ h=>h
      case c1=>simp[maxLen];omega
      case c2=>simp;omega
      case c3=>have:=hsz7H.out;simp;omega
      case c4=>simp
      intro A' c' w9 hown9 hg9 hat9 hb9;have R9:=RRH.out A' c' w9 hown9 ((hb73H.out.alloc hsz7H.out _).trans hb9);clear hg9 hat9 hb9 hown9;have R9H:=Lib.hid R9;clear R9;go_wp2;refine⟨?rel,?measure⟩
      case measure=>(simp[intOf];omega)
      case rel=>first | exact R9H.out | exact⟨rfl,R9H.out⟩
    ·have hs9:(1:Int)=outS x p' k:=by rw[← hsttH.out.1,if_pos rfl]
     have ht9:la=outT x p' k:=by rw[← hsttH.out.2,if_pos rfl]
     obtain⟨hW6H,hobH,hb6H,hB6H,hob5H,hs9H,ht9H⟩:=hq2 hW6 (hq2 hob (hqb hb6 hB6 hob5 hs9 (Lib.hid ht9)));clear hW6 hob hb6 hB6 hob5 hs9 ht9;go_wp2_with fail
     go_region
     obtain⟨W7,hW7⟩:∃ Y,((W6.setCell ⟨ob,1,none⟩ (.int .i64 1)).setCell ⟨ob,2,none⟩ (.int .i64 la)).drew=Y:=⟨_,rfl⟩;have hB7:Blk W7 ob [.string id,.int .i64 1,.int .i64 la,.int .i64 bg]:=by
      rw[← hW7];exact(((hB6H.out.set (k:=1) (by simp) (.int .i64 1)).set (k:=2) (by simp) (.int .i64 la))).keep rfl
     have hb7:Below W5.heap.size W5 W7:=by
      rw[← hW7];exact((hb6H.out.setCell (p:=⟨ob,1,none⟩) hob5H.out _).setCell (p:=⟨ob,2,none⟩) hob5H.out _).drew
     rw[hW7];have hs9:=hs9H.out;have ht9:=ht9H.out;clear hW7;have q0:=(hB7 0 _ rfl).1;have q1:=(hB7 1 _ rfl).1;have q2:=(hB7 2 _ rfl).1;have q3:=(hB7 3 _ rfl).1;have hown7:=hown5H.out.below hb7;have hb73:=hbaH.out.trans (hb7.mono hbaH.out.size);have hsz7:=hb73.size;have hnw:=slAt_new (R:=ROutcome) W7 42 (⟨id,1,la,bg⟩:Outcome) ⟨hzoH.out,by show I64 1;unfold I64;omega,by show I64 la;unfold I64;have:=hnH.out;omega,by show I64 bg;unfold I64;have:=hnH.out;omega⟩;have RR:=RH.out 1 la W7 hs9 ht9;clear hB7 c1 c3 f9 f10 f12 f13 g9 g10 g12 g13 o0 o1 o2 o3 z1 z2 y0;obtain⟨hown7H,hb73H,hsz7H,hnwH,RRH,hb7H,hs9H,ht9H⟩:=hq2 hown7 (hq2 hb73 (hq2 hsz7 (hqb hnw RR hb7 hs9 (Lib.hid ht9))));clear hown7 hb73 hsz7 hnw RR hb7 hs9 ht9;go_wp2_with (at_builtin;go_loud (refine wpList_app rfl (.tmp 74) (.tmp 76) 37 rfl Tryz.underlying37 elem_Out (by decide) rfl (hown7H.out.alloc _) (some ⟨W7.heap.size,0,none⟩) 1 1 [(⟨id,1,la,bg⟩:Outcome)] rfl hnwH.out ?nn ?ok ?c1 ?c2 ?c3 (k+1) ?c4 ?_))
     case nn=>intro h;cases h
     case ok=>exact fun _ _ _ _ h=>h
     case c1=>simp[maxLen];omega
     case c2=>simp;omega
     case c3=>have:=hsz7H.out;simp;omega
     case c4=>simp
     intro A' c' w9 hown9 hg9 hat9 hb9;have R9:=RRH.out A' c' w9 hown9 ((hb73H.out.alloc hsz7H.out _).trans hb9);clear hg9 hat9 hb9 hown9;have R9H:=Lib.hid R9;clear R9;go_wp2;refine⟨?rel,?measure⟩
     case measure=>(simp[intOf];omega)
     case rel=>first | exact R9H.out | exact⟨rfl,R9H.out⟩
   ·obtain rfl:k=N:=by omega
    have R:=RZH.out A1 c1' wr hown hb;obtain⟨RH,hownH,hbH⟩:=hq2 R (hq2 hown (Lib.hid hb));clear R hown hb;go_wp2;exact RH.out
 ·have R:Z (.returned (.tuple #[.slice none 0 0,.int .i64 c])) w1:=by
   rw[← hZH.out];exact .inl ⟨h1,rfl,hbb⟩
  have h1':(c != 0)=true:=by simpa using h1
  clear h1;obtain⟨RH,hb1H,hx2H,hbbH⟩:=hq2 R (hq2 hb1 (hq2 hx2 (Lib.hid hbb)));clear R hb1 hx2 hbb;go_wp2;exact RH.out
def NvAns (x:Farm) (c:Int) (w:World) (e:Ending) (w':World):Prop :=
 (c≠0∧e = .returned (.tuple #[.slice none 0 0,.int .i64 c])∧Below w.heap.size w w') ∨
 (c=0∧∃ (A:Option Addr) (n cap:Nat),e = .returned (.tuple #[.slice A n cap,.int .i64 0])∧SlAt RStr w' A n (nvF x.workers.l x.works.l)∧n≤1000∧Below w.heap.size w w')
def NvRel (x:Farm) (N:Nat) (W3:World) (v i:Value) (wr:World):Prop :=
 ∃ (k n c:Nat) (A:Option Addr),k≤N∧i = .int .i64 k∧v = .slice A n c∧Own RStr 9 wr W3.heap.size (.slice A n c) (nvF x.workers.l (x.works.l.take k))∧Below W3.heap.size W3 wr
def NvIn (x:Farm) (nd:List Pair) (M:Nat) (W5:World) (v i:Value) (wr:World):Prop :=
 ∃ j:Nat,j≤M∧i = .int .i64 j∧v = .bool ((x.workers.l.take j).any fun y=>fitF nd y.has.l)∧Below W5.heap.size W5 wr
theorem rNever_any (x:Farm) (w:World) (hx:RFarm.ok w x) (c:Int) (hF:farmF x=c) :
  Calls Tryz.prog 20 #[farmV x] w (NvAns x c w):=by
 unfold farmV;have hN:x.works.n=x.works.l.length:=hx.2.1.1.1.symm;obtain⟨W1,hW1⟩:∃ Y,w.alloc (.cells #[.slice x.workers.A x.workers.n x.workers.cap,.slice x.works.A x.works.n x.works.cap,.slice x.lost.A x.lost.n x.lost.cap,.int .i64 x.tries,.bool x.doubles] 26)=Y:=⟨_,rfl⟩;obtain⟨xb,hxb⟩:∃ b,w.heap.size=b:=⟨_,rfl⟩;have hba:Below w.heap.size w W1:=by rw[← hW1];exact(Below.refl _ _).alloc (Nat.le_refl _) _
 have hx1:=RFarm.mono _ _ _ hba hx;have c0:W1.cell? ⟨xb,0,none⟩=some (.slice x.workers.A x.workers.n x.workers.cap):=by rw[← hW1,← hxb];exact cell_new _ _ _ 0
 have c1:W1.cell? ⟨xb,1,none⟩=some (.slice x.works.A x.works.n x.works.cap):=by rw[← hW1,← hxb];exact cell_new _ _ _ 1
 have c2:W1.cell? ⟨xb,2,none⟩=some (.slice x.lost.A x.lost.n x.lost.cap):=by rw[← hW1,← hxb];exact cell_new _ _ _ 2
 have c3:W1.cell? ⟨xb,3,none⟩=some (.int .i64 x.tries):=by rw[← hW1,← hxb];exact cell_new _ _ _ 3
 have c4:W1.cell? ⟨xb,4,none⟩=some (.bool x.doubles):=by rw[← hW1,← hxb];exact cell_new _ _ _ 4
 obtain⟨Z,hZ⟩:∃ Z,NvAns x c w=Z:=⟨_,rfl⟩;rw[hZ];obtain⟨hZH,hxH,hx1H,hW1H,hxbH,hbaH,hFH,hNH⟩:=hq2 hZ (hq2 hx (hq2 hx1 (hqb hW1 hxb hba hF (Lib.hid hN))));clear hZ hx hx1 hW1 hxb hba hF hN;go_enter Tryz.func20,Tryz.ntmps20;go_wp2_with fail;rw[hW1H.out,hxbH.out];refine(rfarm_any x _ hx1H.out c hFH.out).mono ?_;rintro e w1 ⟨rfl,hb1⟩;have c0:=keepC hb1 c0;have c1:=keepC hb1 c1;have c2:=keepC hb1 c2;have c3:=keepC hb1 c3;have c4:=keepC hb1 c4;have hx2:=RFarm.mono _ _ _ hb1 hx1H.out;have hbb:=hbaH.out.trans (hb1.mono hbaH.out.size)
 by_cases h1:c=0
 ·subst h1;have hok:=farmOk_of hFH.out;obtain⟨N,hNe⟩:∃ n,x.works.n=n:=⟨_,rfl⟩;have hNl:x.works.l.length=N:=by rw[← hNe];exact hNH.out.symm
  have hN2:N≤200:=by have:=hok.wo.len;omega
  obtain⟨M,hMe⟩:∃ n,x.workers.n=n:=⟨_,rfl⟩;have hMl:x.workers.l.length=M:=by rw[← hMe];exact hx2.1.1.1
  have hM2:M≤50:=by have:=hok.wkn;omega
  have hxs:=hx2.2.1.1;have hws:=hx2.1.1;rw[hNe]at c1 hxs;rw[hMe]at c0 hws;obtain⟨xA,hxA⟩:∃ a,x.works.A=a:=⟨_,rfl⟩;obtain⟨xc,hxc⟩:∃ a,x.works.cap=a:=⟨_,rfl⟩;obtain⟨wA,hwA⟩:∃ a,x.workers.A=a:=⟨_,rfl⟩;obtain⟨wc,hwc⟩:∃ a,x.workers.cap=a:=⟨_,rfl⟩;rw[hxA]at c1 hxs;rw[hxc]at c1;rw[hwA]at c0 hws;rw[hwc]at c0;have hK:∀ W,Below w1.heap.size w1 W→W.cell? ⟨xb,0,none⟩=some (.slice wA M wc)∧W.cell? ⟨xb,1,none⟩=some (.slice xA N xc):=fun W h=>⟨keepC h c0,keepC h c1⟩;have RZ:∀ (A:Option Addr) (n cp:Nat) (W:World),Own RStr 9 W w1.heap.size (.slice A n cp) (nvF x.workers.l x.works.l)→Below w1.heap.size w1 W→Z (.returned (.tuple #[.slice A n cp,.int .i64 0])) W:=by
   intro A n cp W ho hb;rw[← hZH.out];refine .inr ⟨rfl,A,n,cp,rfl,ho.slAt,?_,hbb.trans (hb.mono hbb.size)⟩;have h1:_=n:=ho.len;have h2:=nv_len x.workers.l x.works.l;omega
  have hst:NvRel x N w1 (.slice none 0 0) (.int .i64 0) w1:=⟨0,0,0,none,Nat.zero_le _,rfl,rfl,(by rw[List.take_zero];exact Own.nil _ _),Below.refl _ _⟩;clear c2 c3 c4;obtain⟨hb1H,hx2H,hbbH,hokH,hxsH,hwsH,hxAH,hxcH,hwAH,hwcH,hNeH,hMeH,hNlH,hMlH,hKH,RZH,hstH⟩:=hqc hb1 hx2 hbb hok hxs hws hxA hxc (hqc hwA hwc hNe hMe hNl hMl hK RZ (Lib.hid hst));clear hb1 hx2 hbb hok hxs hws hxA hxc hwA hwc hNe hMe hNl hMl hK RZ hst;go_wp2_with fail;clear c0 c1
  go_loopw [5,19] (fun v i wr=>NvRel x N w1 v i wr) (fun _ i _=>N-(intOf i).toNat)
  case atStart=>exact hstH.out
  case round =>
   clear hstH;obtain⟨k,n,c1',A1,hk,rfl,rfl,hown,hb⟩:=hrel;have hbs:=hb.size;have hnl:(nvF x.workers.l (x.works.l.take k)).length=n:=hown.len;have hn3:n≤200:=by
    have h1:=nv_len x.workers.l (x.works.l.take k);rw[List.length_take]at h1;omega
   by_cases hlt:k<N
   ·obtain⟨c0,c1⟩:=hKH.out wr hb;have hslx:=hxsH.out.below hb;obtain⟨bx,ox,hA9,_⟩:=hslx.2.1 (by omega);rw[hA9]at hslx;obtain⟨z,hz⟩:∃ z,x.works.l[k]? = some z:=⟨x.works.l[k]'(by have:=hNlH.out;omega),List.getElem?_eq_getElem _⟩;obtain⟨e0,e1,e2,e3⟩:=cells_Work hslx hz;have hzok:=hslx.2.2 z (List.mem_of_getElem? hz);have htk:=nv_take (ws:=x.workers.l) hz;obtain⟨id,nd,sz,af⟩:=z;simp only at e0 e1 e2 e3 htk;rw[hA9];obtain⟨W5,hW5⟩:∃ Y,wr.alloc (.cells #[.string id,.slice nd.A nd.n nd.cap,.int .i64 sz,.slice af.A af.n af.cap] 86)=Y:=⟨_,rfl⟩;obtain⟨zb,hzb⟩:∃ b,wr.heap.size=b:=⟨_,rfl⟩;have hbr5:Below wr.heap.size wr W5:=by rw[← hW5];exact(Below.refl _ _).alloc (Nat.le_refl _) _
    have hb5:=hb.trans (hbr5.mono hbs);have y0:W5.cell? ⟨zb,0,none⟩=some (.string id):=by rw[← hW5,← hzb];exact cell_new _ _ _ 0
    have y1:W5.cell? ⟨zb,1,none⟩=some (.slice nd.A nd.n nd.cap):=by rw[← hW5,← hzb];exact cell_new _ _ _ 1
    have y2:W5.cell? ⟨zb,2,none⟩=some (.int .i64 sz):=by rw[← hW5,← hzb];exact cell_new _ _ _ 2
    have y3:W5.cell? ⟨zb,3,none⟩=some (.slice af.A af.n af.cap):=by rw[← hW5,← hzb];exact cell_new _ _ _ 3
    have a0:(wr.alloc (.cells #[.string id,.slice nd.A nd.n nd.cap,.int .i64 sz,.slice af.A af.n af.cap] 86)).cell? ⟨xb,0,none⟩=some (.slice wA M wc):=by rw[hW5];exact keepC hbr5 c0
    have hzok5:=RWork.mono _ _ _ hbr5 hzok;have hown5:=hown.below hbr5;have TL:∀ (W:World) (bb:Bool),(x.workers.l.any fun y=>fitF nd.l y.has.l)=bb→Below W5.heap.size W5 W →
      (bb=true→NvRel x N w1 (.slice A1 n c1') (.int .i64 ((k:Int)+1)) W) ∧
      (bb=false→W.cell? ⟨zb,0,none⟩=some (.string id)∧Own RStr 9 (W.alloc (.cells #[.string id] 9)) w1.heap.size (.slice A1 n c1') (nvF x.workers.l (x.works.l.take k))∧Below w1.heap.size w1 (W.alloc (.cells #[.string id] 9))∧SlAt RStr (W.alloc (.cells #[.string id] 9)) (some ⟨W.heap.size,0,none⟩) 1 [id] ∧
       ∀ (A':Option Addr) (c':Nat) (w8:World),Own RStr 9 w8 w1.heap.size (.slice A' (n+1) c') (nvF x.workers.l (x.works.l.take k) ++ [id])→Below w1.heap.size w1 w8→NvRel x N w1 (.slice A' (n+1) c') (.int .i64 ((k:Int)+1)) w8):=by
     intro W bb hbb2 hW;rw[hbb2]at htk;have hb3:=hb5.trans (hW.mono hb5.size);refine⟨fun e=>?_,fun e=>⟨keepC hW y0,(hown5.below hW).alloc _,hb3.alloc hb3.size _,slAt_new (R:=RStr) W 9 id hzok.1,fun A' c' w8 ho h8=>?_⟩⟩
     ·subst e;refine⟨k+1,n,c1',A1,hlt,by go_num,rfl,?_,hb3⟩;rw[htk,if_pos rfl,List.append_nil];exact hown5.below hW
     ·subst e;refine⟨k+1,n+1,c',A',hlt,by go_num,rfl,?_,h8⟩;rw[htk,if_neg (by decide)];exact ho
    obtain⟨L9,hL9⟩:∃ q,nvF x.workers.l (x.works.l.take k)=q:=⟨_,rfl⟩;have hlen9:L9.length=n:=by rw[← hL9];exact hnl
    rw[hL9]at TL;have hws5:=hwsH.out.below hb5;have hst2:NvIn x nd.l M W5 (.bool false) (.int .i64 0) W5:=⟨0,Nat.zero_le _,rfl,(by rw[List.take_zero];rfl),Below.refl _ _⟩;clear hnl htk;obtain⟨hzH,hownH,hbH,hzokH,hW5H,hzbH,hbr5H,hb5H,hzok5H,hown5H,TLH,hlen9H,hL9H,hws5H,hslxH,hA9H,hst2H,y0H,y1H,y2H,y3H⟩:=hqb hz hown hb hzok (hqc hW5 hzb hbr5 hb5 hzok5 hown5 TL hlen9 (hqc hL9 hws5 hslx hA9 hst2 y0 y1 y2 (Lib.hid y3)));clear hz hown hb hzok hW5 hzb hbr5 hb5 hzok5 hown5 TL hlen9 hL9 hws5 hslx hA9 hst2 y0 y1 y2 y3;go_wp2_with fail;simp only[hW5H.out,hzbH.out];clear e0 e1 e2 e3 a0 c0 c1
    go_loopw [8,26] (fun v i wq=>NvIn x nd.l M W5 v i wq) (fun _ i _=>M-(intOf i).toNat)
    case atStart=>exact hst2H.out
    case round =>
     clear hst2H;obtain⟨j,hj,rfl,rfl,hbq⟩:=hrel
     by_cases hjl:j<M
     ·have hslw:=hws5H.out.below hbq;obtain⟨bw,ow,hAw,_⟩:=hslw.2.1 (by omega);rw[hAw]at hslw ⊢;obtain⟨y,hy⟩:∃ y,x.workers.l[j]? = some y:=⟨x.workers.l[j]'(by have:=hMlH.out;omega),List.getElem?_eq_getElem _⟩;obtain⟨d0,d1,d2,d3,d4,d5,d6⟩:=cells_Worker hslw hy;have hyok:=hslw.2.2 y (List.mem_of_getElem? hy);have htj:(x.workers.l.take (j+1)).any (fun y=>fitF nd.l y.has.l)=((x.workers.l.take j).any (fun y=>fitF nd.l y.has.l)||fitF nd.l y.has.l):=by
       rw[List.take_add_one,hy,Option.toList_some,List.any_append];simp
      obtain⟨p,hp⟩:∃ v,(x.workers.l.take j).any (fun y=>fitF nd.l y.has.l)=v:=⟨_,rfl⟩;obtain⟨f,hf⟩:∃ v,fitF nd.l y.has.l=v:=⟨_,rfl⟩;rw[hp,hf]at htj;rw[hp];obtain⟨yn,yh,ysl,ysp,yfr,yto,yst⟩:=y;simp only at d0 d1 d2 d3 d4 d5 d6 hf;obtain⟨W7,hW7⟩:∃ Y,wr.alloc (.cells #[.string yn,.slice yh.A yh.n yh.cap,.int .i64 ysl,.int .i64 ysp,.int .i64 yfr,.int .i64 yto,.slice yst.A yst.n yst.cap] 84)=Y:=⟨_,rfl⟩;have hb67:Below wr.heap.size wr W7:=by rw[← hW7];exact(Below.refl _ _).alloc (Nat.le_refl _) _
      have hb57:=hbq.trans (hb67.mono hbq.size);have Rn:∀ W,Below W5.heap.size W5 W→NvIn x nd.l M W5 (.bool (p||f)) (.int .i64 ((j:Int)+1)) W:=fun W h=>⟨j+1,hjl,by go_num,by rw[htj],h⟩;have g0:(wr.alloc (.cells #[.string yn,.slice yh.A yh.n yh.cap,.int .i64 ysl,.int .i64 ysp,.int .i64 yfr,.int .i64 yto,.slice yst.A yst.n yst.cap] 84)).cell? ⟨wr.heap.size,0,none⟩=some (.string yn):=cell_new _ _ _ 0;have g1:(wr.alloc (.cells #[.string yn,.slice yh.A yh.n yh.cap,.int .i64 ysl,.int .i64 ysp,.int .i64 yfr,.int .i64 yto,.slice yst.A yst.n yst.cap] 84)).cell? ⟨wr.heap.size,1,none⟩=some (.slice yh.A yh.n yh.cap):=cell_new _ _ _ 1;have g2:(wr.alloc (.cells #[.string yn,.slice yh.A yh.n yh.cap,.int .i64 ysl,.int .i64 ysp,.int .i64 yfr,.int .i64 yto,.slice yst.A yst.n yst.cap] 84)).cell? ⟨wr.heap.size,2,none⟩=some (.int .i64 ysl):=cell_new _ _ _ 2;have g3:(wr.alloc (.cells #[.string yn,.slice yh.A yh.n yh.cap,.int .i64 ysl,.int .i64 ysp,.int .i64 yfr,.int .i64 yto,.slice yst.A yst.n yst.cap] 84)).cell? ⟨wr.heap.size,3,none⟩=some (.int .i64 ysp):=cell_new _ _ _ 3;have g4:(wr.alloc (.cells #[.string yn,.slice yh.A yh.n yh.cap,.int .i64 ysl,.int .i64 ysp,.int .i64 yfr,.int .i64 yto,.slice yst.A yst.n yst.cap] 84)).cell? ⟨wr.heap.size,4,none⟩=some (.int .i64 yfr):=cell_new _ _ _ 4;have g5:(wr.alloc (.cells #[.string yn,.slice yh.A yh.n yh.cap,.int .i64 ysl,.int .i64 ysp,.int .i64 yfr,.int .i64 yto,.slice yst.A yst.n yst.cap] 84)).cell? ⟨wr.heap.size,5,none⟩=some (.int .i64 yto):=cell_new _ _ _ 5
      have g6:(wr.alloc (.cells #[.string yn,.slice yh.A yh.n yh.cap,.int .i64 ysl,.int .i64 ysp,.int .i64 yfr,.int .i64 yto,.slice yst.A yst.n yst.cap] 84)).cell? ⟨wr.heap.size,6,none⟩=some (.slice yst.A yst.n yst.cap):=cell_new _ _ _ 6;have k0:(wr.alloc (.cells #[.string yn,.slice yh.A yh.n yh.cap,.int .i64 ysl,.int .i64 ysp,.int .i64 yfr,.int .i64 yto,.slice yst.A yst.n yst.cap] 84)).cell? ⟨zb,0,none⟩=some (.string id):=by rw[hW7];exact keepC hb57 y0H.out
      have k1:(wr.alloc (.cells #[.string yn,.slice yh.A yh.n yh.cap,.int .i64 ysl,.int .i64 ysp,.int .i64 yfr,.int .i64 yto,.slice yst.A yst.n yst.cap] 84)).cell? ⟨zb,1,none⟩=some (.slice nd.A nd.n nd.cap):=by rw[hW7];exact keepC hb57 y1H.out
      have k2:(wr.alloc (.cells #[.string yn,.slice yh.A yh.n yh.cap,.int .i64 ysl,.int .i64 ysp,.int .i64 yfr,.int .i64 yto,.slice yst.A yst.n yst.cap] 84)).cell? ⟨zb,2,none⟩=some (.int .i64 sz):=by rw[hW7];exact keepC hb57 y2H.out
      have k3:(wr.alloc (.cells #[.string yn,.slice yh.A yh.n yh.cap,.int .i64 ysl,.int .i64 ysp,.int .i64 yfr,.int .i64 yto,.slice yst.A yst.n yst.cap] 84)).cell? ⟨zb,3,none⟩=some (.slice af.A af.n af.cap):=by rw[hW7];exact keepC hb57 y3H.out
      cases p
      ·have hyok7:=RWorker.mono _ _ _ hb67 hyok;have hzok7:=RWork.mono _ _ _ hb57 hzok5H.out;rw[Bool.false_or]at Rn;obtain⟨hyokH,hyok7H,hzok7H,RnH,hb57H,hb67H,hbqH,hslwH,hAwH,hyH,htjH,hpH,hfH,hW7H⟩:=hq2 hyok (hqb hyok7 hzok7 Rn hb57 (hqc hb67 hbq hslw hAw hy htj hp hf (Lib.hid hW7)));clear hyok hyok7 hzok7 Rn hb57 hb67 hbq hslw hAw hy htj hp hf hW7;go_wp2_with fail;rw[hW7H.out];refine(rfits_any ⟨yn,yh,ysl,ysp,yfr,yto,yst⟩ ⟨id,nd,sz,af⟩ _ hyok7H.out hzok7H.out f hfH.out).mono ?_;rintro e w8 ⟨rfl,hb8⟩;have R:=RnH.out w8 (hb57H.out.trans (hb8.mono hb57H.out.size));clear d0 d1 d2 d3 d4 d5 d6 g0 g1 g2 g3 g4 g5 g6 k0 k1 k2 k3;obtain⟨RH,hb8H⟩:=hq2 R (Lib.hid hb8);clear R hb8;go_wp2;refine⟨?rel,?measure⟩
       case measure=>(simp[intOf];omega)
       case rel=>first | exact RH.out | exact⟨rfl,RH.out⟩
      ·have R:=Rn W7 hb57;rw[← hW7,Bool.true_or]at R;clear Rn;obtain⟨hyokH,RH,hb57H,hb67H,hbqH,hslwH,hAwH,hyH,htjH,hpH,hfH,hW7H⟩:=hq2 hyok (hq2 R (hq2 hb57 (hqc hb67 hbq hslw hAw hy htj hp hf (Lib.hid hW7))));clear hyok R hb57 hb67 hbq hslw hAw hy htj hp hf hW7;go_wp2;refine⟨?rel,?measure⟩
       case measure=>(simp[intOf];omega)
       case rel=>first | exact RH.out | exact⟨rfl,RH.out⟩
     ·obtain rfl:j=M:=by omega
      have e:x.workers.l.take j=x.workers.l:=List.take_of_length_le (by have:=hMlH.out;omega);obtain⟨bb,hbb⟩:∃ v,(x.workers.l.any fun y=>fitF nd.l y.has.l)=v:=⟨_,rfl⟩;rw[e,hbb];clear e;obtain⟨t1,t2⟩:=TLH.out wr bb hbb hbq
      cases bb
      ·obtain⟨z0,hown7,hb7,hnew,hnx⟩:=t2 rfl;clear t1 t2;obtain⟨hbqH,hown7H,hb7H,hnewH,hnxH,hbbH⟩:=hq2 hbq (hqb hown7 hb7 hnew hnx (Lib.hid hbb));clear hbq hown7 hb7 hnew hnx hbb;go_wp2_with (at_builtin;go_loud (refine wpList_app rfl (.tmp 39) (.tmp 42) 43 rfl Tryz.underlying43 elem_StrR (by decide) rfl hown7H.out (some ⟨wr.heap.size,0,none⟩) 1 1 [id] rfl hnewH.out ?nn ?ok ?c1 ?c2 ?c3 (n+1) ?c4 ?_))
       case nn=>intro h;cases h
       case ok=>exact fun _ _ _ _ h=>h
       case c1=>rw[hlen9H.out];simp[maxLen] <;> omega
       case c2=>rw[hlen9H.out];omega
       case c3=>have:=hb7H.out.size;simp at this ⊢;omega
       case c4=>rw[hlen9H.out]
       intro A' c' w8 hown8 hg8 hat8 hb8;have R:=hnxH.out A' c' w8 hown8 (hb7H.out.trans hb8);clear hg8 hat8 hb8 hown8;have RH:=Lib.hid R;clear R;go_wp2;refine⟨?rel,?measure⟩
       case measure=>(simp[intOf];omega)
       case rel=>first | exact RH.out | exact⟨rfl,RH.out⟩
      ·have R:=t1 rfl;clear t1 t2;obtain⟨hbqH,RH,hbbH⟩:=hq2 hbq (hq2 R (Lib.hid hbb));clear hbq R hbb;go_wp2;refine⟨?rel,?measure⟩
       case measure=>(simp[intOf];omega)
       case rel=>first | exact RH.out | exact⟨rfl,RH.out⟩
   ·obtain rfl:k=N:=by omega
    have e:x.works.l.take k=x.works.l:=List.take_of_length_le (by have:=hNlH.out;omega);rw[e]at hown;have R:=RZH.out A1 n c1' wr hown hb;clear e hnl;obtain⟨RH,hownH,hbH⟩:=hq2 R (hq2 hown (Lib.hid hb));clear R hown hb;go_wp2;exact RH.out
 ·have R:Z (.returned (.tuple #[.slice none 0 0,.int .i64 c])) w1:=by
   rw[← hZH.out];exact .inl ⟨h1,rfl,hbb⟩
  have h1':(c != 0)=true:=by simpa using h1
  clear h1;obtain⟨RH,hb1H,hx2H,hbbH⟩:=hq2 R (hq2 hb1 (hq2 hx2 (Lib.hid hbb)));clear R hb1 hx2 hbb;go_wp2;exact RH.out
def PredW (g:Nat) (lb:Array Value) (p:Worker→Bool) (l:List Worker) (w:World):Prop :=
 ∀ (W:World) (x:Worker),x∈l→Below w.heap.size w W→Calls Tryz.prog g (#[.agg #[.string x.name,.slice x.has.A x.has.n x.has.cap,.int .i64 x.slots,.int .i64 x.speed,.int .i64 x.from_,.int .i64 x.to_,.slice x.stands.A x.stands.n x.stands.cap]]++lb) W fun e w'=>e = .returned (.bool (p x))∧Below W.heap.size W w'
def AnyRelW (p:Worker→Bool) (l:List Worker) (b:Bool) (w0:World) (i:Value) (wr:World):Prop:=∃ k:Nat,k≤l.length∧i = .int .i64 k∧(l.drop k).any p=b∧Below w0.heap.size w0 wr
theorem indexFuncW_any (g:Nat) (lb:Array Value) (eg:∀ args w,(callFunc g args).run Tryz.prog w = .ok (.enter g args) w) (p:Worker→Bool) (A:Option Addr) (n c:Nat) (l:List Worker) (w:World)
  (hl:SlAt RWorker w A n l) (hn:n≤9223372036854775807) (hp:PredW g lb p l w) (b:Bool) (hb:l.any p=b) :
  Calls Tryz.prog 95 #[.slice A n c,.func (.func g) #[] lb] w fun e w'=>∃ i:Int,e = .returned (.int .i64 i)∧(if b=true then 0≤i else i = -1)∧Below w.heap.size w w':=by
 have hll:=hl.1;obtain⟨hlH,hbH,hpH,hllH⟩:=hq2 hl (hq2 hb (hq2 hp (Lib.hid hll)));clear hl hb hp hll;go_enter Tryz.func95,Tryz.ntmps95;go_wp2
 go_loopw [5,8] (fun s5 i wr=>AnyRelW p l b w i wr) (fun _ i _=>n-(intOf i).toNat)
 case atStart=>exact⟨0,Nat.zero_le _,rfl,hbH.out,Below.refl _ _⟩
 case round =>
  obtain⟨k,hk,rfl,hr,hbw⟩:=hrel;have hkl:k≤n:=by have:=hllH.out;omega
  by_cases hlt:k<n
  ·obtain⟨b0,off,hA,_⟩:=hlH.out.2.1 (by omega);subst hA;obtain⟨x,hx⟩:∃ x,l[k]? = some x:=⟨l[k]'(by have:=hllH.out;omega),List.getElem?_eq_getElem _⟩;obtain⟨c0,c1,c2,c3,c4,c5,c6⟩:=cells_Worker (hlH.out.below hbw) hx;have hcall:=hpH.out wr x (List.mem_of_getElem? hx) hbw;rw[drop_cons hx,List.any_cons]at hr;have hkl2:k+1≤l.length:=by have:=hllH.out;omega
   cases hq:p x
   ·rw[hq]at hcall hr;rw[Bool.false_or]at hr;have R:∀ w',Below wr.heap.size wr w'→AnyRelW p l b w (.int .i64 (k+1)) w':=fun w' h=>⟨k+1,hkl2,by go_num,hr,hbw.trans (h.mono hbw.size)⟩;clear hr;obtain⟨RH,hxH,hbwH,hqH,hcallH⟩:=hqb R hx hbw hq (Lib.hid hcall);clear R hx hbw hq hcall;go_wp2_with (go_at_fn g;refine hcallH.out.mono ?_;rintro e w' ⟨rfl,hb'⟩;have hb'H:=Lib.hid hb';clear hb');refine⟨?rel,?measure⟩
    case measure=>(simp[intOf];omega)
    case rel=>first | exact(RH.out _ hb'H.out) | exact⟨rfl,(RH.out _ hb'H.out)⟩
   ·rw[hq]at hcall hr;rw[Bool.true_or]at hr;subst hr;obtain⟨hxH,hbwH,hqH,hcallH⟩:=hq2 hx (hq2 hbw (hq2 hq (Lib.hid hcall)));clear hx hbw hq hcall;go_wp2_with (go_at_fn g;refine hcallH.out.mono ?_;rintro e w' ⟨rfl,hb'⟩;have hb'H:=Lib.hid hb';clear hb');go_ret;exact⟨k,rfl,by first | omega | (rw[if_pos rfl];omega),hbwH.out.trans (hb'H.out.mono hbwH.out.size)⟩
  ·have e:l.drop k = []:=List.drop_eq_nil_of_le (by have:=hllH.out;omega);rw[e]at hr;subst hr;obtain⟨hbwH,eH⟩:=hq2 hbw (Lib.hid e);clear hbw e;go_wp2;go_ret;exact⟨-1,rfl,by simp,hbwH.out⟩
theorem containsFuncW_any (g:Nat) (lb:Array Value) (eg:∀ args w,(callFunc g args).run Tryz.prog w = .ok (.enter g args) w) (p:Worker→Bool) (A:Option Addr) (n c:Nat) (l:List Worker) (w:World)
  (hl:SlAt RWorker w A n l) (hn:n≤9223372036854775807) (hp:PredW g lb p l w) (b:Bool) (hb:l.any p=b) :
  Calls Tryz.prog 49 #[.slice A n c,.func (.func g) #[] lb] w fun e w'=>e = .returned (.bool b)∧Below w.heap.size w w':=by
 obtain⟨hlH,hbH,hpH⟩:=hq2 hl (hq2 hb (Lib.hid hp));clear hl hb hp;go_enter Tryz.func49,Tryz.ntmps49;go_wp2_with fail;refine(indexFuncW_any g lb eg p A n c l _ hlH.out hn hpH.out b hbH.out).mono ?_;rintro e w1 ⟨i,rfl,hi,hw1⟩;have hw1H:=Lib.hid hw1;clear hw1
 cases b
 ·rw[if_neg (by simp)]at hi;subst hi;go_wp2;go_ret;exact⟨rfl,hw1H.out⟩
 ·rw[if_pos rfl]at hi;go_wp2;go_ret;exact⟨rfl,hw1H.out⟩
end Go.Proofs.YtbnkoefljcekbaaGreatDoor.C9