/-
 Several texts of mine as one, without what is not wanted here: XRoW, XSrtK.
-/
import Derived.Test.YtbnkoefljcekbaaGreatDoorOtVC9
import Derived.Test.YtbnkoefljcekbaaGreatDoorOtShelf
import Derived.Shelf.SlSortCmp.NoneTotal
import Derived.Lib.OwnBridge
set_option linter.unusedVariables false
set_option linter.unusedSimpArgs false
set_option maxRecDepth 100000
set_option maxHeartbeats 8000000
namespace Go.Proofs.YtbnkoefljcekbaaGreatDoor.C9
open Go.ChangeShapes Go.WideShapes Go.Deep Go.RowKit Go.Maps
theorem elem_OutR:Elem Tryz.prog 42 ROutcome.size 40:=elem_of (z:=.agg #[.string ByteArray.empty,.int .i64 0,.int .i64 0,.int .i64 0]) (by kernel_rfl) (by decide)
def RoRel (x:Farm) (q:QS) (N:Nat) (W3:World) (v i:Value) (wr:World):Prop :=
 ∃ (k:Nat) (A:Option Addr) (c:Nat),k≤N∧i = .int .i64 k∧v = .slice A k c∧Own ROutcome 42 wr W3.heap.size (.slice A k c) ((List.range k).map (routOf x q))∧Below W3.heap.size W3 wr
def RoIn (q:QS) (k:Nat) (id:ByteArray) (n ob:Nat) (W5:World) (la i:Value) (wr:World):Prop :=
 ∃ j:Nat,j≤n∧i = .int .i64 j∧la = .int .i64 (rfo q k j).la∧Blk wr ob [.string id,.int .i64 (rfo q k j).st,.int .i64 (rfo q k j).am,.int .i64 (rfo q k j).tr]∧Below W5.heap.size W5 wr
def RoOAns (x:Farm) (c:Int) (w:World) (e:Ending) (w':World):Prop :=
 (c≠0∧e = .returned (.tuple #[.slice none 0 0,.int .i64 c])∧Below w.heap.size w w') ∨
 (c=0∧∃ (A:Option Addr) (cap:Nat) (q:QS),e = .returned (.tuple #[.slice A x.works.n cap,.int .i64 0])∧SlAt ROutcome w' A x.works.n ((List.range x.works.n).map (routOf x q))∧QTrace (fpx x) q0 q∧Below w.heap.size w w')
theorem rOutcomes_any (x:Farm) (w:World) (hx:RFarm.ok w x) (c:Int) (hF:farmF x=c) :
  Calls Tryz.prog 17 #[farmV x] w (RoOAns x c w):=by
 unfold farmV;have hN:x.works.n=x.works.l.length:=hx.2.1.1.1.symm;obtain⟨W1,hW1⟩:∃ Y,w.alloc (.cells #[.slice x.workers.A x.workers.n x.workers.cap,.slice x.works.A x.works.n x.works.cap,.slice x.lost.A x.lost.n x.lost.cap,.int .i64 x.tries,.bool x.doubles] 26)=Y:=⟨_,rfl⟩;obtain⟨xb,hxb⟩:∃ b,w.heap.size=b:=⟨_,rfl⟩;have hba:Below w.heap.size w W1:=by rw[← hW1];exact(Below.refl _ _).alloc (Nat.le_refl _) _
 have hx1:=RFarm.mono _ _ _ hba hx;have c0:W1.cell? ⟨xb,0,none⟩=some (.slice x.workers.A x.workers.n x.workers.cap):=by rw[← hW1,← hxb];exact cell_new _ _ _ 0
 have c1:W1.cell? ⟨xb,1,none⟩=some (.slice x.works.A x.works.n x.works.cap):=by rw[← hW1,← hxb];exact cell_new _ _ _ 1
 have c2:W1.cell? ⟨xb,2,none⟩=some (.slice x.lost.A x.lost.n x.lost.cap):=by rw[← hW1,← hxb];exact cell_new _ _ _ 2
 have c3:W1.cell? ⟨xb,3,none⟩=some (.int .i64 x.tries):=by rw[← hW1,← hxb];exact cell_new _ _ _ 3
 have c4:W1.cell? ⟨xb,4,none⟩=some (.bool x.doubles):=by rw[← hW1,← hxb];exact cell_new _ _ _ 4
 obtain⟨Z,hZ⟩:∃ Z,RoOAns x c w=Z:=⟨_,rfl⟩;rw[hZ];obtain⟨hZH,hxH,hx1H,hW1H,hxbH,hbaH,hFH,hNH⟩:=hq2 hZ (hq2 hx (hq2 hx1 (hqb hW1 hxb hba hF (Lib.hid hN))));clear hZ hx hx1 hW1 hxb hba hF hN;go_enter Tryz.func17,Tryz.ntmps17;go_wp2_with fail;rw[hW1H.out,hxbH.out];refine(rfarm_any x _ hx1H.out c hFH.out).mono ?_;rintro e w1 ⟨rfl,hb1⟩;have c0:=keepC hb1 c0;have c1:=keepC hb1 c1;have c2:=keepC hb1 c2;have c3:=keepC hb1 c3;have c4:=keepC hb1 c4;have hx2:=RFarm.mono _ _ _ hb1 hx1H.out;have hbb:=hbaH.out.trans (hb1.mono hbaH.out.size)
 by_cases h1:c=0
 ·subst h1;obtain⟨hb1H,hx2H,hbbH⟩:=hq2 hb1 (hq2 hx2 (Lib.hid hbb));clear hb1 hx2 hbb;go_wp2_with fail;have c1H:=Lib.hid c1;have c3H:=Lib.hid c3;refine(follow_any x _ hx2H.out (farmOk_of hFH.out)).mono ?_;rintro e w3 ⟨X,rv,q,rfl,hXx,hXF,hS,hA,hT,hNq,lo,hi,hI⟩;obtain⟨A0,cap0,hrv,hrv1⟩:=hA.row;obtain⟨nR,hnR⟩:∃ n,q.runs.length=n:=⟨_,rfl⟩;rw[hnR]at hrv hrv1;have hn4:nR≤4000:=by rw[← hnR];exact hNq.len
  have hbe:=hA.bel;obtain⟨N,hNe⟩:∃ n,x.works.n=n:=⟨_,rfl⟩;have hNl:x.works.l.length=N:=by rw[← hNe];exact hNH.out.symm
  have hXN:X.N=N:=by unfold RX.N;rw[hXx];exact hNe
  have c1:=keepC hbe c1H.out;have c3:=keepC hbe c3H.out;have b7:=(hA.blk 7 _ rfl).1;have b8:=(hA.blk 8 _ rfl).1;have b9:=(hA.blk 9 _ rfl).1;rw[hrv]at b7;rw[hXN]at b8 b9;have r8:BRow w3 X.db X.N q.done:=hA.done;have r9:IRow w3 X.lb X.N q.lost:=hA.lost;rw[hXN]at r8 r9;rw[hNe]at c1;have hxs3:=hx2H.out.2.1.1.below hbe;rw[hNe]at hxs3;obtain⟨R,hR⟩:∃ R,q.runs.map (toRun x)=R:=⟨_,rfl⟩;have hRl:R.length=nR:=by rw[← hR,List.length_map];exact hnR
  have hsl:SlAt RRun w3 A0 nR R:=by
   have:=hA.runs;rw[hrv,hXx,hR]at this;exact this.slAt
  have hI64:∀ r∈q.runs,I64 r.to_:=fun r hr=>(hsl.2.2 (toRun x r) (by rw[← hR];exact List.mem_map_of_mem hr)).2.2.2.1;have hidq:∀ r∈q.runs,∀ k,k<N→(((toRun x r).id_=(woOf x k).id_)↔r.work=k):=fun r hr k hk=>by
   have:=hNq.idEq hS hr (k:=k) (by rw[hXx];omega);rw[hXx]at this;exact this
  have hK:∀ W,Below w3.heap.size w3 W→(W.cell? ⟨xb,1,none⟩=some (.slice x.works.A N x.works.cap)∧W.cell? ⟨xb,3,none⟩=some (.int .i64 x.tries)) ∧
    (W.cell? ⟨X.f,7,none⟩=some (.slice A0 nR cap0)∧W.cell? ⟨X.f,8,none⟩=some (.slice (some ⟨X.db,0,none⟩) N N)∧W.cell? ⟨X.f,9,none⟩=some (.slice (some ⟨X.lb,0,none⟩) N N)) ∧
    ∀ k,k<N→W.cell? ⟨X.db,k,none⟩=some (.bool (q.done k))∧W.cell? ⟨X.lb,k,none⟩=some (.int .i64 (q.lost k)) :=
   fun W h=>⟨⟨keepC h c1,keepC h c3⟩,⟨keepC h b7,keepC h b8,keepC h b9⟩,fun k hk=>⟨keepC h (r8 k hk).1,keepC h (r9 k hk).1⟩⟩
  have RZ:∀ (A:Option Addr) (cp:Nat) (W:World),Own ROutcome 42 W w3.heap.size (.slice A N cp) ((List.range N).map (routOf x q))→Below w3.heap.size w3 W→Z (.returned (.tuple #[.slice A N cp,.int .i64 0])) W:=by
   intro A cp W ho hb;rw[← hZH.out,← hNe];refine .inr ⟨rfl,A,cp,q,rfl,?_,hT,?_⟩
   ·rw[hNe];exact ho.slAt
   ·exact hbbH.out.trans ((hbe.trans (hb.mono hbe.size)).mono hbbH.out.size)
  have hst:RoRel x q N w3 (.slice none 0 0) (.int .i64 0) w3:=⟨0,none,0,Nat.zero_le _,rfl,rfl,Own.nil _ _,Below.refl _ _⟩;have hN2:N≤200:=by have:=(farmOk_of hFH.out).wo.len;omega
  clear c0 c2 c4 b7 b8 b9 r8 r9 hA hNq hS hI hXF hXx hXN hrv1 c1H c3H hbe;obtain⟨xA,hxA⟩:∃ a,x.works.A=a:=⟨_,rfl⟩;obtain⟨xc,hxc⟩:∃ a,x.works.cap=a:=⟨_,rfl⟩;rw[hxA]at hxs3;rw[hxA,hxc]at c1 hK;obtain⟨hKH,RZH,hstH,hxs3H,hTH,hxAH,hxcH,hNeH,hNlH,hRH,hRlH,hslH,hI64H,hidqH,hnRH,hrvH⟩:=hq2 hK (hq2 RZ (hq2 hst (hqb hxs3 hT hxA hxc (hqc hNe hNl hR hRl hsl hI64 hidq hnR (Lib.hid hrv)))));clear hK RZ hst hxs3 hT hxA hxc hNe hNl hR hRl hsl hI64 hidq hnR hrv;go_wp2_with fail;clear c1 c3
  go_loopw [6,23] (fun v i wr=>RoRel x q N w3 v i wr) (fun _ i _=>N-(intOf i).toNat)
  case atStart=>exact hstH.out
  case round =>
   clear hstH;obtain⟨k,A1,c1',hk,rfl,rfl,hown,hb⟩:=hrel;have hbs:=hb.size
   by_cases hlt:k<N
   ·obtain⟨⟨c1,c3⟩,⟨f7,f8,f9⟩,hr⟩:=hKH.out wr hb;clear hr;have hslx:=hxs3H.out.below hb;obtain⟨bx,ox,hA9,_⟩:=hslx.2.1 (by omega);subst hA9;obtain⟨z,hz⟩:∃ z,x.works.l[k]? = some z:=⟨x.works.l[k]'(by have:=hNlH.out;omega),List.getElem?_eq_getElem _⟩;obtain⟨e0,e1,e2,e3⟩:=cells_Work hslx hz;have hzo:=(hslx.2.2 z (List.mem_of_getElem? hz)).1;have hzw:=woOf_get hz;obtain⟨id,nd,sz,af⟩:=z;simp only at e0 e1 e2 e3 hzo;obtain⟨W5,hW5⟩:∃ Y,wr.alloc (.cells #[.string id,.slice nd.A nd.n nd.cap,.int .i64 sz,.slice af.A af.n af.cap] 86)=Y:=⟨_,rfl⟩;obtain⟨zb,hzb⟩:∃ b,wr.heap.size=b:=⟨_,rfl⟩;obtain⟨W6,hW6⟩:∃ Y,W5.alloc (.cells #[.string id,.int .i64 3,.int .i64 0,.int .i64 0] 42)=Y:=⟨_,rfl⟩;obtain⟨ob,hob⟩:∃ b,W5.heap.size=b:=⟨_,rfl⟩;have hbr5:Below wr.heap.size wr W5:=by rw[← hW5];exact(Below.refl _ _).alloc (Nat.le_refl _) _
    have hb56:Below W5.heap.size W5 W6:=by rw[← hW6];exact(Below.refl _ _).alloc (Nat.le_refl _) _
    have hb5:=hb.trans (hbr5.mono hbs);have y0:(wr.alloc (.cells #[.string id,.slice nd.A nd.n nd.cap,.int .i64 sz,.slice af.A af.n af.cap] 86)).cell? ⟨wr.heap.size,0,none⟩=some (.string id):=cell_new _ _ _ 0;have z0:W5.cell? ⟨zb,0,none⟩=some (.string id):=by rw[← hW5,← hzb];exact cell_new _ _ _ 0
    have y7:((wr.alloc (.cells #[.string id,.slice nd.A nd.n nd.cap,.int .i64 sz,.slice af.A af.n af.cap] 86)).alloc (.cells #[.string id,.int .i64 3,.int .i64 0,.int .i64 0] 42)).cell? ⟨X.f,7,none⟩=some (.slice A0 nR cap0):=by
     rw[hW5,hW6];exact keepC hb56 (keepC hbr5 f7)
    have hB6:Blk W6 ob [.string id,.int .i64 3,.int .i64 0,.int .i64 0]:=by rw[← hW6,← hob];exact blk_new W5 [.string id,.int .i64 3,.int .i64 0,.int .i64 0] 42
    have hst2:RoIn q k id nR ob W5 (.int .i64 0) (.int .i64 0) W6:=by
     refine⟨0,Nat.zero_le _,rfl,?_,?_,hb56⟩
     ·rw[rfo_zero];rfl
     ·rw[rfo_zero];exact hB6
    have hob5:W5.heap.size≤ob:=Nat.le_of_eq hob;have hzo1:zb+1=ob:=by rw[← hob,← hW5,← hzb];simp
    obtain⟨hzH,hownH,hbH,hzoH,hzo1H,hzwH,hW5H,hzbH,hW6H,hobH,hbr5H,hb56H,hb5H,z0H,hB6H,hst2H,hslxH⟩:=hqc hz hown hb hzo hzo1 hzw hW5 hzb (hqc hW6 hob hbr5 hb56 hb5 z0 hB6 hst2 (Lib.hid hslx));clear hz hown hb hzo hzo1 hzw hW5 hzb hW6 hob hbr5 hb56 hb5 z0 hB6 hst2 hslx;go_wp2_with fail;simp only[hW5H.out,hzbH.out,hzo1H.out,hW6H.out];clear e0 e1 e2 e3 y0 y7 c1 c3 f7 f8 f9
    go_loopw [10,36] (fun la i wq=>RoIn q k id nR ob W5 la i wq) (fun _ i _=>nR-(intOf i).toNat)
    case atStart=>exact hst2H.out
    case round =>
     clear hst2H hB6H;obtain⟨j,hj,rfl,rfl,hB,hbq⟩:=hrel;have hb3q:=hb5H.out.trans (hbq.mono hb5H.out.size);have hok:=rfo_ok hI64H.out k j;obtain⟨s,hs⟩:∃ s,rfo q k j=s:=⟨_,rfl⟩;rw[hs]at hB hok ⊢;obtain⟨t0,st,am,la⟩:=s;obtain⟨o1,o2,o3,o4⟩:=hok;simp only at hB o1 o2 o3 o4 ⊢
     by_cases hjl:j<nR
     ·obtain⟨r,hr⟩:∃ r,q.runs[j]? = some r:=⟨q.runs[j]'(by have:=hnRH.out;omega),List.getElem?_eq_getElem _⟩;have hrm:=List.mem_of_getElem? hr;have hrR:R[j]? = some (toRun x r):=by rw[← hRH.out,List.getElem?_map,hr];rfl
      have hslr:=hslH.out.below hb3q;obtain⟨br,or_,hAr,_⟩:=hslr.2.1 (by omega);rw[hAr]at hslr ⊢;obtain⟨e0,e1,e2,e3,e4⟩:=cells_Run hslr hrR;have hidr:=hidqH.out r hrm k hlt;rw[hzwH.out]at hidr;have hnew:rfo q k (j+1)=oStep k ⟨t0,st,am,la⟩ r:=by rw[rfo_take hr,hs]
      obtain⟨ri,hri⟩:∃ v,(toRun x r).id_=v:=⟨_,rfl⟩;obtain⟨rwk,hrwk⟩:∃ v,(toRun x r).worker=v:=⟨_,rfl⟩;obtain⟨rf,hrf⟩:∃ v,(toRun x r).from_=v:=⟨_,rfl⟩;obtain⟨rt,hrt⟩:∃ v,(toRun x r).to_=v:=⟨_,rfl⟩;obtain⟨re,hre⟩:∃ v,(toRun x r).end_=v:=⟨_,rfl⟩;rw[hri]at e0 hidr;rw[hrwk]at e1;rw[hrf]at e2;rw[hrt]at e3;rw[hre]at e4;have hrt':r.to_=rt:=hrt;have hre':r.end_=re:=hre;have hit:I64 rt:=by rw[← hrt'];exact hI64H.out r hrm
      simp only at hidr;have q0:=(hB 0 _ rfl).1;have q1:=(hB 1 _ rfl).1;have q2:=(hB 2 _ rfl).1;have q3:=(hB 3 _ rfl).1;have zz0:=keepC hbq z0H.out;have l0:=cell?_lt q0;simp only at l0;obtain⟨rb,hrb⟩:∃ b,wr.heap.size=b:=⟨_,rfl⟩;obtain⟨W7,hW7⟩:∃ Y,wr.alloc (.cells #[.string ri,.string rwk,.int .i64 rf,.int .i64 rt,.int .i64 re] 34)=Y:=⟨_,rfl⟩;have hb67:Below wr.heap.size wr W7:=by rw[← hW7];exact(Below.refl _ _).alloc (Nat.le_refl _) _
      have hB7:Blk W7 ob [.string id,.int .i64 st,.int .i64 am,.int .i64 t0]:=hB.keep (hb67.block ob l0);have hR7:Blk W7 rb [.string ri,.string rwk,.int .i64 rf,.int .i64 rt,.int .i64 re]:=by rw[← hW7,← hrb];exact blk_new wr [.string ri,.string rwk,.int .i64 rf,.int .i64 rt,.int .i64 re] 34
      have hb57:=hbq.trans (hb67.mono hbq.size);have p0:(wr.alloc (.cells #[.string ri,.string rwk,.int .i64 rf,.int .i64 rt,.int .i64 re] 34)).cell? ⟨wr.heap.size,0,none⟩=some (.string ri):=cell_new _ _ _ 0;have pz:(wr.alloc (.cells #[.string ri,.string rwk,.int .i64 rf,.int .i64 rt,.int .i64 re] 34)).cell? ⟨zb,0,none⟩=some (.string id):=by rw[hW7];exact keepC hb67 zz0
      have hrbo:ob≠rb:=by rw[← hrb];omega
      have Rn:∀ (t' st' am' la':Int) (W:World),rfo q k (j+1)=⟨t',st',am',la'⟩→Blk W ob [.string id,.int .i64 st',.int .i64 am',.int .i64 t']→Below W5.heap.size W5 W→RoIn q k id nR ob W5 (.int .i64 la') (.int .i64 ((j:Int)+1)) W:=by
       intro t' st' am' la' W h1 h2 h3;refine⟨j+1,hjl,by go_num,?_,?_,h3⟩
       ·rw[h1]
       ·rw[h1];exact h2
      by_cases hw:r.work=k
      ·have hne:(ri.toList==id.toList)=true:=by rw[beq_data,decide_eq_true (hidr.2 hw)]
       have p3:(wr.alloc (.cells #[.string ri,.string rwk,.int .i64 rf,.int .i64 rt,.int .i64 re] 34)).cell? ⟨ob,3,none⟩=some (.int .i64 t0):=by rw[hW7];exact(hB7 3 _ rfl).1
       have p3z:(wr.alloc (.cells #[.string ri,.string rwk,.int .i64 rf,.int .i64 rt,.int .i64 re] 34)).frozen? ⟨ob,3,none⟩=false:=by rw[hW7];exact(hB7 3 _ rfl).2
       have hwt:IntKind.i64.wrap (t0+1)=t0+1:=IntWalk.i64_in _ (by omega);have v3:=(hB 3 _ rfl).2;have hBs:Blk (wr.setCell ⟨ob,3,none⟩ (.int .i64 (t0+1))) ob [.string id,.int .i64 st,.int .i64 am,.int .i64 (t0+1)]:=hB.set (k:=3) (by simp) (.int .i64 (t0+1));have hbs8:Below W5.heap.size W5 (wr.setCell ⟨ob,3,none⟩ (.int .i64 (t0+1))):=hbq.setCell (p:=⟨ob,3,none⟩) hob5 _;have hss:(wr.setCell ⟨ob,3,none⟩ (.int .i64 (t0+1))).heap.size=wr.heap.size:=by simp
       have hba8:Below (wr.setCell ⟨ob,3,none⟩ (.int .i64 (t0+1))).heap.size (wr.setCell ⟨ob,3,none⟩ (.int .i64 (t0+1))) ((wr.setCell ⟨ob,3,none⟩ (.int .i64 (t0+1))).alloc (.cells #[.string ri,.string rwk,.int .i64 rf,.int .i64 rt,.int .i64 re] 34)):=(Below.refl _ _).alloc (Nat.le_refl _) _;have p83:((wr.setCell ⟨ob,3,none⟩ (.int .i64 (t0+1))).alloc (.cells #[.string ri,.string rwk,.int .i64 rf,.int .i64 rt,.int .i64 re] 34)).cell? ⟨wr.heap.size,3,none⟩=some (.int .i64 rt):=by
        have:=cell_new (wr.setCell ⟨ob,3,none⟩ (.int .i64 (t0+1))) #[.string ri,.string rwk,.int .i64 rf,.int .i64 rt,.int .i64 re] 34 3;rw[hss]at this;exact this
       have p84:((wr.setCell ⟨ob,3,none⟩ (.int .i64 (t0+1))).alloc (.cells #[.string ri,.string rwk,.int .i64 rf,.int .i64 rt,.int .i64 re] 34)).cell? ⟨wr.heap.size,4,none⟩=some (.int .i64 re):=by
        have:=cell_new (wr.setCell ⟨ob,3,none⟩ (.int .i64 (t0+1))) #[.string ri,.string rwk,.int .i64 rf,.int .i64 rt,.int .i64 re] 34 4;rw[hss]at this;exact this
       have hR8:=blk_new (wr.setCell ⟨ob,3,none⟩ (.int .i64 (t0+1))) [.string ri,.string rwk,.int .i64 rf,.int .i64 rt,.int .i64 re] 34;have hB8:=hBs.keep (hba8.block ob (hBs.lt (by simp)));have hb58:=hbs8.trans (hba8.mono hbs8.size);rw[hss,hrb]at hR8;clear hBs hbs8 hba8;have hstep:oStep k ⟨t0,st,am,la⟩ r=⟨t0+1,if re=1 then 1 else st,if re=1 then rt else am,if re=2 then max la rt else la⟩:=by
        unfold oStep;rw[if_pos hw,hre',hrt']
       rw[hstep]at hnew;obtain⟨W8,hW8⟩:∃ Y,(wr.setCell ⟨ob,3,none⟩ (.int .i64 (t0+1))).alloc (.cells #[.string ri,.string rwk,.int .i64 rf,.int .i64 rt,.int .i64 re] 34)=Y:=⟨_,rfl⟩;have hR8:Blk W8 rb [.string ri,.string rwk,.int .i64 rf,.int .i64 rt,.int .i64 re]:=by rw[← hW8];exact hR8
       rw[hW8]at hB8 hb58
       by_cases h1:re=1
       ·subst h1;rw[if_pos rfl,if_pos rfl,if_neg (by decide)]at hnew;obtain⟨hBH,hbqH,hb3qH,hsH,hrH,hrmH,hrRH,hslrH,hArH,hidrH,hriH,hrwkH,hrfH,hrtH,hreH,hrt'H,hre'H,hitH,hrbH,hW7H,hb67H,hB7H,hR7H,hb57H,RnH,hnewH,hB8H,hR8H,hb58H,hstepH,hW8H⟩:=hq2 hB (hq2 hbq (hqb hb3q hs hr hrm (hqc hrR hslr hAr hidr hri hrwk hrf hrt (hqc hre hrt' hre' hit hrb hW7 hb67 hB7 (hqc hR7 hb57 Rn hnew hB8 hR8 hb58 hstep (Lib.hid hW8))))));clear hB hbq hb3q hs hr hrm hrR hslr hAr hidr hri hrwk hrf hrt hre hrt' hre' hit hrb hW7 hb67 hB7 hR7 hb57 Rn hnew hB8 hR8 hb58 hstep hW8;go_wp2_with fail;simp only[hW8H.out,hrbH.out];clear e0 e1 e2 e3 e4 q0 q1 q2 q3 zz0 l0 p0 pz p3 p3z p83 p84;have g3:=(hR8H.out 3 _ rfl).1;have g4:=(hR8H.out 4 _ rfl).1;have u1:=(hB8H.out 1 _ rfl).1;have u2:=(hB8H.out 2 _ rfl).1;have v1:=(hB8H.out 1 _ rfl).2;have v2:=(hB8H.out 2 _ rfl).2
        go_region
        obtain⟨W9,hW9⟩:∃ Y,((W8.setCell ⟨ob,1,none⟩ (.int .i64 1)).setCell ⟨ob,2,none⟩ (.int .i64 rt)).drew=Y:=⟨_,rfl⟩;have hB9:Blk W9 ob [.string id,.int .i64 1,.int .i64 rt,.int .i64 (t0+1)]:=by
         rw[← hW9];exact((hB8H.out.set (k:=1) (by simp) (.int .i64 1)).set (k:=2) (by simp) (.int .i64 rt)).keep rfl
        have hR9:Blk W9 rb [.string ri,.string rwk,.int .i64 rf,.int .i64 rt,.int .i64 1]:=by
         rw[← hW9];have k1:=hR8H.out.keep ((grown_setc W8 ⟨ob,1,none⟩ (.int .i64 1)).block rb (hR8H.out.lt (by simp)) (fun e=>hrbo (by injection e with e;first | exact e | exact e.symm)));exact(k1.keep ((grown_setc _ ⟨ob,2,none⟩ (.int .i64 rt)).block rb (k1.lt (by simp)) (fun e=>hrbo (by injection e with e;first | exact e | exact e.symm)))).keep rfl
        have hb59:Below W5.heap.size W5 W9:=by
         rw[← hW9];exact((hb58H.out.setCell (p:=⟨ob,1,none⟩) hob5 _).setCell (p:=⟨ob,2,none⟩) hob5 _).drew
        rw[hW9];have R:=RnH.out _ _ _ _ W9 hnewH.out hB9 hb59;clear g3 g4 u1 u2 v1 v2;have g4:=(hR9 4 _ rfl).1;obtain⟨RH,hB9H,hR9H,hb59H,hW9H⟩:=hqb R hB9 hR9 hb59 (Lib.hid hW9);clear R hB9 hR9 hb59 hW9;go_wp2;refine⟨?rel,?measure⟩
        case measure=>(simp[intOf];omega)
        case rel=>first | exact RH.out | exact⟨rfl,RH.out⟩
       ·have h1':(re==1)=false:=by simpa using h1
        rw[if_neg h1,if_neg h1]at hnew
        by_cases h2:re=2
        ·subst h2;rw[if_pos rfl]at hnew;have R:=Rn _ _ _ _ W8 hnew hB8 hb58;rw[← hW8]at R;obtain⟨RH,hBH,hbqH,hb3qH,hsH,hrH,hrmH,hrRH,hslrH,hArH,hidrH,hriH,hrwkH,hrfH,hrtH,hreH,hrt'H,hre'H,hitH,hrbH,hW7H,hb67H,hB7H,hR7H,hb57H,RnH,hnewH,hB8H,hR8H,hb58H,hstepH,hW8H⟩:=hq2 R (hq2 hB (hq2 hbq (hqb hb3q hs hr hrm (hqc hrR hslr hAr hidr hri hrwk hrf hrt (hqc hre hrt' hre' hit hrb hW7 hb67 hB7 (hqc hR7 hb57 Rn hnew hB8 hR8 hb58 hstep (Lib.hid hW8)))))));clear R hB hbq hb3q hs hr hrm hrR hslr hAr hidr hri hrwk hrf hrt hre hrt' hre' hit hrb hW7 hb67 hB7 hR7 hb57 Rn hnew hB8 hR8 hb58 hstep hW8;clear h1;go_wp2;refine⟨?rel,?measure⟩
         case measure=>(simp[intOf];omega)
         case rel=>first | exact RH.out | exact⟨rfl,RH.out⟩
        ·have h2':(re==2)=false:=by simpa using h2
         rw[if_neg h2]at hnew;have R:=Rn _ _ _ _ W8 hnew hB8 hb58;rw[← hW8]at R;obtain⟨RH,hBH,hbqH,hb3qH,hsH,hrH,hrmH,hrRH,hslrH,hArH,hidrH,hriH,hrwkH,hrfH,hrtH,hreH,hrt'H,hre'H,hitH,hrbH,hW7H,hb67H,hB7H,hR7H,hb57H,RnH,hnewH,hB8H,hR8H,hb58H,hstepH,hW8H⟩:=hq2 R (hq2 hB (hq2 hbq (hqb hb3q hs hr hrm (hqc hrR hslr hAr hidr hri hrwk hrf hrt (hqc hre hrt' hre' hit hrb hW7 hb67 hB7 (hqc hR7 hb57 Rn hnew hB8 hR8 hb58 hstep (Lib.hid hW8)))))));clear R hB hbq hb3q hs hr hrm hrR hslr hAr hidr hri hrwk hrf hrt hre hrt' hre' hit hrb hW7 hb67 hB7 hR7 hb57 Rn hnew hB8 hR8 hb58 hstep hW8;clear h1 h2;go_wp2;refine⟨?rel,?measure⟩
         case measure=>(simp[intOf];omega)
         case rel=>first | exact RH.out | exact⟨rfl,RH.out⟩
      ·have hne:(ri.toList==id.toList)=false:=by rw[beq_data,decide_eq_false (fun e=>hw (hidr.1 e))]
       have hstep:oStep k ⟨t0,st,am,la⟩ r=⟨t0,st,am,la⟩:=by unfold oStep;rw[if_neg hw]
       rw[hstep]at hnew;have R:=Rn _ _ _ _ W7 hnew hB7 hb57;rw[← hW7]at R;obtain⟨RH,hBH,hbqH,hb3qH,hsH,hrH,hrmH,hrRH,hslrH,hArH,hidrH,hriH,hrwkH,hrfH,hrtH,hreH,hrt'H,hre'H,hitH,hrbH,hW7H,hb67H,hB7H,hR7H,hb57H,RnH,hnewH,hstepH⟩:=hq2 R (hq2 hB (hq2 hbq (hqc hb3q hs hr hrm hrR hslr hAr hidr (hqc hri hrwk hrf hrt hre hrt' hre' hit (hqc hrb hW7 hb67 hB7 hR7 hb57 Rn hnew (Lib.hid hstep))))));clear R hB hbq hb3q hs hr hrm hrR hslr hAr hidr hri hrwk hrf hrt hre hrt' hre' hit hrb hW7 hb67 hB7 hR7 hb57 Rn hnew hstep;go_wp2;refine⟨?rel,?measure⟩
       case measure=>(simp[intOf];omega)
       case rel=>first | exact RH.out | exact⟨rfl,RH.out⟩
     ·obtain rfl:j=nR:=by omega
      obtain⟨⟨c1,c3⟩,⟨f7,f8,f9⟩,hrr⟩:=hKH.out wr hb3q;obtain⟨g8,g9⟩:=hrr k hlt;clear hrr;have hro0:∀ s' t',s'=oS x.tries (q.done k) (q.lost k) ⟨t0,st,am,la⟩→t'=oT x.tries (q.done k) (q.lost k) ⟨t0,st,am,la⟩→routOf x q k=⟨id,s',t',t0⟩:=fun s' t' h1 h2=>by
       unfold routOf;rw[hzwH.out,hnRH.out,hs,← h1,← h2]
      have hrok:=rout_ok (x:=x) hI64H.out (by rw[hnRH.out];exact hn4) k;obtain⟨dn,hdn⟩:∃ v,q.done k=v:=⟨_,rfl⟩;obtain⟨lo,hlo⟩:∃ v,q.lost k=v:=⟨_,rfl⟩;obtain⟨tri,htri⟩:∃ v,x.tries=v:=⟨_,rfl⟩;rw[hdn]at g8;rw[hlo]at g9;rw[htri]at c3;rw[hdn,hlo,htri]at hro0;have q0:=(hB 0 _ rfl).1;have q1:=(hB 1 _ rfl).1;have q2:=(hB 2 _ rfl).1;have q3:=(hB 3 _ rfl).1;have v1:=(hB 1 _ rfl).2;have v2:=(hB 2 _ rfl).2;have hk0:(0:Int)≤(k:Int):=by omega
      have hkN:(k:Int)<(N:Int):=by omega
      obtain⟨d,hd⟩:∃ d,(!dn&&decide (tri≤lo))=d:=⟨_,rfl⟩;have hob3:w3.heap.size≤ob:=Nat.le_trans hb5H.out.size hob5;have hobn:∀ b,(Value.slice A1 k c1').ownBlock=some b→(some ob:Option Nat)≠some b:=fun b hbk e=>by
       injection e with e;have h1:=(hownH.out.1.lt b hbk).2;have h2:=hbr5H.out.size;omega
      have hown2:=hownH.out.below (hbr5H.out.trans ((hbq.mono (Nat.le_refl _)).mono hbr5H.out.size))
      cases d
      ·have hro:=hro0 st am (by unfold oS;rw[hd];rfl) (by unfold oT;rw[hd];rfl);rw[hro]at hrok
       cases dn
       ·have hle:¬ tri≤lo:=by simpa using hd
        have hdec:decide (lo ≥ tri)=false:=decide_eq_false hle;clear hd;have hokk:=hrok;clear hrok hro0;obtain⟨hBH,hbqH,hb3qH,hsH,hdnH,hloH,htriH,hown2H,hroH,hokkH⟩:=hq2 hB (hqc hbq hb3q hs hdn hlo htri hown2 hro (Lib.hid hokk));clear hB hbq hb3q hs hdn hlo htri hown2 hro hokk;go_wp2_with fail
        go_quiet (fail)
        obtain⟨W7,hW7⟩:∃ Y,wr.drewN nq=Y:=⟨_,rfl⟩;have hb67:Below wr.heap.size wr W7:=by rw[← hW7];exact bel_drewN (Below.refl _ _) nq
        rw[hW7];have hB7:=hBH.out.keep (hb67.block ob (cell?_lt q0));have hb73:=hb3qH.out.trans (hb67.mono hb3qH.out.size);have hsz73:=hb73.size;have q0:=(hB7 0 _ rfl).1;have q1:=(hB7 1 _ rfl).1;have q2:=(hB7 2 _ rfl).1;have q3:=(hB7 3 _ rfl).1;have hb7:=hb67;have hok7:ROutcome.ok W7 (⟨id,st,am,t0⟩:Outcome):=⟨hzoH.out,hokkH.out.1,hokkH.out.2.1,hokkH.out.2.2⟩;have hro:=hroH.out;clear hroH hownH c1 c3 f7 f8 f9 g8 g9;have hownH:=hown2H;clear hown2H;obtain⟨hb73H,hsz73H,hb67H,hB7H,hW7H⟩:=hqb hb73 hsz73 hb67 hB7 (Lib.hid hW7);clear hb73 hsz73 hb67 hB7 hW7;have hown7:=hownH.out.below hb7;have hsz7:=hb7.size;have hnw:=slAt_new (R:=ROutcome) W7 42 (⟨id,st,am,t0⟩:Outcome) hok7
        skip
        have RR:∀ (A':Option Addr) (c':Nat) (w9:World),Own ROutcome 42 w9 w3.heap.size (.slice A' (k+1) c') ((List.range k).map (routOf x q) ++ [⟨id,st,am,t0⟩])→Below w3.heap.size w3 w9→RoRel x q N w3 (.slice A' (k+1) c') (.int .i64 ((k:Int)+1)) w9:=by
         intro A' c' w9 ho hb9;refine⟨k+1,A',c',hlt,by go_num,rfl,?_,hb9⟩;rw[List.range_succ,List.map_append,List.map_singleton,hro];exact ho
        obtain⟨hown7H,hsz7H,hnwH,RRH,hb7H,hok7H,hroH⟩:=hq2 hown7 (hq2 hsz7 (hqb hnw RR hb7 hok7 (Lib.hid hro)));clear hown7 hsz7 hnw RR hb7 hok7 hro;go_wp2_with (at_builtin;go_loud (refine wpList_app rfl (.tmp 87) (.tmp 89) 37 rfl Tryz.underlying37 elem_OutR (by decide) rfl (hown7H.out.alloc _) (some ⟨W7.heap.size,0,none⟩) 1 1 [(⟨id,st,am,t0⟩:Outcome)] rfl hnwH.out ?nn ?ok ?c1 ?c2 ?c3 (k+1) ?c4 ?_))
        case nn=>intro h;cases h
        case ok=>exact fun _ _ _ _ h=>h
        case c1=>simp[maxLen];omega
        case c2=>simp;omega
        case c3=>have:=hsz73H.out;(try simp at this);simp;omega
        case c4=>simp
        intro A' c' w9 hown9 hg9 hat9 hb9;have R9:=RRH.out A' c' w9 hown9 ((hb73H.out.alloc hsz73H.out _).trans hb9);clear hg9 hat9 hb9 hown9;have R9H:=Lib.hid R9;clear R9;go_wp2;refine⟨?rel,?measure⟩
        case measure=>(simp[intOf];omega)
        case rel=>first | exact R9H.out | exact⟨rfl,R9H.out⟩
       ·clear hd;have hokk:=hrok;clear hrok hro0;obtain⟨hBH,hbqH,hb3qH,hsH,hdnH,hloH,htriH,hown2H,hroH,hokkH⟩:=hq2 hB (hqc hbq hb3q hs hdn hlo htri hown2 hro (Lib.hid hokk));clear hB hbq hb3q hs hdn hlo htri hown2 hro hokk;go_wp2_with fail
        go_quiet (fail)
        obtain⟨W7,hW7⟩:∃ Y,wr.drewN nq=Y:=⟨_,rfl⟩;have hb67:Below wr.heap.size wr W7:=by rw[← hW7];exact bel_drewN (Below.refl _ _) nq
        rw[hW7];have hB7:=hBH.out.keep (hb67.block ob (cell?_lt q0));have hb73:=hb3qH.out.trans (hb67.mono hb3qH.out.size);have hsz73:=hb73.size;have q0:=(hB7 0 _ rfl).1;have q1:=(hB7 1 _ rfl).1;have q2:=(hB7 2 _ rfl).1;have q3:=(hB7 3 _ rfl).1;have hb7:=hb67;have hok7:ROutcome.ok W7 (⟨id,st,am,t0⟩:Outcome):=⟨hzoH.out,hokkH.out.1,hokkH.out.2.1,hokkH.out.2.2⟩;have hro:=hroH.out;clear hroH hownH c1 c3 f7 f8 f9 g8 g9;have hownH:=hown2H;clear hown2H;obtain⟨hb73H,hsz73H,hb67H,hB7H,hW7H⟩:=hqb hb73 hsz73 hb67 hB7 (Lib.hid hW7);clear hb73 hsz73 hb67 hB7 hW7;have hown7:=hownH.out.below hb7;have hsz7:=hb7.size;have hnw:=slAt_new (R:=ROutcome) W7 42 (⟨id,st,am,t0⟩:Outcome) hok7
        skip
        have RR:∀ (A':Option Addr) (c':Nat) (w9:World),Own ROutcome 42 w9 w3.heap.size (.slice A' (k+1) c') ((List.range k).map (routOf x q) ++ [⟨id,st,am,t0⟩])→Below w3.heap.size w3 w9→RoRel x q N w3 (.slice A' (k+1) c') (.int .i64 ((k:Int)+1)) w9:=by
         intro A' c' w9 ho hb9;refine⟨k+1,A',c',hlt,by go_num,rfl,?_,hb9⟩;rw[List.range_succ,List.map_append,List.map_singleton,hro];exact ho
        obtain⟨hown7H,hsz7H,hnwH,RRH,hb7H,hok7H,hroH⟩:=hq2 hown7 (hq2 hsz7 (hqb hnw RR hb7 hok7 (Lib.hid hro)));clear hown7 hsz7 hnw RR hb7 hok7 hro;go_wp2_with (at_builtin;go_loud (refine wpList_app rfl (.tmp 87) (.tmp 89) 37 rfl Tryz.underlying37 elem_OutR (by decide) rfl (hown7H.out.alloc _) (some ⟨W7.heap.size,0,none⟩) 1 1 [(⟨id,st,am,t0⟩:Outcome)] rfl hnwH.out ?nn ?ok ?c1 ?c2 ?c3 (k+1) ?c4 ?_))
        case nn=>intro h;cases h
        case ok=>exact fun _ _ _ _ h=>h
        case c1=>simp[maxLen];omega
        case c2=>simp;omega
        case c3=>have:=hsz73H.out;(try simp at this);simp;omega
        case c4=>simp
        intro A' c' w9 hown9 hg9 hat9 hb9;have R9:=RRH.out A' c' w9 hown9 ((hb73H.out.alloc hsz73H.out _).trans hb9);clear hg9 hat9 hb9 hown9;have R9H:=Lib.hid R9;clear R9;go_wp2;refine⟨?rel,?measure⟩
        case measure=>(simp[intOf];omega)
        case rel=>first | exact R9H.out | exact⟨rfl,R9H.out⟩
      ·have hro:=hro0 2 la (by unfold oS;rw[hd];rfl) (by unfold oT;rw[hd];rfl);rw[hro]at hrok;obtain rfl:dn=false:=by
        cases dn
        ·rfl
        ·exact absurd hd (by simp)
       have hle:tri≤lo:=by simpa using hd
       have hdec:decide (lo ≥ tri)=true:=decide_eq_true hle;clear hd;have hokk:=hrok;clear hrok hro0;obtain⟨hBH,hbqH,hb3qH,hsH,hdnH,hloH,htriH,hown2H,hroH,hokkH⟩:=hq2 hB (hqc hbq hb3q hs hdn hlo htri hown2 hro (Lib.hid hokk));clear hB hbq hb3q hs hdn hlo htri hown2 hro hokk;go_wp2_with fail
       go_quiet (fail)
       obtain⟨W8,hW8⟩:∃ Y,wr.drewN nq=Y:=⟨_,rfl⟩;have hb68:Below wr.heap.size wr W8:=by rw[← hW8];exact bel_drewN (Below.refl _ _) nq
       rw[hW8];have hB8:=hBH.out.keep (hb68.block ob (cell?_lt q0));have hb83:=hb3qH.out.trans (hb68.mono hb3qH.out.size);have hsz83:=hb83.size;have q0:=(hB8 0 _ rfl).1;have q1:=(hB8 1 _ rfl).1;have q2:=(hB8 2 _ rfl).1;have q3:=(hB8 3 _ rfl).1;have v1:=(hB8 1 _ rfl).2;have v2:=(hB8 2 _ rfl).2;have hB7:=(hB8.set (k:=1) (by simp) (.int .i64 2)).set (k:=2) (by simp) (.int .i64 la);have i0:=(hB7 0 _ rfl).1;have i1:=(hB7 1 _ rfl).1;have i2:=(hB7 2 _ rfl).1;have i3:=(hB7 3 _ rfl).1;have hgr:=grown_trans (grown_setc W8 ⟨ob,1,none⟩ (.int .i64 2)) (grown_setc (W8.setCell ⟨ob,1,none⟩ (.int .i64 2)) ⟨ob,2,none⟩ (.int .i64 la));have hbw:Below w3.heap.size w3 ((W8.setCell ⟨ob,1,none⟩ (.int .i64 2)).setCell ⟨ob,2,none⟩ (.int .i64 la)):=(hb83.setCell (p:=⟨ob,1,none⟩) hob3 _).setCell (p:=⟨ob,2,none⟩) hob3 _;have hown3:=own_kp (hown2H.out.below hb68) hgr (fun b hbk=>hobn b hbk) (fun x _ hx=>by exact hx);have hok7:ROutcome.ok ((W8.setCell ⟨ob,1,none⟩ (.int .i64 2)).setCell ⟨ob,2,none⟩ (.int .i64 la)) (⟨id,2,la,t0⟩:Outcome):=⟨hzoH.out,hokkH.out.1,hokkH.out.2.1,hokkH.out.2.2⟩;have hszr:((W8.setCell ⟨ob,1,none⟩ (.int .i64 2)).setCell ⟨ob,2,none⟩ (.int .i64 la)).heap.size=W8.heap.size:=by simp
       have hro:=hroH.out;clear hroH hownH hown2H c1 c3 f7 f8 f9 g8 g9;have hownH:=Lib.hid hown3;clear hown3;have hb73:=hbw;have hsz73:=hbw.size;have hb7:=Below.refl ((W8.setCell ⟨ob,1,none⟩ (.int .i64 2)).setCell ⟨ob,2,none⟩ (.int .i64 la)).heap.size ((W8.setCell ⟨ob,1,none⟩ (.int .i64 2)).setCell ⟨ob,2,none⟩ (.int .i64 la));clear hbw hb83 hsz83 hgr;obtain⟨hB7H,hB8H,hW8H,hb68H,hb73H,hsz73H⟩:=hq2 hB7 (hqb hB8 hW8 hb68 hb73 (Lib.hid hsz73));clear hB7 hB8 hW8 hb68 hb73 hsz73;have hown7:=hownH.out.below hb7;have hsz7:=hb7.size;have hnw:=slAt_new (R:=ROutcome) ((W8.setCell ⟨ob,1,none⟩ (.int .i64 2)).setCell ⟨ob,2,none⟩ (.int .i64 la)) 42 (⟨id,2,la,t0⟩:Outcome) hok7;rw[hszr]at hnw;have RR:∀ (A':Option Addr) (c':Nat) (w9:World),Own ROutcome 42 w9 w3.heap.size (.slice A' (k+1) c') ((List.range k).map (routOf x q) ++ [⟨id,2,la,t0⟩])→Below w3.heap.size w3 w9→RoRel x q N w3 (.slice A' (k+1) c') (.int .i64 ((k:Int)+1)) w9:=by
        intro A' c' w9 ho hb9;refine⟨k+1,A',c',hlt,by go_num,rfl,?_,hb9⟩;rw[List.range_succ,List.map_append,List.map_singleton,hro];exact ho
       obtain⟨hown7H,hsz7H,hnwH,RRH,hb7H,hok7H,hroH⟩:=hq2 hown7 (hq2 hsz7 (hqb hnw RR hb7 hok7 (Lib.hid hro)));clear hown7 hsz7 hnw RR hb7 hok7 hro;go_wp2_with (at_builtin;go_loud (refine wpList_app rfl (.tmp 87) (.tmp 89) 37 rfl Tryz.underlying37 elem_OutR (by decide) rfl (hown7H.out.alloc _) (some ⟨W8.heap.size,0,none⟩) 1 1 [(⟨id,2,la,t0⟩:Outcome)] rfl hnwH.out ?nn ?ok ?c1 ?c2 ?c3 (k+1) ?c4 ?_))
       case nn=>intro h;cases h
       case ok=>exact fun _ _ _ _ h=>h
       case c1=>simp[maxLen];omega
       case c2=>simp;omega
       case c3=>have:=hsz73H.out;(try simp at this);simp;omega
       case c4=>simp
       intro A' c' w9 hown9 hg9 hat9 hb9;have R9:=RRH.out A' c' w9 hown9 ((hb73H.out.alloc hsz73H.out _).trans hb9);clear hg9 hat9 hb9 hown9;have R9H:=Lib.hid R9;clear R9;go_wp2;refine⟨?rel,?measure⟩
       case measure=>(simp[intOf];omega)
       case rel=>first | exact R9H.out | exact⟨rfl,R9H.out⟩
   ·obtain rfl:k=N:=by omega
    have R:=RZH.out A1 c1' wr hown hb;obtain⟨RH,hownH,hbH⟩:=hq2 R (hq2 hown (Lib.hid hb));clear R hown hb;go_wp2;exact RH.out
 ·have R:Z (.returned (.tuple #[.slice none 0 0,.int .i64 c])) w1:=by
   rw[← hZH.out];exact .inl ⟨h1,rfl,hbb⟩
  have h1':(c != 0)=true:=by simpa using h1
  clear h1;obtain⟨RH,hb1H,hx2H,hbbH⟩:=hq2 R (hq2 hb1 (hq2 hx2 (Lib.hid hbb)));clear R hb1 hx2 hbb;go_wp2;exact RH.out
end Go.Proofs.YtbnkoefljcekbaaGreatDoor.C9
namespace Go.Proofs.YtbnkoefljcekbaaGreatDoor.C9
open Go.ChangeShapes Go.WideShapes Go.Deep Go.RowKit Go.Sort
section
variable {α:Type} [Inhabited α] {R:Rd α} {e:TypeId} {w w':World} {base g n cap:Nat} {l:List α}
theorem flat_toList (l:List α):(flatK R.vals R.size l.toArray).toList=l.flatMap R.vals:=by
 apply List.ext_getElem?;intro t
 by_cases ht:t<l.length*R.size
 ·have hs:0<R.size:=by
   rcases Nat.eq_zero_or_pos R.size with h | h
   ·rw[h]at ht;simp at ht
   ·exact h
  have hi:t / R.size<l.length:=Nat.div_lt_of_lt_mul (by rw[Nat.mul_comm];exact ht);have hj:t % R.size<R.size:=Nat.mod_lt _ hs;have hte:t=t / R.size*R.size+t % R.size:=by rw[Nat.mul_comm];exact(Nat.div_add_mod t R.size).symm
  have hv:(R.vals (l[t / R.size]'hi))[t % R.size]? = some ((R.vals (l[t / R.size]'hi))[t % R.size]'(by rw[R.len];exact hj)):=List.getElem?_eq_getElem _;have hg:=flatMap_vals_get l (t / R.size) (t % R.size) _ _ (List.getElem?_eq_getElem hi) hv;rw[← hte]at hg;rw[hg];have h1:(flatK R.vals R.size l.toArray).toList[t]? = some ((flatK R.vals R.size l.toArray)[t]!):=by
   rw[Array.getElem?_toList,Array.getElem?_eq_getElem (by simpa using ht),getElem!_pos _ _ (by simpa using ht)]
  rw[h1,get_flatK _ _ _ _ (by simpa using ht)]
  congr 1
  simp only[List.getElem!_toArray];rw[getElem!_pos l _ hi,getElem!_pos (R.vals (l[t / R.size]'hi)) _ (by rw[R.len];exact hj)]
 ·rw[List.getElem?_eq_none (by simp;omega),List.getElem?_eq_none (by rw[flatMap_vals_length];omega)]
theorem holdsK_of_own (h:Own R e w base (.slice (some ⟨g,0,none⟩) n cap) l):HoldsK R.vals R.size w g 0 l.toArray:=by
 obtain⟨cur,a,b,c,d,e1,f,hl⟩:=own_open h;intro j hj;have hj':j<n*R.size:=by rw[← hl];simpa using hj
 have hnc:n*R.size≤cap*R.size:=Nat.mul_le_mul_right _ c;refine⟨?_,by simp[World.frozen?,b]⟩;have e2:(cur.toList.take (n*R.size))[j]? = (flatK R.vals R.size l.toArray).toList[j]?:=by rw[f,flat_toList]
 rw[List.getElem?_take,if_pos hj',Array.getElem?_toList,Array.getElem?_toList]at e2;simp only[World.cell?,b,Nat.zero_add,Option.isSome_none,Bool.false_eq_true,if_false];rw[e2,Array.getElem?_eq_getElem hj,getElem!_pos (flatK R.vals R.size l.toArray) j hj];rfl
theorem heap_sortK (d:Array α) (m:Nat) (os:Array Obj) (k:Nat) (hk:k<w.heap.size) (hne:k≠g):(sortWorldK R.vals R.size w g 0 m d os).heap[k]? = w.heap[k]?:=by
 unfold sortWorldK putRowK putRow mapBlock grow Sort.ahead;simp only;rw[Array.getElem?_append_left (by simpa using hk),Array.getElem?_modify,if_neg (Ne.symm hne)]
theorem grown_sortK (d:Array α) (m:Nat) (os:Array Obj):w.grownBy (sortWorldK R.vals R.size w g 0 m d os) (some g) :=
 ⟨rfl,rfl,rfl,by unfold sortWorldK putRowK putRow mapBlock grow Sort.ahead;simp,fun k hk hne=>heap_sortK d m os k hk (fun e=>hne (by rw[e]))⟩
theorem own_sortK (h:Own R e w base (.slice (some ⟨g,0,none⟩) n cap) l) (l':List α) (hl':l'.length=n) (m:Nat) (os:Array Obj) (hok:∀ x∈l',R.ok (sortWorldK R.vals R.size w g 0 m l'.toArray os) x) :
  Own R e (sortWorldK R.vals R.size w g 0 m l'.toArray os) base (.slice (some ⟨g,0,none⟩) n cap) l':=by
 obtain⟨cur,a,b,c,d,e1,f,hl⟩:=own_open h;have hnc:n*R.size≤cap*R.size:=Nat.mul_le_mul_right _ c;have hg:g<w.heap.size:=(h.1.lt g rfl).2;have hcur:(sortWorldK R.vals R.size w g 0 m l'.toArray os).heap[g]? = some (.cells (putCells id 0 (flatK R.vals R.size l'.toArray) cur) e (0,0)):=by
  unfold sortWorldK putRowK putRow mapBlock grow Sort.ahead;simp only;rw[Array.getElem?_append_left (by simpa using hg),Array.getElem?_modify,if_pos rfl,b];rfl
 refine own_make a hcur c d (by simpa[putCells]using e1) ?_ hl' hok;rw[← flat_toList];apply List.ext_getElem?;intro j;rw[List.getElem?_take,Array.getElem?_toList,Array.getElem?_toList];have hsz:(flatK R.vals R.size l'.toArray).size=n*R.size:=by simp[hl']
 by_cases hj:j<n*R.size
 ·have hjc:j<cur.size:=by omega
  simp only[if_pos hj,putCells,Array.getElem?_mapIdx,Array.getElem?_eq_getElem hjc,Option.map_some];rw[if_pos (by omega),Array.getElem?_eq_getElem (by omega),Nat.sub_zero,getElem!_pos (flatK R.vals R.size l'.toArray) j (by omega)];rfl
 ·rw[if_neg hj,Array.getElem?_eq_none (by omega)]
theorem perm_of_in {d d':Array α} (h:PermIn 0 d.size d d'):d'.toList.Perm d.toList∧d'.size=d.size:=by
 obtain⟨h1,_,h3⟩:=h;refine⟨?_,h1⟩;have e1:d.extract 0 d.size=d:=by simp
 have e2:d'.extract 0 d.size=d':=by rw[← h1];simp
 rw[e1,e2]at h3;exact h3
theorem sorted_of_in {lt:α→α→Bool} {d:Array α} {n:Nat} (hn:d.size=n) (h:SortedIn lt 0 n d):d.toList.Pairwise fun x y=>lt y x=false:=by
 rw[List.pairwise_iff_getElem];intro i j hi hj hij;have:=h i j (Nat.zero_le _) hij (by rw[← hn];simpa using hj);rw[getElem!_pos d j (by simpa using hj),getElem!_pos d i (by simpa using hi)]at this
 simpa using this
end
end Go.Proofs.YtbnkoefljcekbaaGreatDoor.C9