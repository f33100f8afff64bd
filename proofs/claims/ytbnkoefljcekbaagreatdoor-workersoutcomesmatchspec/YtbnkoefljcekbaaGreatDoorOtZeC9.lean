/-
 Several texts of mine as one, without what is not wanted here: XNvP, XEqO, XEqJ, XLawOut, XOutRow.
-/
import Derived.Test.YtbnkoefljcekbaaGreatDoorOtZdC9
import Derived.Test.YtbnkoefljcekbaaGreatDoorCards
import Derived.Test.YtbnkoefljcekbaaGreatDoorTie
import Derived.OpenShut
import Derived.ShutString
import Derived.ChangeOld
import Derived.Deep.DeepHandedRow
import Derived.Lib.LaidTab
import Derived.Lib.LaidU8
import Derived.JoinedCond
import Derived.Deep.CondSized
set_option linter.unusedVariables false
set_option linter.unusedSimpArgs false
set_option maxRecDepth 100000
set_option maxHeartbeats 8000000
namespace Go.Proofs.YtbnkoefljcekbaaGreatDoor.C9
open Go.ChangeShapes Go.WideShapes Go.Deep Go.RowKit Go.Maps
theorem never1_any (y:Worker) (W:World) (hy:RWorker.ok W y) (zb:Nat) (z:Work) (hz:W.cell? ⟨zb,1,none⟩=some (.slice z.needs.A z.needs.n z.needs.cap)) (hzok:RWork.ok W z) (b:Bool) (hb:fitF z.needs.l y.has.l=b) :
  Calls Tryz.prog 50 #[.agg #[.string y.name,.slice y.has.A y.has.n y.has.cap,.int .i64 y.slots,.int .i64 y.speed,.int .i64 y.from_,.int .i64 y.to_,.slice y.stands.A y.stands.n y.stands.cap],.pointer (some ⟨zb,0,none⟩)] W fun e w'=>e = .returned (.bool b)∧Below W.heap.size W w':=by
 obtain⟨W1,hW1⟩:∃ Y,W.alloc (.cells #[.string y.name,.slice y.has.A y.has.n y.has.cap,.int .i64 y.slots,.int .i64 y.speed,.int .i64 y.from_,.int .i64 y.to_,.slice y.stands.A y.stands.n y.stands.cap] 84)=Y:=⟨_,rfl⟩;have hb1:Below W.heap.size W W1:=by rw[← hW1];exact(Below.refl _ _).alloc (Nat.le_refl _) _
 have y1:(W.alloc (.cells #[.string y.name,.slice y.has.A y.has.n y.has.cap,.int .i64 y.slots,.int .i64 y.speed,.int .i64 y.from_,.int .i64 y.to_,.slice y.stands.A y.stands.n y.stands.cap] 84)).cell? ⟨W.heap.size,1,none⟩=some (.slice y.has.A y.has.n y.has.cap):=cell_new _ _ _ 1;have z1:(W.alloc (.cells #[.string y.name,.slice y.has.A y.has.n y.has.cap,.int .i64 y.slots,.int .i64 y.speed,.int .i64 y.from_,.int .i64 y.to_,.slice y.stands.A y.stands.n y.stands.cap] 84)).cell? ⟨zb,1,none⟩=some (.slice z.needs.A z.needs.n z.needs.cap):=by rw[hW1];exact keepC hb1 hz
 have hzok1:=RWork.mono _ _ _ hb1 hzok;have hyok:=RWorker.mono _ _ _ hb1 hy;have hnd:SlAt RPair W1 z.needs.A z.needs.n z.needs.l∧z.needs.n≤9223372036854775807:=⟨hzok1.2.1.1,by have h1:z.needs.n≤z.needs.cap:=hzok1.2.1.2.1;have h2:z.needs.cap≤maxLen:=hzok1.2.1.2.2.1;unfold maxLen at h2;omega⟩;have hhas:SlAt RPair W1 y.has.A y.has.n y.has.l∧y.has.n≤9223372036854775807:=⟨hyok.2.1.1,by have h1:y.has.n≤y.has.cap:=hyok.2.1.2.1;have h2:y.has.cap≤maxLen:=hyok.2.1.2.2.1;unfold maxLen at h2;omega⟩;obtain⟨nd,hnde⟩:∃ q,z.needs=q:=⟨_,rfl⟩;rw[hnde]at z1 hnd hb;clear hz;obtain⟨hyH,hzokH,hbH,hW1H,hb1H,hzok1H,hyokH,hndH,hhasH,hndeH⟩:=hq2 hy (hqc hzok hb hW1 hb1 hzok1 hyok hnd hhas (Lib.hid hnde));clear hy hzok hb hW1 hb1 hzok1 hyok hnd hhas hnde;go_enter Tryz.func50,Tryz.ntmps50;go_wp2_with fail;rw[hW1H.out];refine(fit_any nd.A nd.n nd.cap nd.l y.has.A y.has.n y.has.cap y.has.l _ hndH.out.1 hndH.out.2 hhasH.out.1 hhasH.out.2 b hbH.out).mono ?_;rintro e w6 ⟨rfl,hb6⟩;have R:=hb1H.out.trans (hb6.mono hb1H.out.size);clear y1 z1;obtain⟨RH,hb6H⟩:=hq2 R (Lib.hid hb6);clear R hb6;go_wp2;go_ret;exact⟨rfl,RH.out⟩
theorem Never_any (x:Farm) (w:World) (hx:RFarm.ok w x) (c:Int) (hF:farmF x=c) :
  Calls Tryz.prog 19 #[farmV x] w (NvAns x c w):=by
 unfold farmV;have hN:x.works.n=x.works.l.length:=hx.2.1.1.1.symm;obtain⟨W1,hW1⟩:∃ Y,w.alloc (.cells #[.slice x.workers.A x.workers.n x.workers.cap,.slice x.works.A x.works.n x.works.cap,.slice x.lost.A x.lost.n x.lost.cap,.int .i64 x.tries,.bool x.doubles] 26)=Y:=⟨_,rfl⟩;obtain⟨xb,hxb⟩:∃ b,w.heap.size=b:=⟨_,rfl⟩;have hba:Below w.heap.size w W1:=by rw[← hW1];exact(Below.refl _ _).alloc (Nat.le_refl _) _
 have hx1:=RFarm.mono _ _ _ hba hx;have c0:W1.cell? ⟨xb,0,none⟩=some (.slice x.workers.A x.workers.n x.workers.cap):=by rw[← hW1,← hxb];exact cell_new _ _ _ 0
 have c1:W1.cell? ⟨xb,1,none⟩=some (.slice x.works.A x.works.n x.works.cap):=by rw[← hW1,← hxb];exact cell_new _ _ _ 1
 have c2:W1.cell? ⟨xb,2,none⟩=some (.slice x.lost.A x.lost.n x.lost.cap):=by rw[← hW1,← hxb];exact cell_new _ _ _ 2
 have c3:W1.cell? ⟨xb,3,none⟩=some (.int .i64 x.tries):=by rw[← hW1,← hxb];exact cell_new _ _ _ 3
 have c4:W1.cell? ⟨xb,4,none⟩=some (.bool x.doubles):=by rw[← hW1,← hxb];exact cell_new _ _ _ 4
 obtain⟨Z,hZ⟩:∃ Z,NvAns x c w=Z:=⟨_,rfl⟩;rw[hZ];obtain⟨hZH,hxH,hx1H,hW1H,hxbH,hbaH,hFH,hNH⟩:=hq2 hZ (hq2 hx (hq2 hx1 (hqb hW1 hxb hba hF (Lib.hid hN))));clear hZ hx hx1 hW1 hxb hba hF hN;go_enter Tryz.func19,Tryz.ntmps19;go_wp2_with fail;rw[hW1H.out,hxbH.out];refine(farm_any x _ hx1H.out c hFH.out).mono ?_;rintro e w1 ⟨rfl,hb1⟩;have c0:=keepC hb1 c0;have c1:=keepC hb1 c1;have c2:=keepC hb1 c2;have c3:=keepC hb1 c3;have c4:=keepC hb1 c4;have hx2:=RFarm.mono _ _ _ hb1 hx1H.out;have hbb:=hbaH.out.trans (hb1.mono hbaH.out.size)
 by_cases h1:c=0
 ·subst h1;have hok:=farmOk_of hFH.out;obtain⟨N,hNe⟩:∃ n,x.works.n=n:=⟨_,rfl⟩;have hNl:x.works.l.length=N:=by rw[← hNe];exact hNH.out.symm
  have hN2:N≤200:=by have:=hok.wo.len;omega
  obtain⟨M,hMe⟩:∃ n,x.workers.n=n:=⟨_,rfl⟩;have hMl:x.workers.l.length=M:=by rw[← hMe];exact hx2.1.1.1
  have hM2:M≤50:=by have:=hok.wkn;omega
  have hxs:=hx2.2.1.1;have hws:=hx2.1.1;rw[hNe]at c1 hxs;rw[hMe]at c0 hws;obtain⟨xA,hxA⟩:∃ a,x.works.A=a:=⟨_,rfl⟩;obtain⟨xc,hxc⟩:∃ a,x.works.cap=a:=⟨_,rfl⟩;obtain⟨wA,hwA⟩:∃ a,x.workers.A=a:=⟨_,rfl⟩;obtain⟨wc,hwc⟩:∃ a,x.workers.cap=a:=⟨_,rfl⟩;rw[hxA]at c1 hxs;rw[hxc]at c1;rw[hwA]at c0 hws;rw[hwc]at c0;have hK:∀ W,Below w1.heap.size w1 W→W.cell? ⟨xb,0,none⟩=some (.slice wA M wc)∧W.cell? ⟨xb,1,none⟩=some (.slice xA N xc):=fun W h=>⟨keepC h c0,keepC h c1⟩;have RZ:∀ (A:Option Addr) (n cp:Nat) (W:World),Own RStr 9 W w1.heap.size (.slice A n cp) (nvF x.workers.l x.works.l)→Below w1.heap.size w1 W→Z (.returned (.tuple #[.slice A n cp,.int .i64 0])) W:=by
   intro A n cp W ho hb;rw[← hZH.out];refine .inr ⟨rfl,A,n,cp,rfl,ho.slAt,?_,hbb.trans (hb.mono hbb.size)⟩;have h1:_=n:=ho.len;have h2:=nv_len x.workers.l x.works.l;omega
  have hst:NvRel x N w1 (.slice none 0 0) (.int .i64 0) w1:=⟨0,0,0,none,Nat.zero_le _,rfl,rfl,(by rw[List.take_zero];exact Own.nil _ _),Below.refl _ _⟩;clear c2 c3 c4;obtain⟨hb1H,hx2H,hbbH,hokH,hxsH,hwsH,hxAH,hxcH,hwAH,hwcH,hNeH,hMeH,hNlH,hMlH,hKH,RZH,hstH⟩:=hqc hb1 hx2 hbb hok hxs hws hxA hxc (hqc hwA hwc hNe hMe hNl hMl hK RZ (Lib.hid hst));clear hb1 hx2 hbb hok hxs hws hxA hxc hwA hwc hNe hMe hNl hMl hK RZ hst;go_wp2_with fail;clear c0 c1
  go_loopw [5,16] (fun v i wr=>NvRel x N w1 v i wr) (fun _ i _=>N-(intOf i).toNat)
  case atStart=>exact hstH.out
  case round =>
   clear hstH;obtain⟨k,n,c1',A1,hk,rfl,rfl,hown,hb⟩:=hrel;have hbs:=hb.size;have hnl:(nvF x.workers.l (x.works.l.take k)).length=n:=hown.len;have hn3:n≤200:=by
    have h1:=nv_len x.workers.l (x.works.l.take k);rw[List.length_take]at h1;omega
   by_cases hlt:k<N
   ·obtain⟨c0,c1⟩:=hKH.out wr hb;have hslx:=hxsH.out.below hb;obtain⟨bx,ox,hA9,_⟩:=hslx.2.1 (by omega);rw[hA9]at hslx;obtain⟨z,hz⟩:∃ z,x.works.l[k]? = some z:=⟨x.works.l[k]'(by have:=hNlH.out;omega),List.getElem?_eq_getElem _⟩;obtain⟨e0,e1,e2,e3⟩:=cells_Work hslx hz;have hzok:=hslx.2.2 z (List.mem_of_getElem? hz);have htk:=nv_take (ws:=x.workers.l) hz;obtain⟨id,nd,sz,af⟩:=z;simp only at e0 e1 e2 e3 htk;rw[hA9];obtain⟨W5,hW5⟩:∃ Y,wr.alloc (.cells #[.string id,.slice nd.A nd.n nd.cap,.int .i64 sz,.slice af.A af.n af.cap] 86)=Y:=⟨_,rfl⟩;obtain⟨zb,hzb⟩:∃ b,wr.heap.size=b:=⟨_,rfl⟩;have hbr5:Below wr.heap.size wr W5:=by rw[← hW5];exact(Below.refl _ _).alloc (Nat.le_refl _) _
    have hb5:=hb.trans (hbr5.mono hbs);have y0:W5.cell? ⟨zb,0,none⟩=some (.string id):=by rw[← hW5,← hzb];exact cell_new _ _ _ 0
    have y1:W5.cell? ⟨zb,1,none⟩=some (.slice nd.A nd.n nd.cap):=by rw[← hW5,← hzb];exact cell_new _ _ _ 1
    have y2:W5.cell? ⟨zb,2,none⟩=some (.int .i64 sz):=by rw[← hW5,← hzb];exact cell_new _ _ _ 2
    have y3:W5.cell? ⟨zb,3,none⟩=some (.slice af.A af.n af.cap):=by rw[← hW5,← hzb];exact cell_new _ _ _ 3
    have a0:(wr.alloc (.cells #[.string id,.slice nd.A nd.n nd.cap,.int .i64 sz,.slice af.A af.n af.cap] 86)).cell? ⟨xb,0,none⟩=some (.slice wA M wc):=by rw[hW5];exact keepC hbr5 c0
    have hzok5:=RWork.mono _ _ _ hbr5 hzok;have hown5:=hown.below hbr5;have TL:∀ (W:World) (bb:Bool),(x.workers.l.any fun y=>fitF nd.l y.has.l)=bb→Below W5.heap.size W5 W →
      (bb=true→NvRel x N w1 (.slice A1 n c1') (.int .i64 ((k:Int)+1)) W) ∧
      (bb=false→W.cell? ⟨zb,0,none⟩=some (.string id)∧Own RStr 9 (W.alloc (.cells #[.string id] 9)) w1.heap.size (.slice A1 n c1') (nvF x.workers.l (x.works.l.take k))∧Below w1.heap.size w1 (W.alloc (.cells #[.string id] 9))∧SlAt RStr (W.alloc (.cells #[.string id] 9)) (some ⟨W.heap.size,0,none⟩) 1 [id] ∧
       ∀ (A':Option Addr) (c':Nat) (w8:World),Own RStr 9 w8 w1.heap.size (.slice A' (n+1) c') (nvF x.workers.l (x.works.l.take k) ++ [id])→Below w1.heap.size w1 w8→NvRel x N w1 (.slice A' (n+1) c') (.int .i64 ((k:Int)+1)) w8):=by
     intro W bb hbb2 hW;rw[hbb2]at htk;have hb3:=hb5.trans (hW.mono hb5.size);refine⟨fun e=>?_,fun e=>⟨keepC hW y0,(hown5.below hW).alloc _,hb3.alloc hb3.size _,slAt_new (R:=RStr) W 9 id hzok.1,fun A' c' w8 ho h8=>?_⟩⟩
     ·subst e;refine⟨k+1,n,c1',A1,hlt,by go_num,rfl,?_,hb3⟩;rw[htk,if_pos rfl,List.append_nil];exact hown5.below hW
     ·subst e;refine⟨k+1,n+1,c',A',hlt,by go_num,rfl,?_,h8⟩;rw[htk,if_neg (by decide)];exact ho
    obtain⟨L9,hL9⟩:∃ q,nvF x.workers.l (x.works.l.take k)=q:=⟨_,rfl⟩;have hlen9:L9.length=n:=by rw[← hL9];exact hnl
    rw[hL9]at TL;have hws5:=hwsH.out.below hb5;obtain⟨bb,hbb⟩:∃ v,(x.workers.l.any fun y=>fitF nd.l y.has.l)=v:=⟨_,rfl⟩;have hpred:PredW 50 #[.pointer (some ⟨zb,0,none⟩)] (fun y=>fitF nd.l y.has.l) x.workers.l W5:=fun W y hy hW =>
     never1_any y W ((hws5.below hW).2.2 y hy) zb ⟨id,nd,sz,af⟩ (keepC hW y1) (RWork.mono _ _ _ hW hzok5) _ rfl
    have eg:∀ args w,(callFunc 50 args).run Tryz.prog w = .ok (.enter 50 args) w:=enters_of Tryz.func50 (by kernel_rfl) rfl;have hcf:=containsFuncW_any 50 #[.pointer (some ⟨zb,0,none⟩)] eg (fun y=>fitF nd.l y.has.l) wA M wc x.workers.l W5 hws5 (by omega) hpred bb hbb;clear y0 y1 y2 y3 hnl htk;obtain⟨hzH,hownH,hbH,hzokH,hW5H,hzbH,hbr5H,hb5H,hzok5H,hown5H,TLH,hlen9H,hL9H,hws5H,hslxH,hA9H,hpredH,hbbH,hcfH⟩:=hq2 hz (hq2 hown (hqc hb hzok hW5 hzb hbr5 hb5 hzok5 hown5 (hqc TL hlen9 hL9 hws5 hslx hA9 hpred hbb (Lib.hid hcf))));clear hz hown hb hzok hW5 hzb hbr5 hb5 hzok5 hown5 TL hlen9 hL9 hws5 hslx hA9 hpred hbb hcf;go_wp2_with fail;simp only[hW5H.out,hzbH.out];refine hcfH.out.mono ?_;rintro e w6 ⟨rfl,hb6⟩;clear e0 e1 e2 e3 a0 c0 c1;obtain⟨t1,t2⟩:=TLH.out w6 bb hbbH.out hb6
    cases bb
    ·obtain⟨z0,hown7,hb7,hnew,hnx⟩:=t2 rfl;clear t1 t2;obtain⟨hb6H,hown7H,hb7H,hnewH,hnxH⟩:=hqb hb6 hown7 hb7 hnew (Lib.hid hnx);clear hb6 hown7 hb7 hnew hnx;go_wp2_with (at_builtin;go_loud (refine wpList_app rfl (.tmp 25) (.tmp 28) 43 rfl Tryz.underlying43 elem_StrR (by decide) rfl hown7H.out (some ⟨w6.heap.size,0,none⟩) 1 1 [id] rfl hnewH.out ?nn ?ok ?c1 ?c2 ?c3 (n+1) ?c4 ?_))
     case nn=>intro h;cases h
     case ok=>exact fun _ _ _ _ h=>h
     case c1=>rw[hlen9H.out];simp[maxLen] <;> omega
     case c2=>rw[hlen9H.out];omega
     case c3=>have:=hb7H.out.size;simp at this ⊢;omega
     case c4=>rw[hlen9H.out]
     intro A' c' w8 hown8 hg8 hat8 hb8;have R:=hnxH.out A' c' w8 hown8 (hb7H.out.trans hb8);clear hg8 hat8 hb8 hown8;have RH:=Lib.hid R;clear R;go_wp2;refine⟨?rel,?measure⟩
     case measure=>(simp[intOf];omega)
     case rel=>first | exact RH.out | exact⟨rfl,RH.out⟩
    ·have R:=t1 rfl;clear t1 t2;obtain⟨hb6H,RH⟩:=hq2 hb6 (Lib.hid R);clear hb6 R;go_wp2;refine⟨?rel,?measure⟩
     case measure=>(simp[intOf];omega)
     case rel=>first | exact RH.out | exact⟨rfl,RH.out⟩
   ·obtain rfl:k=N:=by omega
    have e:x.works.l.take k=x.works.l:=List.take_of_length_le (by have:=hNlH.out;omega);rw[e]at hown;have R:=RZH.out A1 n c1' wr hown hb;clear e hnl;obtain⟨RH,hownH,hbH⟩:=hq2 R (hq2 hown (Lib.hid hb));clear R hown hb;go_wp2;exact RH.out
 ·have R:Z (.returned (.tuple #[.slice none 0 0,.int .i64 c])) w1:=by
   rw[← hZH.out];exact .inl ⟨h1,rfl,hbb⟩
  have h1':(c != 0)=true:=by simpa using h1
  clear h1;obtain⟨RH,hb1H,hx2H,hbbH⟩:=hq2 R (hq2 hb1 (hq2 hx2 (Lib.hid hbb)));clear R hb1 hx2 hbb;go_wp2;exact RH.out
end Go.Proofs.YtbnkoefljcekbaaGreatDoor.C9
namespace Go.Proofs.YtbnkoefljcekbaaGreatDoor.C9
open Go.ChangeShapes Go.WideShapes Go.Deep Go.RowKit
def EqoRel (n:Nat) (w0:World) (i:Value) (wr:World):Prop:=∃ k:Nat,k≤n∧i = .int .i64 k∧Below w0.heap.size w0 wr
theorem equal_outs (A1 A2:Option Addr) (n1 c1 n2 c2:Nat) (L:List Outcome) (w:World) (h1:SlAt ROutcome w A1 n1 L) (h2:SlAt ROutcome w A2 n2 L) (hn:n1≤9223372036854775807) :
  Calls Tryz.prog 18 #[.slice A1 n1 c1,.slice A2 n2 c2] w fun e w'=>e = .returned (.bool true)∧Below w.heap.size w w':=by
 obtain rfl:n1=n2:=h1.1.symm.trans h2.1;obtain⟨h1H,h2H⟩:=hq2 h1 (Lib.hid h2);clear h1 h2;go_enter Tryz.func18,Tryz.ntmps18;go_wp2_with fail
 go_loopw [13] (fun i wr=>EqoRel n1 w i wr) (fun i _=>n1-(intOf i).toNat)
 case atStart=>exact⟨0,Nat.zero_le _,rfl,Below.refl _ _⟩
 case round =>
  obtain⟨k,hk,rfl,hb⟩:=hrel
  by_cases hlt:k<n1
  ·have g1:=h1H.out.below hb;have g2:=h2H.out.below hb;obtain⟨b1,o1,hA1,_⟩:=g1.2.1 (by omega);obtain⟨b2,o2,hA2,_⟩:=g2.2.1 (by omega);subst hA1;subst hA2;obtain⟨x,hx⟩:∃ x,L[k]? = some x:=⟨L[k]'(by have:=h1H.out.1;omega),List.getElem?_eq_getElem _⟩;obtain⟨a0,a1,a2,a3⟩:=cells_Outcome g1 hx;obtain⟨d0,d1,d2,d3⟩:=cells_Outcome g2 hx;obtain⟨xi,xw,xf,xt⟩:=x;simp only at a0 a1 a2 a3 d0 d1 d2 d3;have R:∀ nq,EqoRel n1 w (.int .i64 (k+1)) (wr.drewN nq):=fun nq=>⟨k+1,by omega,by go_num,bel_drewN hb nq⟩;obtain⟨hxH,hbH,RH,g1H,g2H⟩:=hqb hx hb R g1 (Lib.hid g2);clear hx hb R g1 g2;go_wp2_with fail
   go_quiet (fail)
   go_wp2;refine⟨?rel,?measure⟩
   case measure=>(simp[intOf];omega)
   case rel=>first | exact(RH.out _) | exact⟨rfl,(RH.out _)⟩
  ·have hbH:=Lib.hid hb;clear hb;go_wp2;go_ret;exact⟨rfl,hbH.out⟩
def EqRel (n:Nat) (w0:World) (i:Value) (wr:World):Prop:=∃ k:Nat,k≤n∧i = .int .i64 k∧Below w0.heap.size w0 wr
theorem equal_strs (A1 A2:Option Addr) (n1 c1 n2 c2:Nat) (L:List ByteArray) (w:World) (h1:SlAt RStr w A1 n1 L) (h2:SlAt RStr w A2 n2 L) (hn:n1≤9223372036854775807) :
  Calls Tryz.prog 21 #[.slice A1 n1 c1,.slice A2 n2 c2] w fun e w'=>e = .returned (.bool true)∧Below w.heap.size w w':=by
 obtain rfl:n1=n2:=h1.1.symm.trans h2.1;obtain⟨h1H,h2H⟩:=hq2 h1 (Lib.hid h2);clear h1 h2;go_enter Tryz.func21,Tryz.ntmps21;go_wp2_with fail
 go_loopw [13] (fun i wr=>EqRel n1 w i wr) (fun i _=>n1-(intOf i).toNat)
 case atStart=>exact⟨0,Nat.zero_le _,rfl,Below.refl _ _⟩
 case round =>
  obtain⟨k,hk,rfl,hb⟩:=hrel
  by_cases hlt:k<n1
  ·obtain⟨b1,o1,hA1,hd1⟩:=h1H.out.2.1 (by omega);obtain⟨b2,o2,hA2,hd2⟩:=h2H.out.2.1 (by omega);subst hA1;subst hA2;obtain⟨x,hx⟩:∃ x,L[k]? = some x:=⟨L[k]'(by have:=h1H.out.1;omega),List.getElem?_eq_getElem _⟩;have c0:wr.cell? ⟨b1,o1+k,none⟩=some (.string x):=by
    have h:=hd1 k x hx 0 (.string x) rfl;have:=(hb.cell (cell?_lt h)).trans h
    simpa[RStr]using this
   have d0:wr.cell? ⟨b2,o2+k,none⟩=some (.string x):=by
    have h:=hd2 k x hx 0 (.string x) rfl;have:=(hb.cell (cell?_lt h)).trans h
    simpa[RStr]using this
   have R:∀ nq,EqRel n1 w (.int .i64 (k+1)) (wr.drewN nq):=fun nq=>⟨k+1,by omega,by go_num,bel_drewN hb nq⟩;clear hd1 hd2;obtain⟨hxH,hbH,RH⟩:=hq2 hx (hq2 hb (Lib.hid R));clear hx hb R;go_wp2_with fail
   go_quiet (fail)
   go_wp2;refine⟨?rel,?measure⟩
   case measure=>(simp[intOf];omega)
   case rel=>first | exact(RH.out _) | exact⟨rfl,(RH.out _)⟩
  ·have hbH:=Lib.hid hb;clear hb;go_wp2;go_ret;exact⟨rfl,hbH.out⟩
end Go.Proofs.YtbnkoefljcekbaaGreatDoor.C9
namespace Go.Proofs.YtbnkoefljcekbaaGreatDoor.C9
open Go.ChangeShapes Go.WideShapes Go.Deep Go.RowKit Go.Maps
theorem both_out {x:Farm} {c:Int} {w1 w1':World} {e1:Ending} (hn0:c=0→x.works.n≤1000) (h1:OutAns x c w1 e1 w1') :
  ∃ (A1:Option Addr) (n c1:Nat),e1 = .returned (.tuple #[.slice A1 n c1,.int .i64 c])∧n≤1000∧Below w1.heap.size w1 w1'∧∀ (w2 w2':World) (e2:Ending),RoOAns x c w2 e2 w2'→Below w1'.heap.size w1' w2 →
   ∃ (A2:Option Addr) (m c2:Nat) (L:List Outcome),e2 = .returned (.tuple #[.slice A2 m c2,.int .i64 c])∧SlAt ROutcome w2' A1 n L∧SlAt ROutcome w2' A2 m L∧Below w2.heap.size w2 w2':=by
 rcases h1 with ⟨hc,r1,b1⟩ | ⟨hc,A1,c1,p,q,r1,s1,t1,d1,b1⟩
 ·refine⟨none,0,0,r1,by omega,b1,fun w2 w2' e2 h2 h12=>?_⟩
  rcases h2 with ⟨_,r2,b2⟩ | ⟨h0,_⟩
  ·exact⟨none,0,0,[],r2,(Own.nil (R:=ROutcome) (e:=42) w2' 0).slAt,(Own.nil (R:=ROutcome) (e:=42) w2' 0).slAt,b2⟩
  ·exact absurd h0 hc
 ·have hn:=hn0 hc;subst hc;refine⟨A1,x.works.n,c1,r1,hn,b1,fun w2 w2' e2 h2 h12=>?_⟩
  rcases h2 with ⟨h0,_⟩ | ⟨_,A2,c2,q',r2,s2,t2,b2⟩
  ·exact absurd rfl h0
  ·obtain rfl:=t1.uniq t2;have e:(List.range x.works.n).map (routOf x q)=(List.range x.works.n).map (outOf x p):=List.map_congr_left fun i _=>rout_same d1 i;rw[e]at s2;exact⟨A2,x.works.n,c2,_,r2,s1.below (h12.trans (b2.mono h12.size)),s2,b2⟩
theorem nv_out {x:Farm} {c:Int} {w w':World} {e:Ending} (h:NvAns x c w e w'):∃ (A:Option Addr) (n cap:Nat),e = .returned (.tuple #[.slice A n cap,.int .i64 c])∧n≤1000∧Below w.heap.size w w'∧SlAt RStr w' A n (if c=0 then nvF x.workers.l x.works.l else []):=by
 rcases h with ⟨hc,r,b⟩ | ⟨hc,A,n,cap,r,s,hn,b⟩
 ·refine⟨none,0,0,r,by omega,b,?_⟩;rw[if_neg hc];exact(Own.nil (R:=RStr) (e:=9) w' 0).slAt
 ·subst hc;refine⟨A,n,cap,r,hn,b,?_⟩;rw[if_pos rfl];exact s
theorem law_out (x:Farm) (w:World) (hx:RFarm.ok w x) :
  Calls Tryz.prog 4 #[.agg (RFarm.vals x).toArray] w fun e w'=>e = .returned (.bool true)∧Below w.heap.size w w':=by
 have hN:x.works.n=x.works.l.length:=hx.2.1.1.1.symm;simp only[RFarm];obtain⟨W1,hW1⟩:∃ Y,w.alloc (.cells #[.slice x.workers.A x.workers.n x.workers.cap,.slice x.works.A x.works.n x.works.cap,.slice x.lost.A x.lost.n x.lost.cap,.int .i64 x.tries,.bool x.doubles] 26)=Y:=⟨_,rfl⟩;obtain⟨xb,hxb⟩:∃ b,w.heap.size=b:=⟨_,rfl⟩;have hba:Below w.heap.size w W1:=by rw[← hW1];exact(Below.refl _ _).alloc (Nat.le_refl _) _
 have hx1:=RFarm.mono _ _ _ hba hx;have c0:W1.cell? ⟨xb,0,none⟩=some (.slice x.workers.A x.workers.n x.workers.cap):=by rw[← hW1,← hxb];exact cell_new _ _ _ 0
 have c1:W1.cell? ⟨xb,1,none⟩=some (.slice x.works.A x.works.n x.works.cap):=by rw[← hW1,← hxb];exact cell_new _ _ _ 1
 have c2:W1.cell? ⟨xb,2,none⟩=some (.slice x.lost.A x.lost.n x.lost.cap):=by rw[← hW1,← hxb];exact cell_new _ _ _ 2
 have c3:W1.cell? ⟨xb,3,none⟩=some (.int .i64 x.tries):=by rw[← hW1,← hxb];exact cell_new _ _ _ 3
 have c4:W1.cell? ⟨xb,4,none⟩=some (.bool x.doubles):=by rw[← hW1,← hxb];exact cell_new _ _ _ 4
 obtain⟨c,hF⟩:∃ c,farmF x=c:=⟨_,rfl⟩;have hn0:c=0→x.works.n≤1000:=fun h=>by
  have:=(farmOk_of (hF.trans h)).wo.len;omega
 obtain⟨Z,hZ⟩:∃ Z,(fun (e:Ending) (w':World)=>e = .returned (.bool true)∧Below w.heap.size w w')=Z:=⟨_,rfl⟩;rw[hZ];have RZ:∀ W,Below w.heap.size w W→Z (.returned (.bool true)) W:=fun W h=>by rw[← hZ];exact⟨rfl,h⟩
 have hne:(c != c)=false:=bne_self_eq_false c;have heq:(c==c)=true:=beq_self_eq_true c;obtain⟨hZH,RZH,hxH,hx1H,hW1H,hxbH,hbaH,hFH,hNH,hn0H⟩:=hq2 hZ (hqc RZ hx hx1 hW1 hxb hba hF hN (Lib.hid hn0));clear hZ RZ hx hx1 hW1 hxb hba hF hN hn0;go_enter Tryz.func4,Tryz.ntmps4;go_wp2_with fail;rw[hW1H.out,hxbH.out];refine(Outcomes_any x _ hx1H.out c hFH.out).mono ?_;rintro e w1 hP;obtain⟨A1,n1,cap1,rfl,hn1,hb1,hP2⟩:=both_out hn0H.out hP;clear hP;have c0:=keepC hb1 c0;have c1:=keepC hb1 c1;have c2:=keepC hb1 c2;have c3:=keepC hb1 c3;have c4:=keepC hb1 c4;have hx2:=RFarm.mono _ _ _ hb1 hx1H.out;have hbb2:=hbaH.out.trans (hb1.mono hbaH.out.size);obtain⟨hb1H,hx2H,hbb2H,hP2H⟩:=hq2 hb1 (hq2 hx2 (hq2 hbb2 (Lib.hid hP2)));clear hb1 hx2 hbb2 hP2;go_wp2_with fail;refine(rOutcomes_any x _ hx2H.out c hFH.out).mono ?_;rintro e w2 hP;obtain⟨A2,n2,cap2,L,rfl,hs1,hs2,hb2⟩:=hP2H.out _ _ _ hP (Below.refl _ _);clear hP hP2H;have c0:=keepC hb2 c0;have c1:=keepC hb2 c1;have c2:=keepC hb2 c2;have c3:=keepC hb2 c3;have c4:=keepC hb2 c4;have hx3:=RFarm.mono _ _ _ hb2 hx2H.out;have hbb3:=hbb2H.out.trans (hb2.mono hbb2H.out.size);obtain⟨hb2H,hx3H,hbb3H,hs1H,hs2H⟩:=hqb hb2 hx3 hbb3 hs1 (Lib.hid hs2);clear hb2 hx3 hbb3 hs1 hs2;go_wp2_with fail;refine(equal_outs A1 A2 n1 cap1 n2 cap2 L _ hs1H.out hs2H.out (by omega)).mono ?_;rintro e w3 ⟨rfl,hb3⟩;have c0:=keepC hb3 c0;have c1:=keepC hb3 c1;have c2:=keepC hb3 c2;have c3:=keepC hb3 c3
 have c4:=keepC hb3 c4;have hx4:=RFarm.mono _ _ _ hb3 hx3H.out;have hbb4:=hbb3H.out.trans (hb3.mono hbb3H.out.size);obtain⟨hb3H,hx4H,hbb4H⟩:=hq2 hb3 (hq2 hx4 (Lib.hid hbb4));clear hb3 hx4 hbb4;go_wp2_with fail;refine(Never_any x _ hx4H.out c hFH.out).mono ?_;rintro e w4 hP;obtain⟨A3,n3,cap3,rfl,hn3,hb4,hs3⟩:=nv_out hP;clear hP;have c0:=keepC hb4 c0;have c1:=keepC hb4 c1;have c2:=keepC hb4 c2;have c3:=keepC hb4 c3;have c4:=keepC hb4 c4;have hx5:=RFarm.mono _ _ _ hb4 hx4H.out;have hbb5:=hbb4H.out.trans (hb4.mono hbb4H.out.size);obtain⟨hb4H,hx5H,hbb5H,hs3H⟩:=hq2 hb4 (hq2 hx5 (hq2 hbb5 (Lib.hid hs3)));clear hb4 hx5 hbb5 hs3;go_wp2_with fail;refine(rNever_any x _ hx5H.out c hFH.out).mono ?_;rintro e w5 hP;obtain⟨A4,n4,cap4,rfl,hn4,hb5,hs4⟩:=nv_out hP;have hs3':=hs3H.out.below hb5;clear hP hs3H c0 c1 c2 c3 c4;have hbb6:=hbb5H.out.trans (hb5.mono hbb5H.out.size);obtain⟨hb5H,hbb6H,hs3'H,hs4H⟩:=hq2 hb5 (hq2 hbb6 (hq2 hs3' (Lib.hid hs4)));clear hb5 hbb6 hs3' hs4;go_wp2_with fail;refine(equal_strs A3 A4 n3 cap3 n4 cap4 _ w5 hs3'H.out hs4H.out (by omega)).mono ?_;rintro e w6 ⟨rfl,hb6⟩;have hbb7:=hbb6H.out.trans (hb6.mono hbb6H.out.size);obtain⟨hb6H,hbb7H⟩:=hq2 hb6 (Lib.hid hbb7);clear hb6 hbb7;go_wp2_with (go_at_call 15;refine(awake_any _).mono ?_;rintro e w9 ⟨rfl,hb9⟩);exact RZH.out _ (hbb7H.out.trans (hb9.mono hbb7H.out.size))
end Go.Proofs.YtbnkoefljcekbaaGreatDoor.C9
namespace Go.Proofs.YtbnkoefljcekbaaGreatDoor.workersOutcomesMatchSpec
open Go.Proofs.YtbnkoefljcekbaaGreatDoor.C9
open Go.ChangeShapes Go.WideShapes Go.ChangeAt Go.RowKit
open Go.ChangeMaps (open_string shut_string)
theorem own:ownKnob Tryz.prog.godebug=none:=by kernel_rfl
theorem laidOut:laidOutB Tryz.prog=true:=by kernel_rfl
theorem contract (H:Type) (enc:TypeId × Value→H) (W:World) (base:Nat) (args:Array Value) (ds gs:List (DataW H)) (before:List MemPlace)
  (hval0:∀ (j:Nat) t v,Tryz.f4.params[j]? = some t→args[j]? = some v→Value.okWide Tryz.prog W .any base t v)
  (hW:DataW.Whole enc Tryz.prog Tryz.f4.params.toList Rows.workersOutcomesMatchSpecSpec.vars false W args.toList ds gs before) :
  Calls Tryz.prog 4 args W fun e W'=>∃ v,e = .returned v∧Rows.workersOutcomesMatchSpecSpec.post enc Tryz.prog Tryz.f4 false true false false W args v W':=by
 have hval:=hval0;have hW':=hW;obtain⟨p,q,hA0,hV,rfl,hfz,hnd⟩:=hW;have hA:DataW.TrodAll enc Tryz.prog W 0 (fun _=>true) true Tryz.f4.params.toList args.toList ds p:=hA0;rw[Tryz.params4]at hA hval;obtain⟨v0,vs0,d0,ds0,p0,q0,hargs,rfl,rfl,h0,r0⟩:=trodAll_cons hA;obtain⟨rfl,rfl,rfl⟩:=trodAll_nil r0;obtain rfl:args = #[v0]:=by cases args;simp_all
 obtain⟨rfl,rfl⟩:=trodVars_none hV;have m0:=h0;have lt0:∀ x∈p0,x.block<W.heap.size:=by obtain⟨m,hm⟩:=m0;exact DataW.trod_lt m _ _ _ hm
 obtain⟨a0,rfl,k0,b0⟩:=param_struct Tryz.underlying26 opens_Farm (hval 0 26 v0 rfl rfl) h0;clear hA0 hval0;refine(law_out a0 W k0).mono fun e W' ⟨he,bel⟩=>?_;subst he;exact⟨_,rfl,_,_,_,[],_,[],hW',trodAll_mk1 (shut_bool Tryz.underlying4 _),(trodAll_cons_mk (Below.trod laidOut (by kernel_rfl) (of_decide_eq_true (by kernel_rfl)) m0 bel lt0) trodAll_mk0),rfl,bel.frame _,fun h=>by cases h⟩
noncomputable def laidWorld (os:Os):World :=
 let put (h:Array Obj) (g:Nat) (cs:Array Value):Array Obj:=h.modify g fun
  | .cells _ t frozen=>.cells cs t frozen
  | o=>o
 { World.holding Tryz.prog os ⟨#[],#[],[]⟩ with heap:=put (put (World.holding Tryz.prog os ⟨#[],#[],[]⟩).heap 1 (Lib.firstTab.map fun z=>Value.int .u8 z).toArray) 2 ((List.range 16).flatMap fun i=>[Value.int .u8 (Lib.accLo i),Value.int .u8 (Lib.accHi i)]).toArray }
theorem laid_met (os:Os):laidMet Tryz.prog Rows.workersOutcomesMatchSpecRow.laid ((laidWorld os).forCall (fun _ _=>0) ⟨#[],#[.agg #[.slice none 0 0,.slice none 0 0,.slice none 0 0,.int .i64 0,.bool false]],[]⟩).memory :=
 laidMet_of_run' 8 (by kernel_rfl) (by kernel_rfl)
theorem reads (os:Os) {H:Type} (enc:TypeId × Value→H):∃ places,DataW.whole enc Tryz.prog ((laidWorld os).forCall (fun _ _=>0) ⟨#[],#[.agg #[.slice none 0 0,.slice none 0 0,.slice none 0 0,.int .i64 0,.bool false]],[]⟩).memory Tryz.f4.params.toList Rows.workersOutcomesMatchSpecSpec.vars false (#[.agg #[.slice none 0 0,.slice none 0 0,.slice none 0 0,.int .i64 0,.bool false]]:Array Value).toList 8=some ([.agg [.nil,.nil,.nil,.lit (.int .i64 0),.lit (.bool false)]],[],places) :=
 ⟨[],by kernel_rfl⟩
theorem lifted (os:Os) (started:os.Started) (H:Type) (enc:TypeId × Value→H) (F:Stop.Interp) :
  ReturnsInHanded {} Tryz.checked os 4 .any ((OpenSpec.ofChange Rows.workersOutcomesMatchSpecSpec).preRow enc Tryz.prog Tryz.f4 Rows.workersOutcomesMatchSpecRow.domain false Rows.workersOutcomesMatchSpecRow.laid) (((OpenSpec.ofChange Rows.workersOutcomesMatchSpecSpec).at F).post enc Tryz.prog Tryz.f4 false true false false):=by
 obtain⟨places,hx⟩:=reads os enc;refine returnsInHanded_of_row (C:=Tryz.checked) (s:=(OpenSpec.ofChange Rows.workersOutcomesMatchSpecSpec)) own started (by kernel_rfl) Tryz.func4
  (witness_row_at (enc:=enc) (C:=Tryz.checked) false (laidWorld os) #[.agg #[.slice none 0 0,.slice none 0 0,.slice none 0 0,.int .i64 0,.bool false]] rfl (by kernel_rfl) (by kernel_rfl) (by kernel_rfl)
   (OpenSpec.preRow_of_cond 8 hx (by kernel_rfl) (fun k hk=>by cases hk) (by kernel_rfl) (laid_met os))) ?_
 intro W base args ds gs before hval hW _ hcond hsz hlaid hsh _;exact contract H enc W base args ds gs before hval hW
theorem said:Rows.WorkersOutcomesMatchSpecSaid :=
 OpenClaim.holds_of_cond 4 Tryz.f4 rfl rfl rfl rfl rfl rfl rfl ⟨rfl,rfl,rfl,rfl,rfl⟩ rfl rfl rfl rfl rfl (by kernel_rfl) Tryz.func4 (by kernel_rfl)
  (of_decide_eq_true (by kernel_rfl)) (by unfold Func.isWrapper;first | (rw[if_pos (by decide +kernel)];kernel_rfl) | (rw[if_neg (by decide +kernel)];exact⟨rfl,rfl⟩))
  (fun os started H enc _ F=>by rw[OpenClaim.pre_eq_preRow];exact lifted os started H enc F)
theorem plain (f : FuncId) (fn : Func) (hf : Tryz.pinned.checked.prog.funcNamed "smithyard/smithyardlaw9.WorkersOutcomesMatchSpec" = some f) (hfn : Tryz.pinned.checked.prog.funcs[f]? = some fn) :
  false = Tryz.pinned.checked.prog.looks []∧∀ (j:Nat) t,fn.params[j]? = some t→Tryz.pinned.checked.prog.wantsStandIn t=false:=by
 obtain rfl : f = 4 := Option.some.inj ((show Tryz.prog.funcNamed "smithyard/smithyardlaw9.WorkersOutcomesMatchSpec" = some 4 by kernel_rfl).symm.trans hf) |>.symm;obtain rfl:fn = Tryz.f4:=(Option.some.inj (Tryz.func4.symm.trans hfn)).symm;refine⟨by kernel_rfl,fun j t ht=>?_⟩;rw[Tryz.params4]at ht;have hm:t = 26:=by have:=Array.mem_of_getElem? ht;simpa using this
 obtain rfl:=hm
 ·exact(show Tryz.prog.wantsStandIn 26 = false by kernel_rfl)
theorem card:Rows.WorkersOutcomesMatchSpecCardSaid :=
 Claim7.holds_tied_plain_at .later [] _ _ _ _ said (fun _ h=>by cases h) (by kernel_rfl) (fun _ h=>by cases h) workersOutcomesMatchSpec_row_tie rfl ⟨rfl,rfl⟩ (by kernel_rfl) rfl plain (by kernel_rfl)
end Go.Proofs.YtbnkoefljcekbaaGreatDoor.workersOutcomesMatchSpec