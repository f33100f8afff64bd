/-
 Several texts of mine as one, without what is not wanted here: XFmQ, XFmS, XPlayW.
-/
import Derived.Test.YtbnkoefljcekbaaGreatDoorPyZbC9
set_option linter.unusedVariables false
set_option linter.unusedSimpArgs false
set_option maxRecDepth 100000
set_option maxHeartbeats 8000000
namespace Go.Proofs.YtbnkoefljcekbaaGreatDoor.C9
open Go.ChangeShapes Go.WideShapes Go.Deep Go.RowKit Go.Maps
theorem FS.nums {X:FX} {s:PS} {w0:World} (h:FS X s w0):(∀ k,k<X.F.nW→X.F.wfrom k≤1000000000∧X.F.wto k≤1000000000)∧(∀ t∈X.F.lossAt,t≤1000000000)∧X.F.nX≤200∧X.F.tries≤10:=by
 obtain⟨n1,n2,n3,n4,n5,n6⟩:=h.nW;refine⟨fun k hk=>?_,fun t ht=>?_,by omega,?_⟩
 ·obtain⟨y,hy⟩:∃ y,X.x.workers.l[k]? = some y:=⟨X.x.workers.l[k]'(by omega),List.getElem?_eq_getElem _⟩;obtain⟨a,b,_⟩:=h.wk hy;rw[a,b];have:=worker_times (h.ok.wk y (List.mem_of_getElem? hy));exact⟨this.2.1,this.2.2.2⟩
 ·obtain⟨o,e⟩:=h.F;rw[e]at ht;obtain⟨l,hl,rfl⟩:=List.mem_map.1 ht;exact(h.ok.lo l hl).2.2
 ·obtain⟨o,e⟩:=h.F;rw[e];exact h.ok.tri.2
theorem FS.of {X:FX} {s0 s:PS} {w0:World} (h:FS X s0 w0) {t:Int} (hr:Room X.F s) (hf:∀ r∈s.runs,r.from_≤t) (ht:s.now=t) (h0:0≤t) (h1:t≤1000000000):FS X s w0 :=
 ⟨h.ok,h.F,h.ws,h.xs,h.ls,by omega,by omega,fun r hr'=>by
  obtain⟨a,b,c,d,e⟩:=hr.rn r hr';exact⟨a,b,c,d,e,by rw[ht];exact hf r hr'⟩⟩
theorem room_small {X:FX} {s0 s:PS} {w0:World} (hr:Room X.F s) (h:FS X s0 w0) (hF:FFine X.F):s.runs.length+s.out.length≤2200∧(∀ j,0≤s.begun j∧s.begun j≤11)∧∀ j,0≤s.lost j∧s.lost j≤11:=by
 obtain⟨_,_,a,b⟩:=h.nums;have c:=hF.tri;refine⟨?_,fun j=>by have:=hr.beg j;omega,fun j=>by have:=hr.los j;omega⟩;have h1:=hr.len;have h2:(X.F.nX:Int)*(X.F.tries+1)≤200*11:=Int.mul_le_mul (by omega) (by omega) (by omega) (by omega);omega
theorem ls_small {F:FP} {s:PS} (k:Nat) (j:Nat) (h:0≤s.lost j∧s.lost j≤11) (hl:s.runs.length≤2200):0≤(lsS F s k).lost j∧(lsS F s k).lost j≤900000:=by
 have h1:lostNow F s.now (s.runs.take k) j≤(s.runs.take k).length:=List.countP_le_length;have h2:(s.runs.take k).length≤s.runs.length:=by rw[List.length_take];omega
 show 0≤s.lost j+(lostNow F s.now (s.runs.take k) j:Nat)∧s.lost j+(lostNow F s.now (s.runs.take k) j:Nat)≤900000;omega
section
variable {X:FX} {K:KD Tryz.prog 71 Loss} {rv ov:Value} {s:PS} {w0 W W':World}
theorem FA.setNow (h:FA X K rv ov s w0 W) (u:Int):FA X K rv ov { s with now:=u } w0 (W.setCell ⟨X.f,7,none⟩ (.int .i64 u)) :=
 ⟨h.core.setNow u,own_kp h.runs (grown_setc W ⟨X.f,7,none⟩ _) (fun b hb e=>h.rap X.f h.core.memf.1 (by rw[hb];exact e.symm)) (fun x _ hx=>grun_ok_any _ _ x hx),h.rap,h.rov⟩
theorem FA.srt (h:FA X K rv ov s w0 W) {L:List RR} (hg:W.grownBy W' ov.ownBlock) (ho:Own RRun 34 W' X.base ov (L.map (toRun X.x))):FA X K rv ov { s with out:=L } w0 W':=by
 obtain⟨m1,m2,m3,m4,m5,m6,m7⟩:=h.core.memf;obtain⟨p1,p2,p3,p4,p5,p6,p7,p8,p9,p10⟩:=h.core.parts hg;have ne:∀ c∈X.bl,ov.ownBlock≠some c:=fun c hc=>h.core.apart c hc;refine⟨⟨p1 (ne _ m1),p2 (ne _ m3),p3 (ne _ m4),p4 (ne _ m5),p5 (ne _ m6),p6 (ne _ m7),p7 (ne _ m2),ho,h.core.nd,h.core.ge,p9,h.core.apart,h.core.base,p10 (fun b hb=>(h.core.out.1.lt b hb).1)⟩,?_,h.rap,h.rov⟩;exact own_kp h.runs hg (fun b hb=>h.rov b hb) (fun x _ hx=>grun_ok_any _ _ x hx)
end
def leftN (f:Nat) (w:World):Nat:=match w.cell? ⟨f,7,none⟩ with
 | some (.int .i64 t)=>(1000000001-t).toNat
 | _=>0
theorem leftN_of {f:Nat} {w:World} {t:Int} (h:w.cell? ⟨f,7,none⟩=some (.int .i64 t)):leftN f w=(1000000001-t).toNat:=by unfold leftN;rw[h]
def PlayAns (X:FX) (w0:World) (e:Ending) (w':World):Prop :=
 e = .returned (.tuple #[])∧∃ (rv ov:Value) (p':PS) (L:List RR),PTrace X.F p0 p'∧L.Perm p'.out∧(L.Pairwise fun a b=>runCmp (toRun X.x a) (toRun X.x b)≤0)∧FA X KLo rv ov { p' with out:=L } w0 w'
def PlRel (X:FX) (w0 wr:World):Prop:=∃ (s:PS) (rv ov:Value) (q:QS),FA X KLo rv ov s w0 wr∧WayP X.F s q∧0≤s.now∧s.now≤1000000000∧∀ p',PTrace X.F s p'→PTrace X.F p0 p'
theorem play_round {X:FX} {w0:World} (hS:FS X p0 w0) (hF:FFine X.F) {s:PS} {q:QS} (hW:WayP X.F s q) (h0:0≤s.now) (h1:s.now≤1000000000) :
  (FS X s w0∧(s.runs.Pairwise fun a b=>a.work=b.work→a.worker≠b.worker)∧s.out.length+s.runs.length≤900000) ∧
  (∀ rs:List RR,rs.Perm s.runs→FS X (finP X.F { s with runs:=rs }) w0∧(finP X.F { s with runs:=rs }).out.length+(finP X.F { s with runs:=rs }).runs.length≤900000 ∧
   (∀ k r,(finP X.F { s with runs:=rs }).runs[k]? = some r→0≤(lsS X.F (finP X.F { s with runs:=rs }) k).lost r.work∧(lsS X.F (finP X.F { s with runs:=rs }) k).lost r.work≤900000)) ∧
  (∀ rs:List RR,rs.Perm s.runs→FS X (loseP X.F (finP X.F { s with runs:=rs })) w0∧(loseP X.F (finP X.F { s with runs:=rs })).runs.length≤800000∧∀ j,0≤(loseP X.F (finP X.F { s with runs:=rs })).begun j∧(loseP X.F (finP X.F { s with runs:=rs })).begun j≤800000) ∧
  (∀ rs:List RR,rs.Perm s.runs→FS X (startP X.F (loseP X.F (finP X.F { s with runs:=rs }))) w0∧(startP X.F (loseP X.F (finP X.F { s with runs:=rs }))).runs.length≤800000∧∀ j,0≤(startP X.F (loseP X.F (finP X.F { s with runs:=rs }))).begun j∧(startP X.F (loseP X.F (finP X.F { s with runs:=rs }))).begun j≤800000) ∧
  (∀ rs:List RR,rs.Perm s.runs→FS X (dblP X.F (startP X.F (loseP X.F (finP X.F { s with runs:=rs })))) w0∧(dblP X.F (startP X.F (loseP X.F (finP X.F { s with runs:=rs })))).runs.length+(dblP X.F (startP X.F (loseP X.F (finP X.F { s with runs:=rs })))).out.length≤900000∧(dblP X.F (startP X.F (loseP X.F (finP X.F { s with runs:=rs })))).now=s.now ∧
   ∀ n,nextP X.F (dblP X.F (startP X.F (loseP X.F (finP X.F { s with runs:=rs }))))=some n→s.now<n∧n≤1000000000∧WayP X.F { dblP X.F (startP X.F (loseP X.F (finP X.F { s with runs:=rs }))) with now:=n } { stepQ X.F q with at_:=n }):=by
 refine⟨?_,fun rs hp=>?_,fun rs hp=>?_,fun rs hp=>?_,fun rs hp=>?_⟩
 ·obtain⟨r,f⟩:=hW.r0 hF;have:=(room_small r hS hF).1;exact⟨hS.of r f rfl h0 h1,r.two,by omega⟩
 ·obtain⟨r,f⟩:=(hW.perm hF hp).r1 hF;obtain⟨a,b,c⟩:=room_small r hS hF;exact⟨hS.of r f rfl h0 h1,by omega,fun k x _=>ls_small k x.work (c x.work) (by omega)⟩
 ·obtain⟨r,f⟩:=(hW.perm hF hp).r2 hF;obtain⟨a,b,c⟩:=room_small r hS hF;exact⟨hS.of r f rfl h0 h1,by omega,fun j=>by have:=b j;omega⟩
 ·obtain⟨r,f⟩:=(hW.perm hF hp).r3 hF;obtain⟨a,b,c⟩:=room_small r hS hF;exact⟨hS.of r f rfl h0 h1,by omega,fun j=>by have:=b j;omega⟩
 ·obtain⟨r,f⟩:=(hW.perm hF hp).r4 hF;obtain⟨a,b,c⟩:=room_small r hS hF;have hnow:(dblP X.F (startP X.F (loseP X.F (finP X.F { s with runs:=rs })))).now=s.now:=by unfold dblP;split <;> rfl
  obtain⟨u1,u2,_⟩:=hS.nums;exact⟨hS.of r f hnow h0 h1,by omega,hnow,fun n hn=>(hW.perm hF hp).next hF hn u1 u2⟩
theorem play_any {X:FX} {rv ov:Value} {w0 w:World} (hA:FA X KLo rv ov p0 w0 w) (hS:FS X p0 w0) (hF:FFine X.F) (hO:OrdX X) :
  Calls Tryz.prog 32 #[.pointer (some ⟨X.f,0,none⟩)] w (PlayAns X w0):=by
 have hst:PlRel X w0 w:=⟨p0,rv,ov,q0,hA,wayp0 hF,Int.le_refl _,by decide,fun p' h=>h⟩;clear hA;obtain⟨Z,hZ⟩:∃ Z,PlayAns X w0=Z:=⟨_,rfl⟩;rw[hZ];obtain⟨hZH,hSH,hFH,hOH,hstH⟩:=hqb hZ hS hF hO (Lib.hid hst);clear hZ hS hF hO hst;go_enter Tryz.func32,Tryz.ntmps32;go_wp2_with fail
 go_loopw [] (fun wr=>PlRel X w0 wr) (fun wr=>leftN X.f wr)
 case atStart=>exact hstH.out
 case round =>
  clear hstH;obtain⟨s,rv,ov,q,hA,hW,h0,h1,hT⟩:=hrel;have hleft:=leftN_of (hA.core.blk 7 _ rfl).1;obtain⟨⟨s1,s2,s3⟩,r1,r2,r3,r4⟩:=play_round hSH.out hFH.out hW h0 h1;have hfin:=finish_any hA s1 s2 s3;clear s1 s2 s3 hA;obtain⟨hleftH,r1H,r2H,r3H,r4H,hfinH,hWH,hTH,h0H,h1H⟩:=hq2 hleft (hqc r1 r2 r3 r4 hfin hW hT h0 (Lib.hid h1));clear hleft r1 r2 r3 r4 hfin hW hT h0 h1;go_wp2_with fail;go_at_call 69;refine hfinH.out.mono ?_;rintro e w1 ⟨rfl,rs,rv1,ov1,hp,hA1⟩;obtain⟨a1,a2,a3⟩:=r1H.out rs hp;have hlo:=lose_any hA1 a1 a2 a3;clear a1 a2 a3 hA1 hfinH r1H;obtain⟨hpH,hloH⟩:=hq2 hp (Lib.hid hlo);clear hp hlo;go_wp2_with fail;go_at_call 70;refine hloH.out.mono ?_;rintro e w2 ⟨rfl,rv2,ov2,hA2⟩;obtain⟨a1,a2,a3⟩:=r2H.out rs hpH.out;have hsta:=start_any hA2 a1 hOH.out hFH.out.lt a2 a3;clear a1 a2 a3 hA2 hloH r2H;have hstaH:=Lib.hid hsta;clear hsta;go_wp2_with fail;go_at_call 71;refine hstaH.out.mono ?_;rintro e w3 ⟨rfl,rv3,hA3⟩;obtain⟨a1,a2,a3⟩:=r3H.out rs hpH.out;have hdb:=double_any hA3 a1 a2 a3;clear a1 a2 a3 hA3 hstaH r3H;have hdbH:=Lib.hid hdb;clear hdb;go_wp2_with fail;go_at_call 72;refine hdbH.out.mono ?_;rintro e w4 ⟨rfl,rv4,hA4⟩;obtain⟨a1,a2,a3,a4⟩:=r4H.out rs hpH.out;have hps:PStep X.F s (dblP X.F (startP X.F (loseP X.F (finP X.F { s with runs:=rs })))):=⟨rs,hpH.out,rfl⟩;obtain⟨p4,hp4⟩:∃ p,dblP X.F (startP X.F (loseP X.F (finP X.F { s with runs:=rs })))=p:=⟨_,rfl⟩
  rw[hp4]at hA4 a1 a2 a3 a4 hps;have hnx:=next_any hA4 a1 (by omega);clear hdbH r4H hp4 hpH
  cases hnp:nextP X.F p4 with
  | none =>
   rw[hnp]at hnx;obtain⟨A,cap,hov⟩:=hA4.core.out.form;obtain⟨n,hnn⟩:∃ n,(p4.out.map (toRun X.x)).length=n:=⟨_,rfl⟩;rw[hnn]at hov;subst hov;have hn:n≤1000000:=by rw[← hnn,List.length_map];omega
   have R:∀ w5 w6,Below w4.heap.size w4 w5→SrtRAns X.base (.slice A n cap) X.x p4.out w5 (.returned (.tuple #[])) w6→PlayAns X w0 (.returned (.tuple #[])) w6:=by
    rintro w5 w6 hb5 ⟨_,L,hL1,hL2,hL3,hL4⟩;exact⟨rfl,rv4,_,p4,L,hTH.out _ (.last _ _ hps hnp),hL1,hL2,(hA4.below hb5).srt hL4 hL3⟩
   obtain⟨hnxH,hA4H,hnH,hpsH,hnpH,RH,a1H,a2H,a3H,a4H⟩:=hq2 hnx (hqc hA4 hn hps hnp R a1 a2 a3 (Lib.hid a4));clear hnx hA4 hn hps hnp R a1 a2 a3 a4;go_wp2_with fail;go_at_call 73;refine hnxH.out.mono ?_;rintro e w5 ⟨rfl,hb5⟩;have hsr:=sortR_any A n cap X.x p4.out w5 X.base (hA4H.out.below hb5).core.out hnH.out;have c11:=((hA4H.out.below hb5).core.blk 11 _ rfl).1;obtain⟨hb5H,hsrH⟩:=hq2 hb5 (Lib.hid hsr);clear hb5 hsr;simp only[nxV];go_wp2_with fail;go_at_call 74;refine hsrH.out.mono ?_;intro e w6 h6;have h60:e = .returned (.tuple #[]):=h6.1;subst h60;have R6:=RH.out w5 w6 hb5H.out h6;rw[hZH.out]at R6;clear h6;have R6H:=Lib.hid R6;clear R6;go_wp2
   go_end0
   exact R6H.out
  | some m =>
   rw[hnp]at hnx;obtain⟨b1,b2,b3⟩:=a4 m hnp;have R:∀ w5,Below w4.heap.size w4 w5→PlRel X w0 (w5.setCell ⟨X.f,7,none⟩ (.int .i64 m))∧leftN X.f (w5.setCell ⟨X.f,7,none⟩ (.int .i64 m))<leftN X.f wr:=by
    intro w5 hb5;have hA5:=(hA4.below hb5).setNow m;have h0:=h0H.out;refine⟨⟨_,rv4,ov2,_,hA5,b3,by show 0≤m;omega,b2,fun p' h=>hTH.out _ (.more _ _ _ _ hps hnp h)⟩,?_⟩;rw[hleftH.out,leftN_of (hA5.core.blk 7 _ rfl).1];show (1000000001-m).toNat<_;have:=h1H.out;omega
   obtain⟨hnxH,hA4H,hpsH,hnpH,RH,a1H,a2H,a3H,a4H,b1H,b2H,b3H⟩:=hq2 hnx (hq2 hA4 (hq2 hps (hqc hnp R a1 a2 a3 a4 b1 b2 (Lib.hid b3))));clear hnx hA4 hps hnp R a1 a2 a3 a4 b1 b2 b3;go_wp2_with fail;go_at_call 73;refine hnxH.out.mono ?_;rintro e w5 ⟨rfl,hb5⟩;have f7:=((hA4H.out.below hb5).core.blk 7 _ rfl).2;have c7:=((hA4H.out.below hb5).core.blk 7 _ rfl).1;obtain⟨R1,R2⟩:=RH.out w5 hb5;obtain⟨hb5H,R1H,R2H⟩:=hq2 hb5 (hq2 R1 (Lib.hid R2));clear hb5 R1 R2;simp only[nxV];go_wp2;refine⟨?rel,?measure⟩
   case measure=>exact R2H.out
   case rel=>first | exact R1H.out | exact⟨rfl,R1H.out⟩
def OpRel (l:List Loss) (b4 n:Nat) (W9:World) (i:Value) (wr:World):Prop :=
 ∃ k c:Nat,k≤n∧i = .int .i64 k∧c≤k∧TMap KLo (fun b:Bool=>Value.bool b) wr b4 (fun y=>if y∈l.take k then some true else none) c∧W9.grownBy wr (some b4)
def OpenAns (x:Farm) (w:World) (e:Ending) (w':World):Prop :=
 ∃ (X:FX) (rv ov:Value),e = .returned (.pointer (some ⟨X.f,0,none⟩))∧X.x=x∧X.F=fpOf x (ordOf X.S X.N)∧Crit (gOf x.works.l) (szOf x.works.l) X.N (gt X.S)∧FA X KLo rv ov p0 w w'
theorem open_any (x:Farm) (w:World) (hx:RFarm.ok w x) (hok:FarmOk x) :
  Calls Tryz.prog 31 #[.agg #[.slice x.workers.A x.workers.n x.workers.cap,.slice x.works.A x.works.n x.works.cap,.slice x.lost.A x.lost.n x.lost.cap,.int .i64 x.tries,.bool x.doubles]] w (OpenAns x w):=by
 obtain⟨hx0,hx1,hx2,hx3,hx4⟩:=hx;have hN:x.works.l.length=x.works.n:=hx1.1.1;have hN2:x.works.n≤200:=by have:=hok.wo.len;omega
 obtain⟨W1,hW1⟩:∃ Y,w.alloc (.cells #[.slice x.workers.A x.workers.n x.workers.cap,.slice x.works.A x.works.n x.works.cap,.slice x.lost.A x.lost.n x.lost.cap,.int .i64 x.tries,.bool x.doubles] 26)=Y:=⟨_,rfl⟩;obtain⟨xb,hxb⟩:∃ b,w.heap.size=b:=⟨_,rfl⟩;have hba:Below w.heap.size w W1:=by rw[← hW1];exact(Below.refl _ _).alloc (Nat.le_refl _) _
 have c0:W1.cell? ⟨xb,0,none⟩=some (.slice x.workers.A x.workers.n x.workers.cap):=by rw[← hW1,← hxb];exact cell_new _ _ _ 0
 have c1:W1.cell? ⟨xb,1,none⟩=some (.slice x.works.A x.works.n x.works.cap):=by rw[← hW1,← hxb];exact cell_new _ _ _ 1
 have c2:W1.cell? ⟨xb,2,none⟩=some (.slice x.lost.A x.lost.n x.lost.cap):=by rw[← hW1,← hxb];exact cell_new _ _ _ 2
 have c3:W1.cell? ⟨xb,3,none⟩=some (.int .i64 x.tries):=by rw[← hW1,← hxb];exact cell_new _ _ _ 3
 have c4:W1.cell? ⟨xb,4,none⟩=some (.bool x.doubles):=by rw[← hW1,← hxb];exact cell_new _ _ _ 4
 obtain⟨N,hNe⟩:∃ n,x.works.n=n:=⟨_,rfl⟩;obtain⟨Z,hZ⟩:∃ Z,OpenAns x w=Z:=⟨_,rfl⟩;rw[hZ];have hlt:xb<W1.heap.size:=cell?_lt c0;have hS0:(fun w':World=>w'.cell? ⟨xb,0,none⟩=some (.slice x.workers.A x.workers.n x.workers.cap)∧w'.cell? ⟨xb,1,none⟩=some (.slice x.works.A N x.works.cap)∧w'.cell? ⟨xb,2,none⟩=some (.slice x.lost.A x.lost.n x.lost.cap)∧w'.cell? ⟨xb,3,none⟩=some (.int .i64 x.tries)∧w'.cell? ⟨xb,4,none⟩=some (.bool x.doubles)) W1:=⟨c0,by rw[← hNe];exact c1,c2,c3,c4⟩;have hZH:=Lib.hid hZ;have hx0H:=Lib.hid hx0;have hx1H:=Lib.hid hx1;have hx2H:=Lib.hid hx2;have hx3H:=Lib.hid hx3;have hx4H:=Lib.hid hx4;have hokH:=Lib.hid hok;have hNH:=Lib.hid hN;have hN2H:=Lib.hid hN2;have hW1H:=Lib.hid hW1;have hxbH:=Lib.hid hxb;have hbaH:=Lib.hid hba;have hltH:=Lib.hid hlt;have hS0H:=Lib.hid hS0;have hNeH:=Lib.hid hNe;clear hZ hx0 hx1 hx2 hx3 hx4 hok hN hN2 hW1 hxb hba hlt hS0 hNe;go_enter Tryz.func31,Tryz.ntmps31;go_wp2_with fail;rw[hW1H.out,hxbH.out,hNeH.out];clear c0 c1 c2 c3 c4;refine wp_region_held_drew (S:=fun w':World=>w'.cell? ⟨xb,0,none⟩=some (.slice x.workers.A x.workers.n x.workers.cap)∧w'.cell? ⟨xb,1,none⟩=some (.slice x.works.A N x.works.cap)∧w'.cell? ⟨xb,2,none⟩=some (.slice x.lost.A x.lost.n x.lost.cap)∧w'.cell? ⟨xb,3,none⟩=some (.int .i64 x.tries)∧w'.cell? ⟨xb,4,none⟩=some (.bool x.doubles)) (by kernel_rfl) hS0H.out (fun hHeld=>?_);refine tkS [(0,10),(1,11),(2,12)] ?_;(iterate 3 (refine tkL ?_ ?_ ?_;rotate_left;(· intro w hSw;(try dsimp only at hSw);go_simp;(try with_reducible rfl));(try simp only[Act.put,tkA,tkB,tkC])));refine tkE ?_
 refine tkS [(5,15)] ?_;(iterate 1 (refine tkL ?_ ?_ ?_;rotate_left;(· intro w hSw;(try dsimp only at hSw);go_simp;(try with_reducible rfl));(try simp only[Act.put,tkA,tkB,tkC])));refine tkE ?_;refine tkS [(7,17)] ?_;(iterate 1 (refine tkL ?_ ?_ ?_;rotate_left;(· intro w hSw;(try dsimp only at hSw);go_simp;(try with_reducible rfl));(try simp only[Act.put,tkA,tkB,tkC])));refine tkE ?_;refine tkS [(9,19)] ?_;(iterate 1 (refine tkL ?_ ?_ ?_;rotate_left;(· intro w hSw;(try dsimp only at hSw);go_simp;(try with_reducible rfl));(try simp only[Act.put,tkA,tkB,tkC])));refine tkE ?_;refine tkS [(11,21)] ?_;(iterate 1 (refine tkL ?_ ?_ ?_;rotate_left;(· intro w hSw;(try dsimp only at hSw);go_simp;(try with_reducible rfl));(try simp only[Act.put,tkA,tkB,tkC])));refine tkE ?_;have hkS:∀ W W':World,Below W.heap.size W W'→(W.cell? ⟨xb,0,none⟩=some (.slice x.workers.A x.workers.n x.workers.cap)∧W.cell? ⟨xb,1,none⟩=some (.slice x.works.A N x.works.cap)∧W.cell? ⟨xb,2,none⟩=some (.slice x.lost.A x.lost.n x.lost.cap)∧W.cell? ⟨xb,3,none⟩=some (.int .i64 x.tries)∧W.cell? ⟨xb,4,none⟩=some (.bool x.doubles)) →
   (W'.cell? ⟨xb,0,none⟩=some (.slice x.workers.A x.workers.n x.workers.cap)∧W'.cell? ⟨xb,1,none⟩=some (.slice x.works.A N x.works.cap)∧W'.cell? ⟨xb,2,none⟩=some (.slice x.lost.A x.lost.n x.lost.cap)∧W'.cell? ⟨xb,3,none⟩=some (.int .i64 x.tries)∧W'.cell? ⟨xb,4,none⟩=some (.bool x.doubles)) :=
  fun W W' hb h=>⟨keepC hb h.1,keepC hb h.2.1,keepC hb h.2.2.1,keepC hb h.2.2.2.1,keepC hb h.2.2.2.2⟩
 change wpAnyH _ _ _ _ _ 9 (L6b false false false false false false) _ _
 refine pool6a (τ:=List Int) N (PJ x xb N w) _ rfl ?hR [] _ ?hJ hHeld ?H0 ?h3 ?h4 ?h6 ?h8 ?h10 ?h12
 case hR=>intro b3 b4 b6 b8 b10 b12;cases b3 <;> cases b4 <;> cases b6 <;> cases b8 <;> cases b10 <;> cases b12 <;> kernel_rfl
 case hJ=>exact⟨hbaH.out.trans (Below.refl _ _).drew,hltH.out,(fun k b e=>by cases e),(fun i j b e=>by cases e),(fun b e=>by cases e),(fun b e=>by cases e),(fun b e=>by cases e),(fun b e=>by cases e),(fun b e=>by cases e),fun b e=>by cases e⟩
 case H0 =>
  rintro o t wr ⟨e3,e4,e6,e8,e10,e12⟩ hJ hS;obtain⟨b3,g3⟩:=Option.isSome_iff_exists.1 e3;obtain⟨b4,g4⟩:=Option.isSome_iff_exists.1 e4;obtain⟨b6,g6⟩:=Option.isSome_iff_exists.1 e6;obtain⟨b8,g8⟩:=Option.isSome_iff_exists.1 e8;obtain⟨b10,g10⟩:=Option.isSome_iff_exists.1 e10;obtain⟨b12,g12⟩:=Option.isSome_iff_exists.1 e12;simp only[putAll,g3,g4,g6,g8,g10,g12,pvS,pvM,Act.put,List.setIfInBounds_toArray,List.set_cons_zero,List.set_cons_succ];have hJH:=Lib.hid hJ;have hkSH:=Lib.hid hkS;clear hJ hkS;refine wpAnyH_ready (rs:=[13]) (by kernel_rfl) (by simp) ?_;refine AllReadyH.cons (i:=13) rfl (fun K hK=>?_) AllReadyH.nil;go_simp;refine hK.out _ _ hS (fun hHeld=>?_);clear hK K
  (try simp only[Act.put,tkA,tkB,tkC])
  refine wpAnyH_ready (rs:=[14]) (by kernel_rfl) (by simp) ?_;refine AllReadyH.cons (i:=14) rfl (fun K hK=>?_) AllReadyH.nil;go_simp;refine hK.out _ _ (hkSH.out _ _ ((Below.refl _ _).alloc (Nat.le_refl _) _) hHeld) (fun hHeld=>?_);clear hK K
  (try simp only[Act.put,tkA,tkB,tkC])
  refine wpAnyH_ready (rs:=[15]) (by kernel_rfl) (by simp) ?_;refine AllReadyH.cons (i:=15) rfl (fun K hK=>?_) AllReadyH.nil;go_simp;refine hK.out _ _ hHeld (fun hHeld=>?_);clear hK K
  (try simp only[Act.put,tkA,tkB,tkC])
  refine wpAnyH_done (by kernel_rfl) ?_ _;have hJ:=hJH.out;have hnw:x.works.n=N:=hNeH.out;obtain⟨W9,hW9⟩:∃ Y,wr.alloc (.cells (FX.cells (fxOf x t N w.heap.size wr.heap.size b3 b4 b6 b8 b10 b12 0) 0 (.slice none 0 0) (.slice none 0 0)).toArray 61)=Y:=⟨_,rfl⟩;have hb9:Below wr.heap.size wr W9:=by rw[← hW9];exact(Below.refl _ _).alloc (Nat.le_refl _) _
  have hS9:=hkSH.out _ _ hb9 hS;have hend:=fun (c:Nat) (W:World) (hg:W9.grownBy W (some b4)) (hm:TMap KLo (fun b:Bool=>Value.bool b) W b4 (fun l=>if l∈x.lost.l then some true else none) c)=>open_end (xb:=xb) (w0:=w) (wr:=wr) (W:=W) (c:=c) hJ hxbH.out hnw g3 g4 g6 g8 g10 g12 hW9 hg hm;have hblk:=(blk_new wr (FX.cells (fxOf x t N w.heap.size wr.heap.size b3 b4 b6 b8 b10 b12 0) 0 (.slice none 0 0) (.slice none 0 0)) 61 6 _ rfl).1;have hm0:=((hJ.k4 b4 g4).below hb9 (hJ.ge 4 b4 g4).2);have hbW9:=hJ.bel.trans (hb9.mono hJ.bel.size);have l4:=hJ.ge 4 b4 g4;have hC9:=(hJ.k3 b3 g3).2;have hsz9:wr.heap.size<W9.heap.size:=by rw[← hW9];simp
  rw[hW9]at hblk;simp only[FX.cells,fxOf,FX.N,hnw]at hW9 hblk;rw[hW9];obtain⟨f,hf⟩:∃ f,wr.heap.size=f:=⟨_,rfl⟩;rw[hf]at hblk l4 hsz9 ⊢;have cx2:=hS9.2.2.1;have hlon:x.lost.n≤200:=by have:=hokH.out.lon;have:=hx2H.out.1.1;omega
  have hxlt:=hJ.xlt;rw[hf]at hxlt;have hst:OpRel x.lost.l b4 x.lost.n W9 (.int .i64 0) W9:=⟨0,0,Nat.zero_le _,rfl,Nat.le_refl _,by simpa using hm0,World.grownBy.refl _ _⟩;clear hHeld hS hS9 hkSH hm0 hJ hJH hb9 g3 g4 g6 g8 g10 g12 e3 e4 e6 e8 e10 e12;obtain⟨A,hA⟩:∃ A,x.lost.A=A:=⟨_,rfl⟩;obtain⟨ln,hln⟩:∃ n,x.lost.n=n:=⟨_,rfl⟩;rw[hA,hln]at cx2;rw[hln]at hst hlon;have hendH:=Lib.hid hend;have hblkH:=Lib.hid hblk;have hbW9H:=Lib.hid hbW9;have l4H:=Lib.hid l4;have hC9H:=Lib.hid hC9;have hsz9H:=Lib.hid hsz9;have hW9H:=Lib.hid hW9;have hfH:=Lib.hid hf;have hstH:=Lib.hid hst;have hxltH:=Lib.hid hxlt;have hAH:=Lib.hid hA;have hlnH:=Lib.hid hln;have hlonH:=Lib.hid hlon;have hnwH:=Lib.hid hnw;clear hend hblk hbW9 l4 hC9 hsz9 hW9 hf hst hxlt hA hln hlon hnw;go_wp2_with fail
  go_loopw [28] (fun i w5=>OpRel x.lost.l b4 ln W9 i w5) (fun i _=>ln-(intOf i).toNat)
  case atStart=>exact hstH.out
  case round =>
   clear hstH;obtain⟨k,c,hk,rfl,hc,hm,hg⟩:=hrel;have hlon:=hlonH.out;have hgs:=hg.size
   by_cases hlt:k<ln
   ·have hbel:=hbW9H.out.grown hg hbW9H.out.size (fun b hb=>by injection hb with hb;have:=l4H.out;have:=hxbH.out;omega);have hsl:=hx2H.out.1.below hbel;rw[hAH.out,hlnH.out]at hsl;obtain⟨bl,ol,hA9,_⟩:=hsl.2.1 (by omega);subst hA9;obtain⟨y,hy⟩:∃ y,x.lost.l[k]? = some y:=⟨x.lost.l[k]'(by have:=hsl.1;omega),List.getElem?_eq_getElem _⟩;obtain⟨d0,d1⟩:=cells_Loss hsl hy;have hym:=List.mem_of_getElem? hy;have hyl:=hokH.out.lo y hym;have hgood:KLo.good y:=⟨(hsl.2.2 y hym).1,by simp[Lit.wf,IntKind.min,IntKind.max,IntKind.signed,IntKind.bits];omega⟩;have f6:=hg.cell hblkH.out (by simp;have:=l4H.out;omega);obtain⟨nm,hnm⟩:∃ n,y.worker=n:=⟨_,rfl⟩;obtain⟨mt,hmt⟩:∃ n,y.at_=n:=⟨_,rfl⟩;rw[hnm]at d0;rw[hmt]at d1;have hye:y=⟨nm,mt⟩:=by rw[← hnm,← hmt]
    have hba:=(Below.refl wr.heap.size wr).alloc (Nat.le_refl _) (.cells #[.string nm,.int .i64 mt] 71);have hma:=hm.below hba hm.lt;have f6a:=keepC hba f6;have hga:W9.grownBy (wr.alloc (.cells #[.string nm,.int .i64 mt] 71)) (some b4):=grown_trans hg ⟨(below_g hba).os,(below_g hba).tape,(below_g hba).output,(below_g hba).size,fun q hq _=>(below_g hba).block q hq (by simp)⟩;have hmN:∀ q,TMap KLo (fun b:Bool=>Value.bool b) ((wr.alloc (.cells #[.string nm,.int .i64 mt] 71)).drewN q) b4 (fun y=>if y∈x.lost.l.take k then some true else none) c:=fun q=>hma.kept (row:=none) ⟨rfl,rfl,rfl,Nat.le_refl _,fun _ _ _=>rfl⟩ (by simp);have R:∀ q w6,TMap KLo (fun b:Bool=>Value.bool b) w6 b4 (upd (fun y=>if y∈x.lost.l.take k then some true else none) (⟨nm,mt⟩:Loss) true) (if ((fun y=>if y∈x.lost.l.take k then some true else none) (⟨nm,mt⟩:Loss)).isSome then c else c+1)→((wr.alloc (.cells #[.string nm,.int .i64 mt] 71)).drewN q).grownBy w6 (some b4)→OpRel x.lost.l b4 ln W9 (.int .i64 ((k:Int)+1)) w6:=by
     intro q w6 h1 h2;refine⟨k+1,_,hlt,by go_num,?_,h1.congr (fun z _=>?_),grown_trans (grown_drewN hga q) h2⟩
     ·have:=ite_le_succ ((((fun y=>if y∈x.lost.l.take k then some true else none) (⟨nm,mt⟩:Loss)).isSome)=true) c;omega
     ·rw[← hye];unfold upd;rw[List.take_add_one,hy,Option.toList_some]
      by_cases hz:z=y
      ·subst hz;simp
      ·simp[hz]
    have hcM:c<maxLen:=by unfold maxLen;omega
    rw[hye]at hgood;have hmlt:=hm.lt;clear hm hg hga hma hba hsl hbel f6;have hyH:=Lib.hid hy;have RH:=Lib.hid R;have hnmH:=Lib.hid hnm;have hmtH:=Lib.hid hmt;have hmNH:=Lib.hid hmN;have hgoodH:=Lib.hid hgood;have hyeH:=Lib.hid hye;have hymH:=Lib.hid hym;have hylH:=Lib.hid hyl;clear hy R hnm hmt hmN hgood hye hym hyl;go_wp2_with fail;obtain⟨Wa,hWa⟩:∃ Y,wr.alloc (.cells #[.string nm,.int .i64 mt] 71)=Y:=⟨_,rfl⟩;have hmD:=hmNH.out 1;have RD:=RH.out 1;have ga:=cell_new wr #[.string nm,.int .i64 mt] 71 0;have gb:=cell_new wr #[.string nm,.int .i64 mt] 71 1;rw[hWa]at ga gb f6a hmD RD ⊢
    change TMap KLo _ Wa.drew _ _ _ at hmD
    change ∀ w6,_→Wa.drew.grownBy w6 _→_ at RD
    obtain⟨w6,hrun,hm6,ht6⟩:=hmD.store (t:=57) (e:=4) Tryz.underlying57 injBool hcM hgoodH.out true;rw[show KLo.val (⟨nm,mt⟩:Loss) = .agg #[.string nm,.int .i64 mt] from rfl]at hrun;have R6:=RD w6 hm6 (World.mapTurned.grown ht6);have hq0:(fun w':World=>w'.cell? ⟨f,6,none⟩=some (.map (some b4))∧w'.cell? ⟨wr.heap.size,0,none⟩=some (.string nm)∧w'.cell? ⟨wr.heap.size,1,none⟩=some (.int .i64 mt)) Wa:=⟨f6a,ga,gb⟩;have hg6:Wa.drew.grownBy w6 (some b4):=World.mapTurned.grown ht6;have hq6:w6.cell? ⟨f,6,none⟩=some (.map (some b4))∧w6.cell? ⟨wr.heap.size,0,none⟩=some (.string nm)∧w6.cell? ⟨wr.heap.size,1,none⟩=some (.int .i64 mt):=⟨hg6.cell f6a (by simp;have:=l4H.out;omega),hg6.cell ga (by simp;omega),hg6.cell gb (by simp;omega)⟩;clear hmD RD hm6 ht6 hg6 ga gb f6a;have R6H:=Lib.hid R6;clear R6;refine wp_region_held_drew (S:=fun w':World=>w'.cell? ⟨f,6,none⟩=some (.map (some b4))∧w'.cell? ⟨wr.heap.size,0,none⟩=some (.string nm)∧w'.cell? ⟨wr.heap.size,1,none⟩=some (.int .i64 mt)) (by kernel_rfl) hq0 (fun hHeld=>?_);refine tkS [(0,32),(1,33),(2,34),(3,35),(4,36)] ?_;(iterate 5 (refine tkL ?_ ?_ ?_;rotate_left;(· intro w hSw;(try dsimp only at hSw);go_simp;(try with_reducible rfl));(try simp only[Act.put,tkA,tkB,tkC])));refine tkE ?_;refine wpAnyH_ready (rs:=[5]) (by kernel_rfl) (by simp) ?_;refine AllReadyH.cons (i:=5) rfl (fun K hK=>?_) AllReadyH.nil;go_simp
    (try simp only[hrun])
    refine hK.out _ _ hq6 (fun hHeld=>?_);clear hK K
    (try simp only[Act.put,tkA,tkB,tkC])
    refine wpAnyH_done (by kernel_rfl) ?_ _;clear hHeld hq0 hq6 hrun;go_wp2;refine⟨?rel,?measure⟩
    case measure=>(simp[intOf];omega)
    case rel=>first | exact R6H.out | exact⟨rfl,R6H.out⟩
   ·obtain rfl:k=ln:=by omega
    have hm2:=hm.congr (f':=fun l=>if l∈x.lost.l then some true else none) (fun z _=>by rw[List.take_of_length_le (by have:=hx2H.out.1.1;have:=hlnH.out;omega)]);have R:Z (.returned (.pointer (some ⟨f,0,none⟩))) wr:=by
     rw[← hZH.out];refine⟨_,_,_,?_,rfl,?_,?_,hendH.out c wr hg hm2⟩
     ·simp only[fxOf];rw[hfH.out]
     ·simp only[fxOf,FX.N,hnwH.out]
     ·simp only[fxOf,FX.N,hnwH.out];exact hC9H.out
    clear hm hm2 hg;have RH:=Lib.hid R;clear R;go_wp2;exact RH.out
 case h3 =>
  intro o t wr ho hJ hS;have hl:=hx1H.out.1.below hJ.bel;rw[hNeH.out]at hl;have hcr:=crit_any x.works.A N x.works.cap x.works.l wr hl hokH.out.wo;refine⟨_,rfl,fun K hK=>?_⟩;have hKH:=Lib.hid hK;clear hK hl;have hJH:=Lib.hid hJ;have hSH:=Lib.hid hS;have hoH:=Lib.hid ho;have hkSH:=Lib.hid hkS;clear hJ hS ho hkS;simp only[putAll,Act.put,List.setIfInBounds_toArray,List.set_cons_zero,List.set_cons_succ];go_simp;go_at_call 55;refine hcr.mono ?_;rintro e w2 ⟨B,Sx,rfl,q1,q2,_,q3,q4,q5⟩;exact hKH.out.out B Sx w2 (hJH.out.more q5 hoH.out q3 q4 (fun h=>absurd rfl h) (fun _=>⟨q1,q2⟩) (fun e=>absurd e (by decide)) (fun e=>absurd e (by decide)) (fun e=>by rcases e with e | e | e <;> exact absurd e (by decide))) (hkSH.out _ _ q5 hSH.out)
 case h4 =>
  intro o t wr ho hJ hS;have hm:=@run_makeMap Tryz.prog;have hb7:=(Below.refl wr.heap.size wr).alloc (Nat.le_refl _) (.map #[] 0);have hS7:=hkS wr _ hb7 hS;have hJ7:=hJ.more (t':=t) hb7 (k:=4) (b:=wr.heap.size) ho (Nat.le_refl _) (by simp) (fun _=>rfl) (fun e=>absurd e (by decide)) (fun _=>TMap.made _ _ _) (fun e=>absurd e (by decide)) (fun e=>by rcases e with e | e | e <;> exact absurd e (by decide));refine⟨_,rfl,fun K hK=>?_⟩;have hKH:=Lib.hid hK;clear hK hkS;have hJH:=Lib.hid hJ;have hSH:=Lib.hid hS;have hb7H:=Lib.hid hb7;have hS7H:=Lib.hid hS7;have hJ7H:=Lib.hid hJ7;have hoH:=Lib.hid ho;clear hJ hS hb7 hS7 hJ7 ho;simp only[putAll,Act.put,List.setIfInBounds_toArray,List.set_cons_zero,List.set_cons_succ];go_simp;exact hKH.out.out _ t _ hJ7H.out hS7H.out
 case h6 =>
  intro o t wr ho hJ hS;have hm:=run_makeB N (by have:=hN2H.out;have:=hNeH.out;omega);have hb7:=(Below.refl wr.heap.size wr).alloc (Nat.le_refl _) (.cells (madeB N) 4);have hS7:=hkS wr _ hb7 hS;have hJ7:=hJ.more (t':=t) hb7 (k:=6) (b:=wr.heap.size) ho (Nat.le_refl _) (by simp) (fun _=>rfl) (fun e=>absurd e (by decide)) (fun e=>absurd e (by decide)) (fun _=>BRow.made _ _) (fun e=>by rcases e with e | e | e <;> exact absurd e (by decide));refine⟨_,rfl,fun K hK=>?_⟩;have hKH:=Lib.hid hK;clear hK hkS;have hJH:=Lib.hid hJ;have hSH:=Lib.hid hS;have hb7H:=Lib.hid hb7;have hS7H:=Lib.hid hS7;have hJ7H:=Lib.hid hJ7;have hoH:=Lib.hid ho;clear hJ hS hb7 hS7 hJ7 ho;simp only[putAll,Act.put,List.setIfInBounds_toArray,List.set_cons_zero,List.set_cons_succ];go_simp;exact hKH.out.out _ t _ hJ7H.out hS7H.out
 case h8 =>
  intro o t wr ho hJ hS;have hm:=run_makeInts N (by have:=hN2H.out;have:=hNeH.out;omega);have hb7:=(Below.refl wr.heap.size wr).alloc (Nat.le_refl _) (.cells (madeI N) 3);have hS7:=hkS wr _ hb7 hS;have hJ7:=hJ.more (t':=t) hb7 (k:=8) (b:=wr.heap.size) ho (Nat.le_refl _) (by simp) (fun _=>rfl) (fun e=>absurd e (by decide)) (fun e=>absurd e (by decide)) (fun e=>absurd e (by decide)) (fun _=>irow_made _ _);refine⟨_,rfl,fun K hK=>?_⟩;have hKH:=Lib.hid hK;clear hK hkS;have hJH:=Lib.hid hJ;have hSH:=Lib.hid hS;have hb7H:=Lib.hid hb7;have hS7H:=Lib.hid hS7;have hJ7H:=Lib.hid hJ7;have hoH:=Lib.hid ho;clear hJ hS hb7 hS7 hJ7 ho;simp only[putAll,Act.put,List.setIfInBounds_toArray,List.set_cons_zero,List.set_cons_succ];go_simp;exact hKH.out.out _ t _ hJ7H.out hS7H.out
 case h10 =>
  intro o t wr ho hJ hS;have hm:=run_makeInts N (by have:=hN2H.out;have:=hNeH.out;omega);have hb7:=(Below.refl wr.heap.size wr).alloc (Nat.le_refl _) (.cells (madeI N) 3);have hS7:=hkS wr _ hb7 hS;have hJ7:=hJ.more (t':=t) hb7 (k:=10) (b:=wr.heap.size) ho (Nat.le_refl _) (by simp) (fun _=>rfl) (fun e=>absurd e (by decide)) (fun e=>absurd e (by decide)) (fun e=>absurd e (by decide)) (fun _=>irow_made _ _);refine⟨_,rfl,fun K hK=>?_⟩;have hKH:=Lib.hid hK;clear hK hkS;have hJH:=Lib.hid hJ;have hSH:=Lib.hid hS;have hb7H:=Lib.hid hb7;have hS7H:=Lib.hid hS7;have hJ7H:=Lib.hid hJ7;have hoH:=Lib.hid ho;clear hJ hS hb7 hS7 hJ7 ho;simp only[putAll,Act.put,List.setIfInBounds_toArray,List.set_cons_zero,List.set_cons_succ];go_simp;exact hKH.out.out _ t _ hJ7H.out hS7H.out
 case h12 =>
  intro o t wr ho hJ hS;have hm:=run_makeInts N (by have:=hN2H.out;have:=hNeH.out;omega);have hb7:=(Below.refl wr.heap.size wr).alloc (Nat.le_refl _) (.cells (madeI N) 3);have hS7:=hkS wr _ hb7 hS;have hJ7:=hJ.more (t':=t) hb7 (k:=12) (b:=wr.heap.size) ho (Nat.le_refl _) (by simp) (fun _=>rfl) (fun e=>absurd e (by decide)) (fun e=>absurd e (by decide)) (fun e=>absurd e (by decide)) (fun _=>irow_made _ _);refine⟨_,rfl,fun K hK=>?_⟩;have hKH:=Lib.hid hK;clear hK hkS;have hJH:=Lib.hid hJ;have hSH:=Lib.hid hS;have hb7H:=Lib.hid hb7;have hS7H:=Lib.hid hS7;have hJ7H:=Lib.hid hJ7;have hoH:=Lib.hid ho;clear hJ hS hb7 hS7 hJ7 ho;simp only[putAll,Act.put,List.setIfInBounds_toArray,List.set_cons_zero,List.set_cons_succ];go_simp;exact hKH.out.out _ t _ hJ7H.out hS7H.out
theorem farm_done {x:Farm} (h0:farmF x=0) {X:FX} (hx:X.x=x) (hF:X.F=fpOf x (ordOf X.S X.N)) (hN:X.N=x.works.l.length) (hC:Crit (gOf x.works.l) (szOf x.works.l) X.N (gt X.S)) {p':PS} (hp:PTrace X.F p0 p') :
  X.F=fpx x∧FFine X.F∧∃ q,QTrace (fpx x) q0 q∧EndP (fpx x) p' q∧∀ L:List RR,L.Perm p'.out→(L.Pairwise fun a b=>runCmp (toRun x a) (toRun x b)≤0)→Done x q L:=by
 have hok:=farmOk_of h0;rw[hN]at hC hF;have e:=fpx_of hok hC;rw[← hF]at e;obtain⟨f1,f2⟩:=fpx_fine hok hC;obtain⟨q,hq⟩:=farm_ends hok hC;rw[e]at hp ⊢;have hE:=end_of f1 f2 hp hq;exact⟨rfl,f1,q,hq,hE,fun L hL hs=>⟨h0,hE.fin,f1,hL.trans hE.out,hs⟩⟩
theorem farm_fine {x:Farm} (h0:farmF x=0) {X:FX} (hF:X.F=fpOf x (ordOf X.S X.N)) (hN:X.N=x.works.l.length) (hC:Crit (gOf x.works.l) (szOf x.works.l) X.N (gt X.S)):FFine X.F:=by
 have hok:=farmOk_of h0;rw[hN]at hC hF;have e:=fpx_of hok hC;rw[← hF]at e;rw[e];exact(fpx_fine hok hC).1
theorem fs_start {x:Farm} {w:World} (h0:farmF x=0) (hx:RFarm.ok w x) {X:FX} (hX:X.x=x) (hF:X.F=fpOf x (ordOf X.S X.N)):FS X p0 w:=by
 subst hX;obtain⟨a,b,c,_,_⟩:=hx;exact⟨farmOk_of h0,⟨_,hF⟩,a,b,c,Int.le_refl _,by decide,fun r hr=>by cases hr⟩
def PlAns (x:Farm) (c:Int) (w:World) (e:Ending) (w':World):Prop :=
 (c≠0∧e = .returned (.tuple #[.slice none 0 0,.int .i64 c])∧Below w.heap.size w w') ∨
 (c=0∧∃ (A:Option Addr) (n cap:Nat) (q:QS) (L:List RR),e = .returned (.tuple #[.slice A n cap,.int .i64 0])∧SlAt RRun w' A n (L.map (toRun x))∧QTrace (fpx x) q0 q∧Done x q L∧Below w.heap.size w w')
theorem Play_any (x:Farm) (w:World) (hx:RFarm.ok w x) (c:Int) (hF:farmF x=c) :
  Calls Tryz.prog 10 #[farmV x] w (PlAns x c w):=by
 unfold farmV;have hN:x.works.n=x.works.l.length:=hx.2.1.1.1.symm;obtain⟨W1,hW1⟩:∃ Y,w.alloc (.cells #[.slice x.workers.A x.workers.n x.workers.cap,.slice x.works.A x.works.n x.works.cap,.slice x.lost.A x.lost.n x.lost.cap,.int .i64 x.tries,.bool x.doubles] 26)=Y:=⟨_,rfl⟩;obtain⟨xb,hxb⟩:∃ b,w.heap.size=b:=⟨_,rfl⟩;have hba:Below w.heap.size w W1:=by rw[← hW1];exact(Below.refl _ _).alloc (Nat.le_refl _) _
 have hx1:=RFarm.mono _ _ _ hba hx;have c0:W1.cell? ⟨xb,0,none⟩=some (.slice x.workers.A x.workers.n x.workers.cap):=by rw[← hW1,← hxb];exact cell_new _ _ _ 0
 have c1:W1.cell? ⟨xb,1,none⟩=some (.slice x.works.A x.works.n x.works.cap):=by rw[← hW1,← hxb];exact cell_new _ _ _ 1
 have c2:W1.cell? ⟨xb,2,none⟩=some (.slice x.lost.A x.lost.n x.lost.cap):=by rw[← hW1,← hxb];exact cell_new _ _ _ 2
 have c3:W1.cell? ⟨xb,3,none⟩=some (.int .i64 x.tries):=by rw[← hW1,← hxb];exact cell_new _ _ _ 3
 have c4:W1.cell? ⟨xb,4,none⟩=some (.bool x.doubles):=by rw[← hW1,← hxb];exact cell_new _ _ _ 4
 obtain⟨Z,hZ⟩:∃ Z,PlAns x c w=Z:=⟨_,rfl⟩;rw[hZ];obtain⟨hZH,hxH,hx1H,hW1H,hxbH,hbaH,hFH,hNH⟩:=hq2 hZ (hq2 hx (hq2 hx1 (hqb hW1 hxb hba hF (Lib.hid hN))));clear hZ hx hx1 hW1 hxb hba hF hN;go_enter Tryz.func10,Tryz.ntmps10;go_wp2_with fail;rw[hW1H.out,hxbH.out];refine(farm_any x _ hx1H.out c hFH.out).mono ?_;rintro e w1 ⟨rfl,hb1⟩;have c0:=keepC hb1 c0;have c1:=keepC hb1 c1;have c2:=keepC hb1 c2;have c3:=keepC hb1 c3;have c4:=keepC hb1 c4;have hx2:=RFarm.mono _ _ _ hb1 hx1H.out;have hbb:=hbaH.out.trans (hb1.mono hbaH.out.size)
 by_cases h1:c=0
 ·subst h1;obtain⟨hb1H,hx2H,hbbH⟩:=hq2 hb1 (hq2 hx2 (Lib.hid hbb));clear hb1 hx2 hbb;go_wp2_with fail;refine(open_any x _ hx2H.out (farmOk_of hFH.out)).mono ?_;rintro e w2 ⟨X,rv,ov,rfl,hXx,hXF,hC,hA⟩;have hXN:X.N=x.works.l.length:=by unfold FX.N;rw[hXx];exact hNH.out
  have hfin:=farm_fine hFH.out hXF hXN hC;have hp:=play_any hA (fs_start hFH.out hx2H.out hXx hXF) hfin (ordX_of (by rw[hXx];exact hXF));clear c0 c1 c2 c3 c4 hA;obtain⟨hXxH,hXFH,hCH,hXNH,hfinH,hpH⟩:=hq2 hXx (hqb hXF hC hXN hfin (Lib.hid hp));clear hXx hXF hC hXN hfin hp;go_wp2_with fail;go_at_call 32;refine hpH.out.mono ?_;rintro e w3 ⟨rfl,rv2,ov2,p',L,hT,hL,hs,hA3⟩;have c11:=(hA3.core.blk 11 _ rfl).1;have hown:=hA3.core.out;have hbe:=hA3.core.bel;obtain⟨A,cap,rfl⟩:=hown.form;obtain⟨_,_,q,hq,hE,hD⟩:=farm_done hFH.out hXxH.out hXFH.out hXNH.out hCH.out hT;have hs':L.Pairwise fun a b=>runCmp (toRun x a) (toRun x b)≤0:=by rw[← hXxH.out];exact hs
  have hD2:=hD L hL hs';have hsl:=hown.slAt;rw[hXxH.out]at hsl c11;have R:Z (.returned (.tuple #[.slice A (L.map (toRun x)).length cap,.int .i64 0])) w3:=by
   rw[← hZH.out];exact .inr ⟨rfl,A,_,cap,q,L,rfl,hsl,hq,hD2,hbbH.out.trans (hbe.mono hbbH.out.size)⟩
  obtain⟨n,hn⟩:∃ n,(L.map (toRun x)).length=n:=⟨_,rfl⟩;have c11':w3.cell? ⟨X.f,11,none⟩=some (.slice A n cap):=by rw[← hn];exact c11
  rw[hn]at R;clear c11 hown hA3 hsl hs hs' hD hD2 hE hT hbe;have RH:=Lib.hid R;clear R;go_wp2;exact RH.out
 ·have R:Z (.returned (.tuple #[.slice none 0 0,.int .i64 c])) w1:=by
   rw[← hZH.out];exact .inl ⟨h1,rfl,hbb⟩
  have h1':(c != 0)=true:=by simpa using h1
  clear h1;obtain⟨RH,hb1H,hx2H,hbbH⟩:=hq2 R (hq2 hb1 (hq2 hx2 (Lib.hid hbb)));clear R hb1 hx2 hbb;go_wp2;exact RH.out
end Go.Proofs.YtbnkoefljcekbaaGreatDoor.C9