/-
 Several texts of mine as one, without what is not wanted here: XRqI, XRqJ.
-/
import Derived.Test.YtbnkoefljcekbaaGreatDoorPySC9
set_option linter.unusedVariables false
set_option linter.unusedSimpArgs false
set_option maxRecDepth 100000
set_option maxHeartbeats 8000000
namespace Go.Proofs.YtbnkoefljcekbaaGreatDoor.C9
open Go.ChangeShapes Go.WideShapes Go.Deep Go.RowKit Go.Maps
theorem cell_IntQ {w:World} {b off m k:Nat} {l:List Int} {x:Int} (h:SlAt RInt w (some ⟨b,off,none⟩) m l) (hx:l[k]? = some x):w.cell? ⟨b,off+k,none⟩=some (.int .i64 x):=by
 have hk:=(List.getElem?_eq_some_iff.1 hx).1;obtain⟨b',off',hA,hc⟩:=h.2.1 (by have:=h.1;omega);obtain⟨rfl,rfl⟩:b=b'∧off=off':=by simpa using hA
 have:=hc k x hx 0 _ rfl
 simpa[RInt]using this
theorem name_some {x:Farm} (h:FarmOk x) {j:Nat} (hj:j<x.workers.l.length):(wkOf x j).name≠ByteArray.empty:=fun e=>by
 have hw:=h.wk (wkOf x j) (by rw[wkOf_get (List.getElem?_eq_getElem hj)];exact List.getElem_mem hj);have:wordB (wkOf x j).name=false:=by rw[e];decide
 unfold workerF at hw;rw[this,if_neg (by decide)]at hw
 cases hw
theorem RS.ordM {X:RX} {w0:World} (h:RS X w0):X.M=nz X.F.order:=by obtain⟨o,e,e2⟩:=h.F;rw[e2,e];rfl
theorem RS.tries {X:RX} {w0:World} (h:RS X w0):X.F.tries=X.x.tries:=by obtain⟨o,e,e2⟩:=h.F;rw[e];rfl
theorem RS.doubles {X:RX} {w0:World} (h:RS X w0):X.F.doubles=X.x.doubles:=by obtain⟨o,e,e2⟩:=h.F;rw[e];rfl
theorem RN.pre {X:RX} {q q':QS} (h:RN X q') (hp:q.runs <+: q'.runs) (ha:q.at_=q'.at_):RN X q :=
 ⟨fun r hr=>h.nm r (hp.subset hr),Nat.le_trans hp.length_le h.len,by rw[ha];exact h.t0,by rw[ha];exact h.t1,fun r hr=>h.fr r (hp.subset hr)⟩
def SaRel (X:RX) (q:QS) (n:Nat) (w0:World) (i:Value) (wr:World):Prop:=∃ (m:Nat) (rv:Value),m≤n∧i = .int .i64 m∧QA X rv (strTo X.F q m) w0 wr
def CtS (W5 W:World) (a0 a1 a2 a3 a4 a5 a6 a7 a8:Addr) (v0 v1 v2 v3 v4 v5 v6 v7 v8:Value):Prop:=Below W5.heap.size W5 W∧W.cell? a0=some v0∧W.cell? a1=some v1∧W.cell? a2=some v2∧W.cell? a3=some v3∧W.cell? a4=some v4∧W.cell? a5=some v5∧W.cell? a6=some v6∧W.cell? a7=some v7∧W.cell? a8=some v8
theorem CtS.keep {W5 W W':World} {a0 a1 a2 a3 a4 a5 a6 a7 a8:Addr} {v0 v1 v2 v3 v4 v5 v6 v7 v8:Value} (h:CtS W5 W a0 a1 a2 a3 a4 a5 a6 a7 a8 v0 v1 v2 v3 v4 v5 v6 v7 v8) (hb:Below W.heap.size W W'):CtS W5 W' a0 a1 a2 a3 a4 a5 a6 a7 a8 v0 v1 v2 v3 v4 v5 v6 v7 v8:=by
 obtain⟨h1,h2,h3,h4,h5,h6,h7,h8,h9,h10⟩:=h;exact⟨h1.trans (hb.mono h1.size),keepC hb h2,keepC hb h3,keepC hb h4,keepC hb h5,keepC hb h6,keepC hb h7,keepC hb h8,keepC hb h9,keepC hb h10⟩
theorem gix_zero {R:List RR} {i:Nat}:(((nz (gix R i)).length:Int)==0) = !runsAny R i:=by
 have h:(nz (gix R i)).length=(gix R i).length:=by unfold nz;rw[List.length_map]
 rw[h]
 cases hr:runsAny R i
 ·rw[gix_nil.2 hr];rfl
 ·have:(gix R i).length≠0:=fun e=>by rw[gix_nil.1 e]at hr;cases hr
  simp;exact fun e=>this (by rw[e];rfl)
theorem rbeginAll_any {X:RX} {rv:Value} {q:QS} {w0 W:World} (hA:QA X rv q w0 W) (hS:RS X w0) (hNs:RN X (startQ X.F q)) (hord:∀ i∈X.F.order,i<X.x.works.l.length) :
  Calls Tryz.prog 78 #[.pointer (some ⟨X.f,0,none⟩)] W (BgAns X (startQ X.F q) w0):=by
 have hM:=hS.ordM;have hXN:=hS.N;have hwl:=hS.ok.wo.len;have hxn:X.x.works.l.length=X.x.works.n:=hS.fx.2.1.1.1;obtain⟨n,hn⟩:∃ n,X.N=n:=⟨_,rfl⟩;rw[hn]at hXN;have hn2:n≤200:=by omega
 have hol:X.F.order.length=n:=by
  have:X.M.length=X.N:=by have:=hA.ord;unfold RX.ov at this;exact this.len
  rw[hM]at this;unfold nz at this;rw[List.length_map]at this;omega
 have b5:W.cell? ⟨X.f,5,none⟩=some (.slice X.oA n X.oc):=by rw[← hn];exact(hA.blk 5 _ rfl).1
 have hst:SaRel X q n w0 (.int .i64 0) W:=⟨0,rv,Nat.zero_le _,rfl,hA⟩;obtain⟨Z,hZ⟩:∃ Z,BgAns X (startQ X.F q) w0=Z:=⟨_,rfl⟩;have RZ:∀ W' rv',QA X rv' (strTo X.F q n) w0 W'→Z (.returned (.tuple #[])) W':=fun W' rv' h=>by
  rw[← hZ];rw[strTo_all X.F q (by omega)]at h;exact⟨rfl,rv',h⟩
 rw[hZ];obtain⟨hAH,hSH,hNsH,hordH,hMH,hxnH,hnH,hXNH,holH,hstH,hZH,RZH⟩:=hq2 hA (hq2 hS (hq2 hNs (hqc hord hM hxn hn hXN hol hst hZ (Lib.hid RZ))));clear hA hS hNs hord hM hxn hn hXN hol hst hZ RZ;go_enter Tryz.func78,Tryz.ntmps78;go_wp2_with fail;clear b5
 go_loopw [10] (fun i wr=>SaRel X q n w0 i wr) (fun i _=>n-(intOf i).toNat)
 case atStart=>exact hstH.out
 case round =>
  clear hstH;obtain⟨m,rv,hm,rfl,hA⟩:=hrel
  by_cases hlt:m<n
  ·obtain⟨i,hi⟩:∃ i,X.F.order[m]? = some i:=⟨X.F.order[m]'(by have:=holH.out;omega),List.getElem?_eq_getElem _⟩;have hil:i<X.x.works.l.length:=hordH.out i (List.mem_of_getElem? hi);have hiN:i<n:=by rw[hXNH.out];exact hil
   have hos:SlAt RInt wr X.oA n X.M:=by rw[← hnH.out];exact hA.ord.slAt
   obtain⟨ob,oo,hOA,_⟩:=hos.2.1 (by omega);rw[hOA]at hos ⊢;have c0:=cell_IntQ hos (k:=m) (x:=(i:Int)) (by rw[hMH.out];unfold nz;rw[List.getElem?_map,hi];rfl);obtain⟨z,hz⟩:∃ z,X.x.works.l[i]? = some z:=⟨X.x.works.l[i]'hil,List.getElem?_eq_getElem _⟩;have hzw:woOf X.x i=z:=woOf_get hz;obtain⟨bx,ox,hXA,_⟩:=(hSH.out.fx.2.1.1).2.1 (by have:=hxnH.out;omega);have hxs:=hSH.out.fx.2.1.1.below hA.bel;rw[hXA]at hxs;obtain⟨x0,x1,x2,x3⟩:=cells_Work hxs hz;have b1:=(hA.blk 1 _ rfl).1;rw[hXA]at b1;have hNm:=hNsH.out.pre (strTo_pre X.F q m) rfl;have hnx:=strTo_next (q:=q) hi;have hcs:canS X.F q.done q.lost (strTo X.F q m).runs i=(!q.done i&&(decide (q.lost i<X.x.tries)&&(!runsAny (strTo X.F q m).runs i&&readyB X.F q.done i))):=by unfold canS;rw[hSH.out.tries]
   have hready:=fun b (hb:readyB X.F q.done i=b) (V:World) (hV:QA X rv (strTo X.F q m) w0 V)=>rready_any hV hSH.out hz b hb;have hgoing:=fun (V:World) (hV:QA X rv (strTo X.F q m) w0 V)=>going_any hV hSH.out hNm hil;have hbegin:=fun (V:World) (hV:QA X rv (strTo X.F q m) w0 V)=>rbegin_any hV hSH.out hNm hz none ⟨#[]⟩ (fun j hj=>⟨fun e=>absurd e (name_some hSH.out.ok hj),fun e=>by cases e⟩);rw[hzw]at hgoing;unfold workV at hready hbegin;obtain⟨zi,zn,zs,za⟩:=z;simp only at x0 x1 x2 x3 hready hgoing hbegin;obtain⟨W5,hW5⟩:∃ Y,wr.alloc (.cells #[.string zi,.slice zn.A zn.n zn.cap,.int .i64 zs,.slice za.A za.n za.cap] 86)=Y:=⟨_,rfl⟩;obtain⟨sb,hsb⟩:∃ b,wr.heap.size=b:=⟨_,rfl⟩;have hb5:Below wr.heap.size wr W5:=by rw[← hW5];exact(Below.refl _ _).alloc (Nat.le_refl _) _
   have hB5:Blk W5 sb [.string zi,.slice zn.A zn.n zn.cap,.int .i64 zs,.slice za.A za.n za.cap]:=by rw[← hW5,← hsb];exact blk_new wr [.string zi,.slice zn.A zn.n zn.cap,.int .i64 zs,.slice za.A za.n za.cap] 86
   have hA5:=hA.below hb5;obtain⟨dn,hdn⟩:∃ b,q.done i=b:=⟨_,rfl⟩;obtain⟨lv,hlv⟩:∃ b,q.lost i=b:=⟨_,rfl⟩;obtain⟨tr,htr⟩:∃ b,X.x.tries=b:=⟨_,rfl⟩;obtain⟨ra,hra⟩:∃ b,runsAny (strTo X.F q m).runs i=b:=⟨_,rfl⟩;obtain⟨rd,hrd⟩:∃ b,readyB X.F q.done i=b:=⟨_,rfl⟩;obtain⟨N,hN⟩:∃ b,n=b:=⟨_,rfl⟩;have hH0:CtS W5 W5 ⟨X.f,8,none⟩ ⟨X.db,i,none⟩ ⟨X.f,9,none⟩ ⟨X.lb,i,none⟩ ⟨X.f,3,none⟩ ⟨sb,0,none⟩ ⟨sb,1,none⟩ ⟨sb,2,none⟩ ⟨sb,3,none⟩ (.slice (some ⟨X.db,0,none⟩) N N) (.bool dn) (.slice (some ⟨X.lb,0,none⟩) N N) (.int .i64 lv) (.int .i64 tr) (.string zi) (.slice zn.A zn.n zn.cap) (.int .i64 zs) (.slice za.A za.n za.cap):=by
    have d8:=(hA5.blk 8 _ rfl).1;have d9:=(hA5.blk 9 _ rfl).1;have d3:=(hA5.blk 3 _ rfl).1;rw[hnH.out,hN]at d8 d9;rw[htr]at d3;have e1:=(hA5.done i (by rw[hnH.out];exact hiN)).1;have e2:=(hA5.lost i (by rw[hnH.out];exact hiN)).1;have e1':W5.cell? ⟨X.db,i,none⟩=some (.bool dn):=by rw[← hdn];exact e1
    have e2':W5.cell? ⟨X.lb,i,none⟩=some (.int .i64 lv):=by rw[← hlv];exact e2
    exact⟨Below.refl _ _,d8,e1',d9,e2',d3,(hB5 0 _ rfl).1,(hB5 1 _ rfl).1,(hB5 2 _ rfl).1,(hB5 3 _ rfl).1⟩
   rw[hdn,hlv,htr,hra,hrd]at hcs;have hiN2:i<N:=by omega
   have hiNi:(i:Int)<(N:Int):=by omega
   have hno:canS X.F q.done q.lost (strTo X.F q m).runs i=false→∀ V,Below W5.heap.size W5 V→SaRel X q n w0 (.int .i64 ((m:Int)+1)) V:=fun hc V hV =>
    ⟨m+1,rv,hlt,by go_num,by
     rw[hnx];unfold strtR;rw[hc,if_neg (by decide)];exact hA5.below hV⟩
   have hyes:canS X.F q.done q.lost (strTo X.F q m).runs i=true→∀ V rv',QA X rv' (begQ X.F (strTo X.F q m) i none) w0 V→SaRel X q n w0 (.int .i64 ((m:Int)+1)) V:=fun hc V rv' hV =>
    ⟨m+1,rv',hlt,by go_num,by
     rw[hnx];unfold strtR;rw[hc,if_pos rfl];exact hV⟩
   have hgoing:=fun (V:World) (hV:Below W5.heap.size W5 V)=>hgoing V (hA5.below hV);have hready:=fun (V:World) (hV:Below W5.heap.size W5 V)=>hready rd hrd V (hA5.below hV);have hbegin:=fun (V:World) (hV:Below W5.heap.size W5 V)=>hbegin V (hA5.below hV);rw[hcs]at hno hyes;have hl1:∀ b,decide (lv<tr)=b→True:=fun _ _=>trivial;clear hl1 hcs hnx hos;have hxnl:=hxnH.out;have hixn:i<X.x.works.n:=by omega
   have hixi:(i:Int)<(X.x.works.n:Int):=by omega
   clear hxnl;obtain⟨hAH,hiH,hilH,hiNH,hzH,hzwH,hxsH,hXAH,hNmH,hreadyH,hgoingH,hbeginH,hW5H,hsbH,hb5H,hB5H,hA5H,hdnH,hlvH,htrH,hraH,hrdH,hNH,hH0H,hnoH,hyesH,hOAH⟩:=hq2 hA (hq2 hi (hqc hil hiN hz hzw hxs hXA hNm hready (hqc hgoing hbegin hW5 hsb hb5 hB5 hA5 hdn (hqc hlv htr hra hrd hN hH0 hno hyes (Lib.hid hOA)))));clear hA hi hil hiN hz hzw hxs hXA hNm hready hgoing hbegin hW5 hsb hb5 hB5 hA5 hdn hlv htr hra hrd hN hH0 hno hyes hOA
   cases dn
   ·by_cases hl:lv<tr
    ·have hl':decide (lv<tr)=true:=by simpa using hl
     cases ra
     ·go_wp2_with fail;simp only[hW5H.out,hsbH.out];clear c0 x0 x1 x2 x3 b1;refine wp_region_held_drew (S:=fun V:World=>Below W5.heap.size W5 V∧V.cell? ⟨X.f,8,none⟩=some (.slice (some ⟨X.db,0,none⟩) N N)∧V.cell? ⟨X.db,i,none⟩=some (.bool false)∧V.cell? ⟨X.f,9,none⟩=some (.slice (some ⟨X.lb,0,none⟩) N N)∧V.cell? ⟨X.lb,i,none⟩=some (.int .i64 lv)∧V.cell? ⟨X.f,3,none⟩=some (.int .i64 tr)∧V.cell? ⟨sb,0,none⟩=some (.string zi)∧V.cell? ⟨sb,1,none⟩=some (.slice zn.A zn.n zn.cap)∧V.cell? ⟨sb,2,none⟩=some (.int .i64 zs)∧V.cell? ⟨sb,3,none⟩=some (.slice za.A za.n za.cap)) (by kernel_rfl) (CtS.keep hH0H.out (Below.refl _ _).drew) (fun hHeld=>?_);refine tkS [(0,22),(1,23),(2,24),(3,25),(4,26),(5,27),(6,28),(7,29),(8,30),(9,31),(10,32),(11,33),(12,34),(13,35),(14,36),(15,37),(16,38),(17,39),(18,40),(19,41),(20,42),(21,43),(22,44),(23,45),(24,46),(25,47),(26,48)] ?_;(iterate 27 (refine tkL ?_ ?_ ?_;rotate_left;(· intro w hSw;(try dsimp only at hSw);go_simp;(try with_reducible rfl));(try simp only[Act.put,tkA,tkB,tkC])));refine tkE ?_;refine wpAnyH_ready (rs:=[27]) (by kernel_rfl) (by simp) ?_;refine AllReadyH.cons (i:=27) rfl (fun K hK=>?_) AllReadyH.nil;go_simp;go_at_call 126;refine(hgoingH.out _ hHeld.1).mono ?_;rintro e w6 ⟨A6,n6,c6,rfl,hown6,hn6,hb6⟩;have hn6l:(nz (gix (strTo X.F q m).runs i)).length=n6:=hown6.len;have hn6v:((n6:Int)==0)=true:=by rw[← hn6l];exact gix_zero.trans (by rw[hraH.out];rfl)
      have hHeld:=CtS.keep hHeld hb6;clear hb6 hown6;refine hK.out _ _ hHeld (fun hHeld=>?_);clear hK K
      (try simp only[Act.put,tkA,tkB,tkC])
      refine tkS [(28,50),(29,51),(30,52),(31,53),(32,54),(33,55)] ?_;(iterate 6 (refine tkL ?_ ?_ ?_;rotate_left;(· intro w hSw;(try dsimp only at hSw);go_simp;(try with_reducible rfl));(try simp only[Act.put,tkA,tkB,tkC])));refine tkE ?_;refine wpAnyH_ready (rs:=[34]) (by kernel_rfl) (by simp) ?_;refine AllReadyH.cons (i:=34) rfl (fun K hK=>?_) AllReadyH.nil;go_simp;go_at_call 130;refine(hreadyH.out _ hHeld.1).mono ?_;rintro e w7 ⟨rfl,hb7⟩;have hHeld:=CtS.keep hHeld hb7;clear hb7;refine hK.out _ _ hHeld (fun hHeld=>?_);clear hK K
      (try simp only[Act.put,tkA,tkB,tkC])
      refine tkS [(35,57)] ?_;(iterate 1 (refine tkL ?_ ?_ ?_;rotate_left;(· intro w hSw;(try dsimp only at hSw);go_simp;(try with_reducible rfl));(try simp only[Act.put,tkA,tkB,tkC])));refine tkE ?_;refine wpAnyH_done (by kernel_rfl) ?_ _
      cases rd
      ·have hno:=hnoH.out (by rw[hl'];rfl);clear hnoH hl hl';have R:=hno _ hHeld.1;clear hHeld hno;have RH:=Lib.hid R;clear R;go_wp2;refine⟨?rel,?measure⟩
       case measure=>(simp[intOf];omega)
       case rel=>first | exact RH.out | exact⟨rfl,RH.out⟩
      ·have hyes:=hyesH.out (by rw[hl'];rfl);clear hyesH hl hl';have hcall:=hbeginH.out _ hHeld.1;obtain⟨_,u0,u1,u2,u3,u4,u5,u6,u7,u8⟩:=hHeld;clear u0 u1 u2 u3 u4;obtain⟨hcallH,hyesH⟩:=hq2 hcall (Lib.hid hyes);clear hcall hyes;go_wp2_with fail;refine hcallH.out.mono ?_;rintro e w8 ⟨rfl,rv8,hA8⟩;have R:=hyesH.out _ rv8 hA8;clear hA8 u5 u6 u7 u8;have RH:=Lib.hid R;clear R;go_wp2;refine⟨?rel,?measure⟩
       case measure=>(simp[intOf];omega)
       case rel=>first | exact RH.out | exact⟨rfl,RH.out⟩
     ·have hno:=hnoH.out (by rw[hl'];rfl);clear hnoH;have hnoH:=Lib.hid hno;clear hno;go_wp2_with fail;simp only[hW5H.out,hsbH.out];clear c0 x0 x1 x2 x3 b1;refine wp_region_held_drew (S:=fun V:World=>Below W5.heap.size W5 V∧V.cell? ⟨X.f,8,none⟩=some (.slice (some ⟨X.db,0,none⟩) N N)∧V.cell? ⟨X.db,i,none⟩=some (.bool false)∧V.cell? ⟨X.f,9,none⟩=some (.slice (some ⟨X.lb,0,none⟩) N N)∧V.cell? ⟨X.lb,i,none⟩=some (.int .i64 lv)∧V.cell? ⟨X.f,3,none⟩=some (.int .i64 tr)∧V.cell? ⟨sb,0,none⟩=some (.string zi)∧V.cell? ⟨sb,1,none⟩=some (.slice zn.A zn.n zn.cap)∧V.cell? ⟨sb,2,none⟩=some (.int .i64 zs)∧V.cell? ⟨sb,3,none⟩=some (.slice za.A za.n za.cap)) (by kernel_rfl) (CtS.keep hH0H.out (Below.refl _ _).drew) (fun hHeld=>?_);refine tkS [(0,22),(1,23),(2,24),(3,25),(4,26),(5,27),(6,28),(7,29),(8,30),(9,31),(10,32),(11,33),(12,34),(13,35),(14,36),(15,37),(16,38),(17,39),(18,40),(19,41),(20,42),(21,43),(22,44),(23,45),(24,46),(25,47),(26,48)] ?_;(iterate 27 (refine tkL ?_ ?_ ?_;rotate_left;(· intro w hSw;(try dsimp only at hSw);go_simp;(try with_reducible rfl));(try simp only[Act.put,tkA,tkB,tkC])));refine tkE ?_;refine wpAnyH_ready (rs:=[27]) (by kernel_rfl) (by simp) ?_;refine AllReadyH.cons (i:=27) rfl (fun K hK=>?_) AllReadyH.nil;go_simp;go_at_call 126;refine(hgoingH.out _ hHeld.1).mono ?_;rintro e w6 ⟨A6,n6,c6,rfl,hown6,hn6,hb6⟩;have hn6l:(nz (gix (strTo X.F q m).runs i)).length=n6:=hown6.len;have hn6v:((n6:Int)==0)=false:=by rw[← hn6l];exact gix_zero.trans (by rw[hraH.out];rfl)
      have hHeld:=CtS.keep hHeld hb6;clear hb6 hown6;refine hK.out _ _ hHeld (fun hHeld=>?_);clear hK K
      (try simp only[Act.put,tkA,tkB,tkC])
      refine tkS [(28,50),(29,51),(30,52),(31,53)] ?_;(iterate 4 (refine tkL ?_ ?_ ?_;rotate_left;(· intro w hSw;(try dsimp only at hSw);go_simp;(try with_reducible rfl));(try simp only[Act.put,tkA,tkB,tkC])));refine tkE ?_;refine tkS [(32,54),(33,55),(34,56)] ?_;(iterate 3 (refine skL ?_;(try simp only[Act.put,tkA,tkB,tkC])));refine tkE ?_;refine tkS [(35,57)] ?_;(iterate 1 (refine tkL ?_ ?_ ?_;rotate_left;(· intro w hSw;(try dsimp only at hSw);go_simp;(try with_reducible rfl));(try simp only[Act.put,tkA,tkB,tkC])));refine tkE ?_;refine wpAnyH_done (by kernel_rfl) ?_ _;have R:=hnoH.out _ hHeld.1;clear hHeld;have RH:=Lib.hid R;clear R;go_wp2;refine⟨?rel,?measure⟩
      case measure=>(simp[intOf];omega)
      case rel=>first | exact RH.out | exact⟨rfl,RH.out⟩
    ·have hl':decide (lv<tr)=false:=by simpa using hl
     have hno:=hnoH.out (by rw[hl'];rfl);clear hnoH;have hnoH:=Lib.hid hno;clear hno;go_wp2_with fail;simp only[hW5H.out,hsbH.out];clear c0 x0 x1 x2 x3 b1;refine wp_region_held_drew (S:=fun V:World=>Below W5.heap.size W5 V∧V.cell? ⟨X.f,8,none⟩=some (.slice (some ⟨X.db,0,none⟩) N N)∧V.cell? ⟨X.db,i,none⟩=some (.bool false)∧V.cell? ⟨X.f,9,none⟩=some (.slice (some ⟨X.lb,0,none⟩) N N)∧V.cell? ⟨X.lb,i,none⟩=some (.int .i64 lv)∧V.cell? ⟨X.f,3,none⟩=some (.int .i64 tr)∧V.cell? ⟨sb,0,none⟩=some (.string zi)∧V.cell? ⟨sb,1,none⟩=some (.slice zn.A zn.n zn.cap)∧V.cell? ⟨sb,2,none⟩=some (.int .i64 zs)∧V.cell? ⟨sb,3,none⟩=some (.slice za.A za.n za.cap)) (by kernel_rfl) (CtS.keep hH0H.out (Below.refl _ _).drew) (fun hHeld=>?_);refine tkS [(0,22),(1,23),(2,24),(3,25),(4,26),(5,27),(6,28),(7,29),(8,30),(9,31),(10,32),(11,33),(12,34),(13,35),(14,36),(15,37),(16,38),(17,39),(18,40),(19,41),(20,42),(21,43),(22,44),(23,45)] ?_;(iterate 24 (refine tkL ?_ ?_ ?_;rotate_left;(· intro w hSw;(try dsimp only at hSw);go_simp;(try with_reducible rfl));(try simp only[Act.put,tkA,tkB,tkC])));refine tkE ?_;refine tkS [(24,46),(25,47),(26,48),(27,49),(28,50),(29,51)] ?_;(iterate 6 (refine skL ?_;(try simp only[Act.put,tkA,tkB,tkC])));refine tkE ?_;refine tkS [(30,52),(31,53)] ?_;(iterate 2 (refine tkL ?_ ?_ ?_;rotate_left;(· intro w hSw;(try dsimp only at hSw);go_simp;(try with_reducible rfl));(try simp only[Act.put,tkA,tkB,tkC])));refine tkE ?_;refine tkS [(32,54),(33,55),(34,56)] ?_;(iterate 3 (refine skL ?_;(try simp only[Act.put,tkA,tkB,tkC])));refine tkE ?_
     refine tkS [(35,57)] ?_;(iterate 1 (refine tkL ?_ ?_ ?_;rotate_left;(· intro w hSw;(try dsimp only at hSw);go_simp;(try with_reducible rfl));(try simp only[Act.put,tkA,tkB,tkC])));refine tkE ?_;refine wpAnyH_done (by kernel_rfl) ?_ _;have R:=hnoH.out _ hHeld.1;clear hHeld;have RH:=Lib.hid R;clear R;go_wp2;refine⟨?rel,?measure⟩
     case measure=>(simp[intOf];omega)
     case rel=>first | exact RH.out | exact⟨rfl,RH.out⟩
   ·have hno:=hnoH.out rfl;clear hnoH;have hnoH:=Lib.hid hno;clear hno;go_wp2_with fail;simp only[hW5H.out,hsbH.out];clear c0 x0 x1 x2 x3 b1;refine wp_region_held_drew (S:=fun V:World=>Below W5.heap.size W5 V∧V.cell? ⟨X.f,8,none⟩=some (.slice (some ⟨X.db,0,none⟩) N N)∧V.cell? ⟨X.db,i,none⟩=some (.bool true)∧V.cell? ⟨X.f,9,none⟩=some (.slice (some ⟨X.lb,0,none⟩) N N)∧V.cell? ⟨X.lb,i,none⟩=some (.int .i64 lv)∧V.cell? ⟨X.f,3,none⟩=some (.int .i64 tr)∧V.cell? ⟨sb,0,none⟩=some (.string zi)∧V.cell? ⟨sb,1,none⟩=some (.slice zn.A zn.n zn.cap)∧V.cell? ⟨sb,2,none⟩=some (.int .i64 zs)∧V.cell? ⟨sb,3,none⟩=some (.slice za.A za.n za.cap)) (by kernel_rfl) (CtS.keep hH0H.out (Below.refl _ _).drew) (fun hHeld=>?_);refine tkS [(0,22),(1,23),(2,24),(3,25),(4,26),(5,27),(6,28),(7,29),(8,30)] ?_;(iterate 9 (refine tkL ?_ ?_ ?_;rotate_left;(· intro w hSw;(try dsimp only at hSw);go_simp;(try with_reducible rfl));(try simp only[Act.put,tkA,tkB,tkC])));refine tkE ?_;refine tkS [(9,31),(10,32),(11,33),(12,34),(13,35),(14,36),(15,37),(16,38),(17,39),(18,40),(19,41),(20,42),(21,43)] ?_;(iterate 13 (refine skL ?_;(try simp only[Act.put,tkA,tkB,tkC])));refine tkE ?_;refine tkS [(22,44),(23,45)] ?_;(iterate 2 (refine tkL ?_ ?_ ?_;rotate_left;(· intro w hSw;(try dsimp only at hSw);go_simp;(try with_reducible rfl));(try simp only[Act.put,tkA,tkB,tkC])));refine tkE ?_;refine tkS [(24,46),(25,47),(26,48),(27,49),(28,50),(29,51)] ?_;(iterate 6 (refine skL ?_;(try simp only[Act.put,tkA,tkB,tkC])));refine tkE ?_;refine tkS [(30,52),(31,53)] ?_;(iterate 2 (refine tkL ?_ ?_ ?_;rotate_left;(· intro w hSw;(try dsimp only at hSw);go_simp;(try with_reducible rfl));(try simp only[Act.put,tkA,tkB,tkC])));refine tkE ?_
    refine tkS [(32,54),(33,55),(34,56)] ?_;(iterate 3 (refine skL ?_;(try simp only[Act.put,tkA,tkB,tkC])));refine tkE ?_;refine tkS [(35,57)] ?_;(iterate 1 (refine tkL ?_ ?_ ?_;rotate_left;(· intro w hSw;(try dsimp only at hSw);go_simp;(try with_reducible rfl));(try simp only[Act.put,tkA,tkB,tkC])));refine tkE ?_;refine wpAnyH_done (by kernel_rfl) ?_ _;have R:=hnoH.out _ hHeld.1;clear hHeld;have RH:=Lib.hid R;clear R;go_wp2;refine⟨?rel,?measure⟩
    case measure=>(simp[intOf];omega)
    case rel=>first | exact RH.out | exact⟨rfl,RH.out⟩
  ·obtain rfl:m=n:=by omega
   have R:=RZH.out wr rv hA;obtain⟨RH,hAH⟩:=hq2 R (Lib.hid hA);clear R hA;go_wp2
   go_end0
   exact RH.out
theorem keep15 {W5 W W':World} {a0 a1 a2 a3 a4 a5 a6 a7 a8 a9 a10 a11 a12 a13 a14:Addr} {v0 v1 v2 v3 v4 v5 v6 v7 v8 v9 v10 v11 v12 v13 v14:Value} (hb:Below W.heap.size W W') (h:Below W5.heap.size W5 W∧W.cell? a0=some v0∧W.cell? a1=some v1∧W.cell? a2=some v2∧W.cell? a3=some v3∧W.cell? a4=some v4∧W.cell? a5=some v5∧W.cell? a6=some v6∧W.cell? a7=some v7∧W.cell? a8=some v8∧W.cell? a9=some v9∧W.cell? a10=some v10∧W.cell? a11=some v11∧W.cell? a12=some v12∧W.cell? a13=some v13∧W.cell? a14=some v14):Below W5.heap.size W5 W'∧W'.cell? a0=some v0∧W'.cell? a1=some v1∧W'.cell? a2=some v2∧W'.cell? a3=some v3∧W'.cell? a4=some v4∧W'.cell? a5=some v5∧W'.cell? a6=some v6∧W'.cell? a7=some v7∧W'.cell? a8=some v8∧W'.cell? a9=some v9∧W'.cell? a10=some v10∧W'.cell? a11=some v11∧W'.cell? a12=some v12∧W'.cell? a13=some v13∧W'.cell? a14=some v14:=by
 obtain⟨h,h0,h1,h2,h3,h4,h5,h6,h7,h8,h9,h10,h11,h12,h13,h14⟩:=h;exact⟨h.trans (hb.mono h.size),keepC hb h0,keepC hb h1,keepC hb h2,keepC hb h3,keepC hb h4,keepC hb h5,keepC hb h6,keepC hb h7,keepC hb h8,keepC hb h9,keepC hb h10,keepC hb h11,keepC hb h12,keepC hb h13,keepC hb h14⟩
def DaRel (X:RX) (q:QS) (n:Nat) (w0:World) (i:Value) (wr:World):Prop:=∃ (m:Nat) (rv:Value),m≤n∧i = .int .i64 m∧QA X rv (dblTo X.F q m) w0 wr
theorem dblR_not {F:FP} {t:Int} {lost:Nat→Int} {R:List RR} {i:Nat} (h:(gix R i).length≠1):dblR F t lost R i=R:=by
 rw[gix_len]at h;unfold dblR
 split
 ·rename_i r hr
  rw[hr]at h;exact absurd rfl h
 ·rfl
theorem dblR_one {F:FP} {t:Int} {lost:Nat→Int} {R:List RR} {i:Nat} {r:RR} (h:goingOf R i = [r]):dblR F t lost R i=if (decide (late F r≤t)&&decide (lost i<F.tries))=true then beginR F t i (some r.worker) R else R:=by
 unfold dblR;rw[h]
theorem rdoubleAll_any {X:RX} {rv:Value} {q:QS} {w0 W:World} (hA:QA X rv q w0 W) (hS:RS X w0) (hNq:RN X q) (hNs:RN X (dblQ X.F q)) (hfr:∀ r∈(dblQ X.F q).runs,r.from_≤1000000000) :
  Calls Tryz.prog 79 #[.pointer (some ⟨X.f,0,none⟩)] W (BgAns X (dblQ X.F q) w0):=by
 have hXN:=hS.N;have hwl:=hS.ok.wo.len;have hxn:X.x.works.l.length=X.x.works.n:=hS.fx.2.1.1.1;have hnX:=hS.nX;obtain⟨n,hn⟩:∃ n,X.x.works.n=n:=⟨_,rfl⟩;have hn2:n≤200:=by omega
 obtain⟨Z,hZ⟩:∃ Z,BgAns X (dblQ X.F q) w0=Z:=⟨_,rfl⟩;obtain⟨db,hdb⟩:∃ b,X.x.doubles=b:=⟨_,rfl⟩;have hFd:X.F.doubles=db:=by rw[hS.doubles,hdb]
 have b1:=(hA.blk 1 _ rfl).1;have b4:=(hA.blk 4 _ rfl).1;rw[hn]at b1;rw[hdb]at b4;rw[hZ]
 cases db
 ·have R:Z (.returned (.tuple #[])) W:=by rw[← hZ,dblQ_no hFd];exact⟨rfl,rv,hA⟩
  obtain⟨hAH,hSH,hNqH,hNsH,hfrH,hXNH,hxnH,hnXH,hnH,hZH,hdbH,hFdH,RH⟩:=hqb hA hS hNq hNs (hqc hfr hXN hxn hnX hn hZ hdb hFd (Lib.hid R));clear hA hS hNq hNs hfr hXN hxn hnX hn hZ hdb hFd R;go_enter Tryz.func79,Tryz.ntmps79;go_wp2
  go_end0
  exact RH.out
 ·have hst:DaRel X q n w0 (.int .i64 0) W:=⟨0,rv,Nat.zero_le _,rfl,hA⟩;have hall:=dblTo_all X.F q hFd;have RZ:∀ W' rv',QA X rv' (dblTo X.F q n) w0 W'→Z (.returned (.tuple #[])) W':=fun W' rv' h=>by
   rw[← hZ];rw[show n=X.F.nX by omega,hall]at h;exact⟨rfl,rv',h⟩
  obtain⟨hAH,hSH,hNqH,hNsH,hfrH,hXNH,hxnH,hnXH,hnH,hZH,hdbH,hFdH,hstH,hallH,RZH⟩:=hq2 hA (hq2 hS (hqb hNq hNs hfr hXN (hqc hxn hnX hn hZ hdb hFd hst hall (Lib.hid RZ))));clear hA hS hNq hNs hfr hXN hxn hnX hn hZ hdb hFd hst hall RZ;go_enter Tryz.func79,Tryz.ntmps79;go_wp2_with fail;clear b1 b4
  go_loopw [17] (fun i wr=>DaRel X q n w0 i wr) (fun i _=>n-(intOf i).toNat)
  case atStart=>exact hstH.out
  case round =>
   clear hstH;obtain⟨m,rv,hm,rfl,hA⟩:=hrel
   by_cases hlt:m<n
   ·have hil:m<X.x.works.l.length:=by have:=hxnH.out;have:=hnH.out;omega
    obtain⟨z,hz⟩:∃ z,X.x.works.l[m]? = some z:=⟨X.x.works.l[m]'hil,List.getElem?_eq_getElem _⟩;have hzw:woOf X.x m=z:=woOf_get hz;have hxs:=hSH.out.fx.2.1.1.below hA.bel;rw[hnH.out]at hxs;obtain⟨bx,ox,hXA,_⟩:=hxs.2.1 (by omega);rw[hXA]at hxs ⊢;obtain⟨x0,x1,x2,x3⟩:=cells_Work hxs hz;have hpre:(dblTo X.F q m).runs <+: (dblQ X.F q).runs:=dblTo_pre hFdH.out (by have:=hnXH.out;omega);have hat:(dblQ X.F q).at_=q.at_:=by unfold dblQ;split <;> rfl
    have hNm:RN X (dblTo X.F q m):=hNsH.out.pre hpre hat.symm;have hfm:∀ r∈(dblTo X.F q m).runs,r.from_≤1000000000:=fun r hr=>hfrH.out r (hpre.subset hr);have hnx:=dblTo_next X.F q m;have hgoing:=fun (V:World) (hV:QA X rv (dblTo X.F q m) w0 V)=>going_any hV hSH.out hNm hil;have hbegin:=fun (V:World) (hV:QA X rv (dblTo X.F q m) w0 V)=>rbegin_any hV hSH.out hNm hz;rw[hzw]at hgoing;unfold workV at hbegin;have hzok:=hz;obtain⟨zi,zn,zs,za⟩:=z;simp only at x0 x1 x2 x3 hgoing hbegin;obtain⟨W5,hW5⟩:∃ Y,wr.alloc (.cells #[.string zi,.slice zn.A zn.n zn.cap,.int .i64 zs,.slice za.A za.n za.cap] 86)=Y:=⟨_,rfl⟩;obtain⟨sb,hsb⟩:∃ b,wr.heap.size=b:=⟨_,rfl⟩;have hb5:Below wr.heap.size wr W5:=by rw[← hW5];exact(Below.refl _ _).alloc (Nat.le_refl _) _
    have hB5:Blk W5 sb [.string zi,.slice zn.A zn.n zn.cap,.int .i64 zs,.slice za.A za.n za.cap]:=by rw[← hW5,← hsb];exact blk_new wr [.string zi,.slice zn.A zn.n zn.cap,.int .i64 zs,.slice za.A za.n za.cap] 86
    have hA5:=hA.below hb5;have hgoing5:=hgoing W5 hA5;have hno:dblR X.F q.at_ q.lost (dblTo X.F q m).runs m=(dblTo X.F q m).runs→∀ V,Below W5.heap.size W5 V→DaRel X q n w0 (.int .i64 ((m:Int)+1)) V:=fun hc V hV =>
     ⟨m+1,rv,hlt,by go_num,by rw[hnx,hc];exact hA5.below hV⟩
    have hyes:∀ bo,dblR X.F q.at_ q.lost (dblTo X.F q m).runs m=beginR X.F q.at_ m bo (dblTo X.F q m).runs→∀ V rv',QA X rv' (begQ X.F (dblTo X.F q m) m bo) w0 V→DaRel X q n w0 (.int .i64 ((m:Int)+1)) V:=fun bo hc V rv' hV =>
     ⟨m+1,rv',hlt,by go_num,by rw[hnx,hc];exact hV⟩
    clear hnx;obtain⟨hAH,hilH,hzH,hzwH,hxsH,hXAH,hNmH,hfmH,hpreH,hatH,hgoingH,hbeginH,hzokH,hW5H,hsbH,hb5H,hB5H,hA5H,hgoing5H,hnoH,hyesH⟩:=hqb hA hil hz hzw (hqc hxs hXA hNm hfm hpre hat hgoing hbegin (hqc hzok hW5 hsb hb5 hB5 hA5 hgoing5 hno (Lib.hid hyes)));clear hA hil hz hzw hxs hXA hNm hfm hpre hat hgoing hbegin hzok hW5 hsb hb5 hB5 hA5 hgoing5 hno hyes;have s0:(wr.alloc (.cells #[.string zi,.slice zn.A zn.n zn.cap,.int .i64 zs,.slice za.A za.n za.cap] 86)).cell? ⟨wr.heap.size,0,none⟩=some (.string zi):=cell_new _ _ _ 0;go_wp2_with fail;simp only[hW5H.out,hsbH.out];clear s0;refine hgoing5H.out.mono ?_;rintro e w6 ⟨A6,n6,c6,rfl,hown6,hn6,hb6⟩;have hn6l:(nz (gix (dblTo X.F q m).runs m)).length=n6:=hown6.len;have hn6g:(gix (dblTo X.F q m).runs m).length=n6:=by rw[← hn6l];unfold nz;rw[List.length_map]
    clear x0 x1 x2 x3
    by_cases h1:n6=1
    ·subst h1;have hn6v:((1:Int)==1)=true:=rfl;obtain⟨ix,r,hgx,hr,hgo,hrw,hgt⟩:=gix_one hn6g;rw[hgx]at hown6;obtain⟨A,cap,hrv,hrv1⟩:=hA5H.out.row;obtain⟨nR,hnR⟩:∃ k,(dblTo X.F q m).runs.length=k:=⟨_,rfl⟩;rw[hnR]at hrv hrv1;have hixn:ix<nR:=by have:=(List.getElem?_eq_some_iff.1 hr).1;omega
     obtain⟨g,hA8⟩:=hrv1 (by omega);subst hA8;have hA6:=hA5H.out.below hb6;have hA6':=hA6;rw[hrv]at hA6';obtain⟨e0,e1,e2,e3,e4⟩:=cells_Run hA6'.runs.slAt (x:=toRun X.x r) (by rw[List.getElem?_map,hr];rfl);rw[Nat.zero_add]at e0 e1 e2 e3 e4;obtain⟨b6,o6,hA66,_⟩:=hown6.slAt.2.1 (by omega);have hs6:=hown6.slAt;subst hA66;have f0:=cell_IntQ hs6 (k:=0) (x:=(ix:Int)) rfl;rw[Nat.add_zero]at f0;have hrm:=List.mem_of_getElem? hr;have hnm:=hNmH.out.nm r hrm;have hdr:=dblR_one (F:=X.F) (t:=q.at_) (lost:=q.lost) hgo;rw[hSH.out.tries]at hdr;have hlate:=fun (V:World) (hV:Below w6.heap.size w6 V)=>rlate_any (hA6.below hV) hSH.out hnm.1 hnm.2 (hNmH.out.fr r hrm).1 (hfmH.out r hrm);unfold runV at hlate;have hbut:∀ j,j<X.x.workers.l.length→((wkOf X.x j).name=(wkOf X.x r.worker).name↔some j=some r.worker):=fun j hj=>by
      have:=hNmH.out.nmEq hSH.out hrm hj;rw[Option.some.injEq];exact⟨fun e=>(this.1 e.symm).symm,fun e=>by rw[e]⟩
     have hend:(toRun X.x r).end_=r.end_:=rfl;have hwkr:(toRun X.x r).worker=(wkOf X.x r.worker).name:=rfl;have hidr:(toRun X.x r).id_=(woOf X.x r.work).id_:=rfl;have hfrr:(toRun X.x r).from_=r.from_:=rfl;have htor:(toRun X.x r).to_=r.to_:=rfl;rw[hend]at e4;rw[hwkr]at e1 hlate;rw[hidr]at e0 hlate;rw[hfrr]at e2;rw[htor]at e3;obtain⟨rwk,hrwk⟩:∃ s,(wkOf X.x r.worker).name=s:=⟨_,rfl⟩;obtain⟨rid,hrid⟩:∃ s,(woOf X.x r.work).id_=s:=⟨_,rfl⟩;obtain⟨rfm,hrfm⟩:∃ s,r.from_=s:=⟨_,rfl⟩;obtain⟨rto,hrto⟩:∃ s,r.to_=s:=⟨_,rfl⟩;obtain⟨ren,hren⟩:∃ s,r.end_=s:=⟨_,rfl⟩;rw[hrwk]at e1 hlate hbut;rw[hrid]at e0 hlate;rw[hrfm]at e2 hlate;rw[hrto]at e3 hlate;rw[hren]at e4 hlate;obtain⟨t,ht⟩:∃ t,q.at_=t:=⟨_,rfl⟩;obtain⟨lv,hlv⟩:∃ b,q.lost m=b:=⟨_,rfl⟩;obtain⟨tr,htr⟩:∃ b,X.x.tries=b:=⟨_,rfl⟩;obtain⟨la,hla⟩:∃ b,late X.F r=b:=⟨_,rfl⟩;obtain⟨N,hN⟩:∃ b,n=b:=⟨_,rfl⟩;have hmN:m<N:=by omega
     have hmNi:(m:Int)<(N:Int):=by omega
     have hixi:(ix:Int)<(nR:Int):=by omega
     have hB6:=blk_below hB5H.out (by simp) hb6;have hH0:Below w6.heap.size w6 w6∧w6.cell? ⟨X.f,7,none⟩=some (.slice (some ⟨g,0,none⟩) nR cap)∧w6.cell? ⟨b6,o6,none⟩=some (.int .i64 (ix:Int))∧w6.cell? ⟨g,ix*5,none⟩=some (.string rid)∧w6.cell? ⟨g,ix*5+1,none⟩=some (.string rwk)∧w6.cell? ⟨g,ix*5+2,none⟩=some (.int .i64 rfm)∧w6.cell? ⟨g,ix*5+3,none⟩=some (.int .i64 rto)∧w6.cell? ⟨g,ix*5+4,none⟩=some (.int .i64 ren)∧w6.cell? ⟨X.f,6,none⟩=some (.int .i64 t)∧w6.cell? ⟨X.f,9,none⟩=some (.slice (some ⟨X.lb,0,none⟩) N N)∧w6.cell? ⟨X.lb,m,none⟩=some (.int .i64 lv)∧w6.cell? ⟨X.f,3,none⟩=some (.int .i64 tr)∧w6.cell? ⟨sb,0,none⟩=some (.string zi)∧w6.cell? ⟨sb,1,none⟩=some (.slice zn.A zn.n zn.cap)∧w6.cell? ⟨sb,2,none⟩=some (.int .i64 zs)∧w6.cell? ⟨sb,3,none⟩=some (.slice za.A za.n za.cap):=by
      have d6:=(hA6.blk 6 _ rfl).1;have d7:=(hA6'.blk 7 _ rfl).1;have d9:=(hA6.blk 9 _ rfl).1;have d3:=(hA6.blk 3 _ rfl).1;have hXn:X.N=N:=by rw[← hN,← hnH.out];rfl
      rw[hXn]at d9;rw[htr]at d3;have d6':w6.cell? ⟨X.f,6,none⟩=some (.int .i64 t):=by rw[← ht];exact d6
      have e2':w6.cell? ⟨X.lb,m,none⟩=some (.int .i64 lv):=by rw[← hlv];exact(hA6.lost m (by rw[hXn];exact hmN)).1
      exact⟨Below.refl _ _,d7,f0,e0,e1,e2,e3,e4,d6',d9,e2',d3,(hB6 0 _ rfl).1,(hB6 1 _ rfl).1,(hB6 2 _ rfl).1,(hB6 3 _ rfl).1⟩
     have hcond:(decide (late X.F r≤q.at_)&&decide (q.lost m<X.x.tries))=(decide (la≤t)&&decide (lv<tr)):=by rw[hla,ht,hlv,htr]
     rw[hcond]at hdr;have hno2:(decide (la≤t)&&decide (lv<tr))=false→∀ V,Below w6.heap.size w6 V→DaRel X q n w0 (.int .i64 ((m:Int)+1)) V:=fun hc V hV=>hnoH.out (by rw[hdr,hc,if_neg (by decide)]) V (hb6.trans (hV.mono hb6.size));have hyes2:(decide (la≤t)&&decide (lv<tr))=true→∀ V rv',QA X rv' (begQ X.F (dblTo X.F q m) m (some r.worker)) w0 V→DaRel X q n w0 (.int .i64 ((m:Int)+1)) V:=fun hc V rv' hV=>hyesH.out (some r.worker) (by rw[hdr,hc,if_pos rfl]) V rv' hV;have hbeg:=fun (V:World) (hV:Below w6.heap.size w6 V)=>hbeginH.out V (hA6.below hV) (some r.worker) rwk hbut;clear f0 e0 e1 e2 e3 e4 hnoH hyesH;obtain⟨hgxH,hrH,hgoH,hrwH,hgtH,hown6H,hrvH,hrv1H,hnRH,hA6H,hA6'H,hs6H,hrmH,hnmH,hdrH,hlateH,hbutH,hendH,hwkrH,hidrH,hfrrH,htorH,hrwkH,hridH,hrfmH,hrtoH,hrenH,htH,hlvH,htrH,hlaH,hNH,hB6H,hH0H,hcondH,hno2H,hyes2H,hbegH,hn6lH,hn6gH,hb6H⟩:=hqc hgx hr hgo hrw hgt hown6 hrv hrv1 (hqc hnR hA6 hA6' hs6 hrm hnm hdr hlate (hqc hbut hend hwkr hidr hfrr htor hrwk hrid (hqc hrfm hrto hren ht hlv htr hla hN (hqc hB6 hH0 hcond hno2 hyes2 hbeg hn6l hn6g (Lib.hid hb6)))));clear hgx hr hgo hrw hgt hown6 hrv hrv1 hnR hA6 hA6' hs6 hrm hnm hdr hlate hbut hend hwkr hidr hfrr htor hrwk hrid hrfm hrto hren ht hlv htr hla hN hB6 hH0 hcond hno2 hyes2 hbeg hn6l hn6g hb6
     by_cases hl:la≤t
     ·have hl':decide (la≤t)=true:=by simpa using hl
      by_cases hv:lv<tr
      ·have hv':decide (lv<tr)=true:=by simpa using hv
       have hyes:=hyes2H.out (by rw[hl',hv'];rfl);clear hyes2H hno2H;have hyesH:=Lib.hid hyes;clear hyes;go_wp2_with fail;refine wp_region_held_drew (S:=fun V:World=>Below w6.heap.size w6 V∧V.cell? ⟨X.f,7,none⟩=some (.slice (some ⟨g,0,none⟩) nR cap)∧V.cell? ⟨b6,o6,none⟩=some (.int .i64 (ix:Int))∧V.cell? ⟨g,ix*5,none⟩=some (.string rid)∧V.cell? ⟨g,ix*5+1,none⟩=some (.string rwk)∧V.cell? ⟨g,ix*5+2,none⟩=some (.int .i64 rfm)∧V.cell? ⟨g,ix*5+3,none⟩=some (.int .i64 rto)∧V.cell? ⟨g,ix*5+4,none⟩=some (.int .i64 ren)∧V.cell? ⟨X.f,6,none⟩=some (.int .i64 t)∧V.cell? ⟨X.f,9,none⟩=some (.slice (some ⟨X.lb,0,none⟩) N N)∧V.cell? ⟨X.lb,m,none⟩=some (.int .i64 lv)∧V.cell? ⟨X.f,3,none⟩=some (.int .i64 tr)∧V.cell? ⟨sb,0,none⟩=some (.string zi)∧V.cell? ⟨sb,1,none⟩=some (.slice zn.A zn.n zn.cap)∧V.cell? ⟨sb,2,none⟩=some (.int .i64 zs)∧V.cell? ⟨sb,3,none⟩=some (.slice za.A za.n za.cap)) (by kernel_rfl) (keep15 (Below.refl _ _).drew hH0H.out) (fun hHeld=>?_);refine tkS [(0,26),(1,27),(2,28),(3,29),(4,30),(5,31),(6,32),(7,33),(8,34),(9,35),(10,36),(11,37),(12,38),(13,39)] ?_;(iterate 14 (refine tkL ?_ ?_ ?_;rotate_left;(· intro w hSw;(try dsimp only at hSw);go_simp;(try with_reducible rfl));(try simp only[Act.put,tkA,tkB,tkC])));refine tkE ?_;refine tkS [(15,41),(16,42),(17,43),(18,44)] ?_;(iterate 4 (refine tkL ?_ ?_ ?_;rotate_left;(· intro w hSw;(try dsimp only at hSw);go_simp;(try with_reducible rfl));(try simp only[Act.put,tkA,tkB,tkC])));refine tkE ?_;refine wpAnyH_ready (rs:=[14]) (by kernel_rfl) (by simp) ?_
       refine AllReadyH.cons (i:=14) rfl (fun K hK=>?_) AllReadyH.nil;go_simp;go_at_call 132;refine(hlateH.out _ hHeld.1).mono ?_;rintro e w7 ⟨rfl,hb7⟩;rw[hlaH.out];have hHeld:=keep15 hb7 hHeld;clear hb7;refine hK.out _ _ hHeld (fun hHeld=>?_);clear hK K
       (try simp only[Act.put,tkA,tkB,tkC])
       refine tkS [(19,45),(20,46),(21,47)] ?_;(iterate 3 (refine tkL ?_ ?_ ?_;rotate_left;(· intro w hSw;(try dsimp only at hSw);go_simp;(try with_reducible rfl));(try simp only[Act.put,tkA,tkB,tkC])));refine tkE ?_;refine tkS [(22,48),(23,49),(24,50),(25,51),(26,52),(27,53),(28,54),(29,55),(30,56),(31,57),(32,58),(33,59),(34,60),(35,61)] ?_;(iterate 14 (refine tkL ?_ ?_ ?_;rotate_left;(· intro w hSw;(try dsimp only at hSw);go_simp;(try with_reducible rfl));(try simp only[Act.put,tkA,tkB,tkC])));refine tkE ?_;refine wpAnyH_done (by kernel_rfl) ?_ _;clear hl hl' hv hv';go_wp2_with fail;refine startR (R:=Rk (fun V:World=>Below w6.heap.size w6 V∧V.cell? ⟨X.f,7,none⟩=some (.slice (some ⟨g,0,none⟩) nR cap)∧V.cell? ⟨b6,o6,none⟩=some (.int .i64 (ix:Int))∧V.cell? ⟨g,ix*5,none⟩=some (.string rid)∧V.cell? ⟨g,ix*5+1,none⟩=some (.string rwk)∧V.cell? ⟨g,ix*5+2,none⟩=some (.int .i64 rfm)∧V.cell? ⟨g,ix*5+3,none⟩=some (.int .i64 rto)∧V.cell? ⟨g,ix*5+4,none⟩=some (.int .i64 ren)∧V.cell? ⟨X.f,6,none⟩=some (.int .i64 t)∧V.cell? ⟨X.f,9,none⟩=some (.slice (some ⟨X.lb,0,none⟩) N N)∧V.cell? ⟨X.lb,m,none⟩=some (.int .i64 lv)∧V.cell? ⟨X.f,3,none⟩=some (.int .i64 tr)∧V.cell? ⟨sb,0,none⟩=some (.string zi)∧V.cell? ⟨sb,1,none⟩=some (.slice zn.A zn.n zn.cap)∧V.cell? ⟨sb,2,none⟩=some (.int .i64 zs)∧V.cell? ⟨sb,3,none⟩=some (.slice za.A za.n za.cap)) (fun _=>True) 12 12) (by kernel_rfl) ?_;have hF:=keep15 (Below.refl _ _).drew hHeld;have hC:True:=trivial;clear hHeld;refine takeT (i:=0) (d:=some 62) (v:=?_) rfl rfl (by kernel_rfl) (by kernel_rfl) (by kernel_rfl) (by kernel_rfl) (by kernel_rfl) (by kernel_rfl) (fun _ _ _ h=>h) (Or.inl ⟨by rfl,?_⟩) hF ?_
       rotate_left
       ·(intro w hSw;(try dsimp only at hSw);go_simp;(try with_reducible rfl))
       (try simp only[Act.put,List.setIfInBounds_toArray,List.set_cons_zero,List.set_cons_succ])
       refine takeT (i:=1) (d:=some 63) (v:=?_) rfl rfl (by kernel_rfl) (by kernel_rfl) (by kernel_rfl) (by kernel_rfl) (by kernel_rfl) (by kernel_rfl) (fun _ _ _ h=>h) (Or.inl ⟨by rfl,?_⟩) hF ?_
       rotate_left
       ·(intro w hSw;(try dsimp only at hSw);go_simp;(try with_reducible rfl))
       (try simp only[Act.put,List.setIfInBounds_toArray,List.set_cons_zero,List.set_cons_succ])
       refine takeT (i:=2) (d:=some 64) (v:=?_) rfl rfl (by kernel_rfl) (by kernel_rfl) (by kernel_rfl) (by kernel_rfl) (by kernel_rfl) (by kernel_rfl) (fun _ _ _ h=>h) (Or.inl ⟨by rfl,?_⟩) hF ?_
       rotate_left
       ·(intro w hSw;(try dsimp only at hSw);go_simp;(try with_reducible rfl))
       (try simp only[Act.put,List.setIfInBounds_toArray,List.set_cons_zero,List.set_cons_succ])
       refine takeT (i:=3) (d:=some 65) (v:=?_) rfl rfl (by kernel_rfl) (by kernel_rfl) (by kernel_rfl) (by kernel_rfl) (by kernel_rfl) (by kernel_rfl) (fun _ _ _ h=>h) (Or.inl ⟨by rfl,?_⟩) hF ?_
       rotate_left
       ·(intro w hSw;(try dsimp only at hSw);go_simp;(try with_reducible rfl))
       (try simp only[Act.put,List.setIfInBounds_toArray,List.set_cons_zero,List.set_cons_succ])
       refine takeT (i:=4) (d:=some 66) (v:=?_) rfl rfl (by kernel_rfl) (by kernel_rfl) (by kernel_rfl) (by kernel_rfl) (by kernel_rfl) (by kernel_rfl) (fun _ _ _ h=>h) (Or.inl ⟨by rfl,?_⟩) hF ?_
       rotate_left
       ·(intro w hSw;(try dsimp only at hSw);go_simp;(try with_reducible rfl))
       (try simp only[Act.put,List.setIfInBounds_toArray,List.set_cons_zero,List.set_cons_succ])
       refine takeT (i:=5) (d:=some 67) (v:=?_) rfl rfl (by kernel_rfl) (by kernel_rfl) (by kernel_rfl) (by kernel_rfl) (by kernel_rfl) (by kernel_rfl) (fun _ _ _ h=>h) (Or.inl ⟨by rfl,?_⟩) hF ?_
       rotate_left
       ·(intro w hSw;(try dsimp only at hSw);go_simp;(try with_reducible rfl))
       (try simp only[Act.put,List.setIfInBounds_toArray,List.set_cons_zero,List.set_cons_succ])
       refine takeT (i:=6) (d:=some 68) (v:=?_) rfl rfl (by kernel_rfl) (by kernel_rfl) (by kernel_rfl) (by kernel_rfl) (by kernel_rfl) (by kernel_rfl) (fun _ _ _ h=>h) (Or.inl ⟨by rfl,?_⟩) hF ?_
       rotate_left
       ·(intro w hSw;(try dsimp only at hSw);go_simp;(try with_reducible rfl))
       (try simp only[Act.put,List.setIfInBounds_toArray,List.set_cons_zero,List.set_cons_succ])
       refine takeT (i:=7) (d:=some 69) (v:=?_) rfl rfl (by kernel_rfl) (by kernel_rfl) (by kernel_rfl) (by kernel_rfl) (by kernel_rfl) (by kernel_rfl) (fun _ _ _ h=>h) (Or.inl ⟨by rfl,?_⟩) hF ?_
       rotate_left
       ·(intro w hSw;(try dsimp only at hSw);go_simp;(try with_reducible rfl))
       (try simp only[Act.put,List.setIfInBounds_toArray,List.set_cons_zero,List.set_cons_succ])
       refine takeT (i:=8) (d:=some 70) (v:=?_) rfl rfl (by kernel_rfl) (by kernel_rfl) (by kernel_rfl) (by kernel_rfl) (by kernel_rfl) (by kernel_rfl) (fun _ _ _ h=>h) (Or.inl ⟨by rfl,?_⟩) hF ?_
       rotate_left
       ·(intro w hSw;(try dsimp only at hSw);go_simp;(try with_reducible rfl))
       (try simp only[Act.put,List.setIfInBounds_toArray,List.set_cons_zero,List.set_cons_succ])
       refine takeT (i:=9) (d:=some 71) (v:=?_) rfl rfl (by kernel_rfl) (by kernel_rfl) (by kernel_rfl) (by kernel_rfl) (by kernel_rfl) (by kernel_rfl) (fun _ _ _ h=>h) (Or.inl ⟨by rfl,?_⟩) hF ?_
       rotate_left
       ·(intro w hSw;(try dsimp only at hSw);go_simp;(try with_reducible rfl))
       (try simp only[Act.put,List.setIfInBounds_toArray,List.set_cons_zero,List.set_cons_succ])
       refine takeT (i:=10) (d:=some 72) (v:=?_) rfl rfl (by kernel_rfl) (by kernel_rfl) (by kernel_rfl) (by kernel_rfl) (by kernel_rfl) (by kernel_rfl) (fun _ _ _ h=>h) (Or.inl ⟨by rfl,?_⟩) hF ?_
       rotate_left
       ·(intro w hSw;(try dsimp only at hSw);go_simp;(try with_reducible rfl))
       (try simp only[Act.put,List.setIfInBounds_toArray,List.set_cons_zero,List.set_cons_succ])
       refine takeT (i:=11) (d:=some 73) (v:=?_) rfl rfl (by kernel_rfl) (by kernel_rfl) (by kernel_rfl) (by kernel_rfl) (by kernel_rfl) (by kernel_rfl) (fun _ _ _ h=>h) (Or.inl ⟨by rfl,?_⟩) hF ?_
       rotate_left
       ·(intro w hSw;(try dsimp only at hSw);go_simp;(try with_reducible rfl))
       (try simp only[Act.put,List.setIfInBounds_toArray,List.set_cons_zero,List.set_cons_succ])
       refine oneR (i:=12) (by kernel_rfl) rfl (fun K hK=>?_);go_simp;go_at_call 131;refine(hbegH.out _ hF.1).mono ?_;rintro e w8 ⟨rfl,rv8,hA8⟩;have R:=hyesH.out _ rv8 hA8;clear hA8 hF;have RH:=Lib.hid R;clear R;refine hK.out _ _ ⟨fun h=>absurd rfl h,fun h=>absurd rfl h⟩ ?_;clear hK K
       (try simp only[Act.put,List.setIfInBounds_toArray,List.set_cons_zero,List.set_cons_succ])
       refine doneR (by kernel_rfl) ?_ _;clear hC;go_wp2;refine⟨?rel,?measure⟩
       case measure=>(simp[intOf];omega)
       case rel=>first | exact RH.out | exact⟨rfl,RH.out⟩
      ·have hv':decide (lv<tr)=false:=by simpa using hv
       have hno:=hno2H.out (by rw[hl',hv'];rfl);clear hyes2H hno2H;have hnoH:=Lib.hid hno;clear hno;go_wp2_with fail;refine wp_region_held_drew (S:=fun V:World=>Below w6.heap.size w6 V∧V.cell? ⟨X.f,7,none⟩=some (.slice (some ⟨g,0,none⟩) nR cap)∧V.cell? ⟨b6,o6,none⟩=some (.int .i64 (ix:Int))∧V.cell? ⟨g,ix*5,none⟩=some (.string rid)∧V.cell? ⟨g,ix*5+1,none⟩=some (.string rwk)∧V.cell? ⟨g,ix*5+2,none⟩=some (.int .i64 rfm)∧V.cell? ⟨g,ix*5+3,none⟩=some (.int .i64 rto)∧V.cell? ⟨g,ix*5+4,none⟩=some (.int .i64 ren)∧V.cell? ⟨X.f,6,none⟩=some (.int .i64 t)∧V.cell? ⟨X.f,9,none⟩=some (.slice (some ⟨X.lb,0,none⟩) N N)∧V.cell? ⟨X.lb,m,none⟩=some (.int .i64 lv)∧V.cell? ⟨X.f,3,none⟩=some (.int .i64 tr)∧V.cell? ⟨sb,0,none⟩=some (.string zi)∧V.cell? ⟨sb,1,none⟩=some (.slice zn.A zn.n zn.cap)∧V.cell? ⟨sb,2,none⟩=some (.int .i64 zs)∧V.cell? ⟨sb,3,none⟩=some (.slice za.A za.n za.cap)) (by kernel_rfl) (keep15 (Below.refl _ _).drew hH0H.out) (fun hHeld=>?_);refine tkS [(0,26),(1,27),(2,28),(3,29),(4,30),(5,31),(6,32),(7,33),(8,34),(9,35),(10,36),(11,37),(12,38),(13,39)] ?_;(iterate 14 (refine tkL ?_ ?_ ?_;rotate_left;(· intro w hSw;(try dsimp only at hSw);go_simp;(try with_reducible rfl));(try simp only[Act.put,tkA,tkB,tkC])));refine tkE ?_;refine tkS [(15,41),(16,42),(17,43),(18,44)] ?_;(iterate 4 (refine tkL ?_ ?_ ?_;rotate_left;(· intro w hSw;(try dsimp only at hSw);go_simp;(try with_reducible rfl));(try simp only[Act.put,tkA,tkB,tkC])));refine tkE ?_;refine wpAnyH_ready (rs:=[14]) (by kernel_rfl) (by simp) ?_
       refine AllReadyH.cons (i:=14) rfl (fun K hK=>?_) AllReadyH.nil;go_simp;go_at_call 132;refine(hlateH.out _ hHeld.1).mono ?_;rintro e w7 ⟨rfl,hb7⟩;rw[hlaH.out];have hHeld:=keep15 hb7 hHeld;clear hb7;refine hK.out _ _ hHeld (fun hHeld=>?_);clear hK K
       (try simp only[Act.put,tkA,tkB,tkC])
       refine tkS [(19,45),(20,46),(21,47)] ?_;(iterate 3 (refine tkL ?_ ?_ ?_;rotate_left;(· intro w hSw;(try dsimp only at hSw);go_simp;(try with_reducible rfl));(try simp only[Act.put,tkA,tkB,tkC])));refine tkE ?_;refine tkS [(22,48),(23,49),(24,50),(25,51),(26,52),(27,53),(28,54),(29,55),(30,56),(31,57),(32,58),(33,59),(34,60),(35,61)] ?_;(iterate 14 (refine tkL ?_ ?_ ?_;rotate_left;(· intro w hSw;(try dsimp only at hSw);go_simp;(try with_reducible rfl));(try simp only[Act.put,tkA,tkB,tkC])));refine tkE ?_;refine wpAnyH_done (by kernel_rfl) ?_ _;have R:=hnoH.out _ hHeld.1;clear hHeld;have RH:=Lib.hid R;clear R;go_wp2;refine⟨?rel,?measure⟩
       case measure=>(simp[intOf];omega)
       case rel=>first | exact RH.out | exact⟨rfl,RH.out⟩
     ·have hl':decide (la≤t)=false:=by simpa using hl
      have hno:=hno2H.out (by rw[hl'];rfl);clear hyes2H hno2H;have hnoH:=Lib.hid hno;clear hno;go_wp2_with fail;refine wp_region_held_drew (S:=fun V:World=>Below w6.heap.size w6 V∧V.cell? ⟨X.f,7,none⟩=some (.slice (some ⟨g,0,none⟩) nR cap)∧V.cell? ⟨b6,o6,none⟩=some (.int .i64 (ix:Int))∧V.cell? ⟨g,ix*5,none⟩=some (.string rid)∧V.cell? ⟨g,ix*5+1,none⟩=some (.string rwk)∧V.cell? ⟨g,ix*5+2,none⟩=some (.int .i64 rfm)∧V.cell? ⟨g,ix*5+3,none⟩=some (.int .i64 rto)∧V.cell? ⟨g,ix*5+4,none⟩=some (.int .i64 ren)∧V.cell? ⟨X.f,6,none⟩=some (.int .i64 t)∧V.cell? ⟨X.f,9,none⟩=some (.slice (some ⟨X.lb,0,none⟩) N N)∧V.cell? ⟨X.lb,m,none⟩=some (.int .i64 lv)∧V.cell? ⟨X.f,3,none⟩=some (.int .i64 tr)∧V.cell? ⟨sb,0,none⟩=some (.string zi)∧V.cell? ⟨sb,1,none⟩=some (.slice zn.A zn.n zn.cap)∧V.cell? ⟨sb,2,none⟩=some (.int .i64 zs)∧V.cell? ⟨sb,3,none⟩=some (.slice za.A za.n za.cap)) (by kernel_rfl) (keep15 (Below.refl _ _).drew hH0H.out) (fun hHeld=>?_);refine tkS [(0,26),(1,27),(2,28),(3,29),(4,30),(5,31),(6,32),(7,33),(8,34),(9,35),(10,36),(11,37),(12,38),(13,39)] ?_;(iterate 14 (refine tkL ?_ ?_ ?_;rotate_left;(· intro w hSw;(try dsimp only at hSw);go_simp;(try with_reducible rfl));(try simp only[Act.put,tkA,tkB,tkC])));refine tkE ?_;refine tkS [(15,41),(16,42),(17,43),(18,44)] ?_;(iterate 4 (refine tkL ?_ ?_ ?_;rotate_left;(· intro w hSw;(try dsimp only at hSw);go_simp;(try with_reducible rfl));(try simp only[Act.put,tkA,tkB,tkC])));refine tkE ?_;refine wpAnyH_ready (rs:=[14]) (by kernel_rfl) (by simp) ?_
      refine AllReadyH.cons (i:=14) rfl (fun K hK=>?_) AllReadyH.nil;go_simp;go_at_call 132;refine(hlateH.out _ hHeld.1).mono ?_;rintro e w7 ⟨rfl,hb7⟩;rw[hlaH.out];have hHeld:=keep15 hb7 hHeld;clear hb7;refine hK.out _ _ hHeld (fun hHeld=>?_);clear hK K
      (try simp only[Act.put,tkA,tkB,tkC])
      refine tkS [(19,45),(20,46),(21,47)] ?_;(iterate 3 (refine tkL ?_ ?_ ?_;rotate_left;(· intro w hSw;(try dsimp only at hSw);go_simp;(try with_reducible rfl));(try simp only[Act.put,tkA,tkB,tkC])));refine tkE ?_;refine tkS [(22,48),(23,49),(24,50),(25,51),(26,52),(27,53),(28,54),(29,55),(30,56),(31,57),(32,58),(33,59),(34,60)] ?_;(iterate 13 (refine skL ?_;(try simp only[Act.put,tkA,tkB,tkC])));refine tkE ?_;refine tkS [(35,61)] ?_;(iterate 1 (refine tkL ?_ ?_ ?_;rotate_left;(· intro w hSw;(try dsimp only at hSw);go_simp;(try with_reducible rfl));(try simp only[Act.put,tkA,tkB,tkC])));refine tkE ?_;refine wpAnyH_done (by kernel_rfl) ?_ _;have R:=hnoH.out _ hHeld.1;clear hHeld;have RH:=Lib.hid R;clear R;go_wp2;refine⟨?rel,?measure⟩
      case measure=>(simp[intOf];omega)
      case rel=>first | exact RH.out | exact⟨rfl,RH.out⟩
    ·have hn6v:((n6:Int)==1)=false:=by simpa using (fun e:(n6:Int)=1=>h1 (by omega))
     have hno:=fun V (hV:Below w6.heap.size w6 V)=>hnoH.out (dblR_not (by rw[hn6g];exact h1)) V (hb6.trans (hV.mono hb6.size));clear hnoH hyesH;obtain⟨hnoH,hown6H,hn6lH,hn6gH,hb6H⟩:=hqb hno hown6 hn6l hn6g (Lib.hid hb6);clear hno hown6 hn6l hn6g hb6;go_wp2_with fail;refine wp_region_held_drew (S:=fun V:World=>Below w6.heap.size w6 V) (by kernel_rfl) (Below.refl _ _).drew (fun hHeld=>?_);refine tkS [(0,26),(1,27),(2,28),(3,29)] ?_;(iterate 4 (refine tkL ?_ ?_ ?_;rotate_left;(· intro w hSw;(try dsimp only at hSw);go_simp;(try with_reducible rfl));(try simp only[Act.put,tkA,tkB,tkC])));refine tkE ?_;refine tkS [(4,30),(5,31),(6,32),(7,33),(8,34),(9,35),(10,36),(11,37),(12,38),(13,39),(14,40),(15,41),(16,42),(17,43),(18,44),(19,45)] ?_;(iterate 16 (refine skL ?_;(try simp only[Act.put,tkA,tkB,tkC])));refine tkE ?_;refine tkS [(20,46),(21,47)] ?_;(iterate 2 (refine tkL ?_ ?_ ?_;rotate_left;(· intro w hSw;(try dsimp only at hSw);go_simp;(try with_reducible rfl));(try simp only[Act.put,tkA,tkB,tkC])));refine tkE ?_;refine tkS [(22,48),(23,49),(24,50),(25,51),(26,52),(27,53),(28,54),(29,55),(30,56),(31,57),(32,58),(33,59),(34,60)] ?_;(iterate 13 (refine skL ?_;(try simp only[Act.put,tkA,tkB,tkC])));refine tkE ?_;refine tkS [(35,61)] ?_;(iterate 1 (refine tkL ?_ ?_ ?_;rotate_left;(· intro w hSw;(try dsimp only at hSw);go_simp;(try with_reducible rfl));(try simp only[Act.put,tkA,tkB,tkC])));refine tkE ?_;refine wpAnyH_done (by kernel_rfl) ?_ _;have R:=hnoH.out _ hHeld;clear hHeld;have RH:=Lib.hid R;clear R
     go_wp2;refine⟨?rel,?measure⟩
     case measure=>(simp[intOf];omega)
     case rel=>first | exact RH.out | exact⟨rfl,RH.out⟩
   ·obtain rfl:m=n:=by omega
    have R:=RZH.out wr rv hA;obtain⟨RH,hAH⟩:=hq2 R (Lib.hid hA);clear R hA;go_wp2
    go_end0
    exact RH.out
end Go.Proofs.YtbnkoefljcekbaaGreatDoor.C9