/-
 Several texts of mine as one, without what is not wanted here: XFmP, XRunsG, XSrtR.
-/
import Derived.Test.YtbnkoefljcekbaaGreatDoorPyZaC9
import Derived.Sort.Grow
set_option linter.unusedVariables false
set_option linter.unusedSimpArgs false
set_option maxRecDepth 100000
set_option maxHeartbeats 8000000
namespace Go.Proofs.YtbnkoefljcekbaaGreatDoor.C9
open Go.ChangeShapes Go.WideShapes Go.Deep Go.RowKit
def runC (F:FP) (r:RR):List Int:=[(F.endAt r.worker r.work r.from_).getD (-1),F.wto r.worker]++(if F.doubles=true then [late F r] else [])
theorem candsP_eq (F:FP) (P:List RR):candsP F P=((List.range F.nW).map F.wfrom)++P.flatMap (runC F)++F.lossAt:=rfl
theorem take_map_succ {α β:Type} (f:α→β) {L:List α} {k:Nat} {x:α} (h:L[k]? = some x):(L.take (k+1)).map f=(L.take k).map f ++ [f x]:=by rw[List.take_add_one,h,Option.toList_some,List.map_append,List.map_singleton]
def Nx1 (X:FX) (t:Int) (pb lb fb:Nat) (w:World) (i:Value) (wr:World):Prop :=
 ∃ k:Nat,k≤X.x.workers.n∧i = .int .i64 k∧NxC X t pb lb fb (seeF t ((List.range k).map X.F.wfrom)) wr∧Below w.heap.size w wr
def Nx2 (X:FX) (t:Int) (P:List RR) (pb lb fb:Nat) (w:World) (i:Value) (wr:World):Prop :=
 ∃ k:Nat,k≤P.length∧i = .int .i64 k∧NxC X t pb lb fb (seeF t ((List.range X.F.nW).map X.F.wfrom++(P.take k).flatMap (runC X.F))) wr∧Below w.heap.size w wr
def Nx3 (X:FX) (t:Int) (P:List RR) (pb lb fb:Nat) (w:World) (i:Value) (wr:World):Prop :=
 ∃ k:Nat,k≤X.x.lost.n∧i = .int .i64 k∧NxC X t pb lb fb (seeF t ((List.range X.F.nW).map X.F.wfrom++P.flatMap (runC X.F)++(X.x.lost.l.take k).map (·.at_))) wr∧Below w.heap.size w wr
def NextAns (x:Int × Bool) (w:World) (e:Ending) (w':World):Prop:=e = .returned (.tuple #[.int .i64 x.1,.bool x.2])∧Below w.heap.size w w'
theorem next_any {X:FX} {Kd:KD Tryz.prog 71 Loss} {rv ov:Value} {s:PS} {w0 w:World} (hA:FA X Kd rv ov s w0 w) (hS:FS X s w0) (hlen:s.runs.length≤900000) :
  Calls Tryz.prog 73 #[.pointer (some ⟨X.f,0,none⟩)] w (NextAns (nxV (nextP X.F s)) w):=by
 obtain⟨n1,n2,n3,n4,n5,n6⟩:=hS.nW;obtain⟨A,cap,hrv⟩:=hA.runs.form;obtain⟨n,hnn⟩:∃ n,(s.runs.map (gr X.F)).length=n:=⟨_,rfl⟩;rw[hnn]at hrv;subst hrv;have hn:n≤900000:=by rw[← hnn,List.length_map];exact hlen
 have hPl:s.runs.length=n:=by rw[← hnn,List.length_map]
 have hnx:nextP X.F s=above s.now ((List.range X.F.nW).map X.F.wfrom++s.runs.flatMap (runC X.F)++X.x.lost.l.map (·.at_)):=by
  unfold nextP;rw[candsP_eq];congr 1;obtain⟨o,e⟩:=hS.F;rw[e];rfl
 rw[hnx,← seeF_above];have hba:Below w.heap.size w (((w.alloc (.cells #[.pointer (some ⟨X.f,0,none⟩)] 54)).alloc (.cells #[.int .i64 0] 3)).alloc (.cells #[.bool false] 4)):=(((Below.refl _ _).alloc (Nat.le_refl _) _).alloc (by simp) _).alloc (by simp;omega) _;have hln:X.x.lost.l.length=X.x.lost.n:=hS.ls.1.1;have hlon:=hS.ok.lon;have hdb:X.F.doubles=X.x.doubles:=by obtain⟨o,e⟩:=hS.F;rw[e];rfl
 have hgb:=hA.core.ge X.f hA.core.memf.1;have hfl:=hA.core.lt X.f hA.core.memf.1;have eg:∀ args w,(callFunc 122 args).run Tryz.prog w = .ok (.enter 122 args) w:=enters_of Tryz.func122 (by kernel_rfl) rfl;have c0:=(hA.core.blk 0 _ rfl).1;have hst:Nx1 X s.now w.heap.size (w.heap.size+1) (w.heap.size+2) w (.int .i64 0) (((w.alloc (.cells #[.pointer (some ⟨X.f,0,none⟩)] 54)).alloc (.cells #[.int .i64 0] 3)).alloc (.cells #[.bool false] 4)):=by
  refine⟨0,Nat.zero_le _,rfl,⟨?_,?_,?_,?_,?_,?_⟩,hba⟩
  ·have:=((Boxed.new w 54 (.pointer (some ⟨X.f,0,none⟩))).alloc (.cells #[.int .i64 0] 3)).alloc (.cells #[.bool false] 4);exact this.cell
  ·exact keepC hba (hA.core.blk 7 _ rfl).1
  ·have:=(Boxed.new (w.alloc (.cells #[.pointer (some ⟨X.f,0,none⟩)] 54)) 3 (.int .i64 0)).alloc (.cells #[.bool false] 4);rw[World.size_alloc]at this;exact this.cell
  ·have:=Boxed.new ((w.alloc (.cells #[.pointer (some ⟨X.f,0,none⟩)] 54)).alloc (.cells #[.int .i64 0] 3)) 4 (.bool false);rw[World.size_alloc,World.size_alloc]at this;exact this.cell
  ·simp[go_sem]
  ·simp[go_sem]
 have c0L:=keepC hba c0;have cpL:(((w.alloc (.cells #[.pointer (some ⟨X.f,0,none⟩)] 54)).alloc (.cells #[.int .i64 0] 3)).alloc (.cells #[.bool false] 4)).cell? ⟨w.heap.size,0,none⟩=some (.pointer (some ⟨X.f,0,none⟩)):=by
  obtain⟨_,_,_,h,_⟩:=hst;exact h.p
 obtain⟨WA,hWA⟩:∃ a,X.x.workers.A=a:=⟨_,rfl⟩;rw[hWA]at c0 c0L;have n7:X.x.lost.n≤200:=by rw[← hln];exact hlon
 obtain⟨Z,hZ⟩:∃ Z,NextAns (seeF s.now ((List.range X.F.nW).map X.F.wfrom++s.runs.flatMap (runC X.F)++X.x.lost.l.map (·.at_))) w=Z:=⟨_,rfl⟩;rw[hZ];obtain⟨hZH,hAH,hSH,hnnH,hPlH,hnxH,hbaH,hlnH,hlonH,hdbH,hstH,n1H,n2H,n3H,n4H,hgbH,hWAH⟩:=hqc hZ hA hS hnn hPl hnx hba hln (hqc hlon hdb hst n1 n2 n3 n4 hgb (Lib.hid hWA));clear hZ hA hS hnn hPl hnx hba hln hlon hdb hst n1 n2 n3 n4 hgb hWA;go_enter Tryz.func73,Tryz.ntmps73;go_wp2_with fail;clear c0L cpL;obtain⟨pb,hpb⟩:∃ b,w.heap.size=b:=⟨_,rfl⟩;have hst1:=hstH.out;rw[hpb]at hst1 ⊢;have nn:pb+1≠pb+2∧pb+1≠pb∧pb+2≠pb∧pb+1≠X.f∧pb+2≠X.f:=⟨by omega,by omega,by omega,by omega,by omega⟩;have hsee:=fun (x:Int × Bool) (W:World) (a:Int) (h:NxC X s.now pb (pb+1) (pb+2) x W)=>see_any (B:=w.heap.size) a h (by omega) (by omega) (by have:=cell?_lt h.p;simp only at this;omega) nn.1 nn.2.1 nn.2.2.1 nn.2.2.2.1 nn.2.2.2.2;clear hstH;obtain⟨hst1H,hseeH,hpbH,nnH⟩:=hq2 hst1 (hq2 hsee (hq2 hpb (Lib.hid nn)));clear hst1 hsee hpb nn
 go_loopw [20] (fun i wr=>Nx1 X s.now pb (pb+1) (pb+2) w i wr) (fun i _=>X.x.workers.n-(intOf i).toNat)
 case atStart=>exact hst1H.out
 case round =>
  clear hst1H;obtain⟨k,hk,rfl,hx,hb⟩:=hrel;obtain⟨x,hxe⟩:∃ x,seeF s.now ((List.range k).map X.F.wfrom)=x:=⟨_,rfl⟩;rw[hxe]at hx;have hbs:=hb.size
  by_cases hlt:k<X.x.workers.n
  ·have hws:=hSH.out.ws.1.below (hAH.out.core.bel.trans (hb.mono hAH.out.core.bel.size));rw[hWAH.out]at hws;obtain⟨by_,oy,hA9,_⟩:=hws.2.1 (by omega);subst hA9;obtain⟨y,hy⟩:∃ y,X.x.workers.l[k]? = some y:=⟨X.x.workers.l[k]'(by have:=n3H.out;omega),List.getElem?_eq_getElem _⟩;obtain⟨d0,d1,d2,d3,d4,d5,d6⟩:=cells_Worker hws hy;have hyf:=(hSH.out.wk hy).1;obtain⟨yf,hyfe⟩:∃ f,y.from_=f:=⟨_,rfl⟩;rw[hyfe]at hyf d4;have hba9:=(Below.refl wr.heap.size wr).alloc (Nat.le_refl _) (.cells #[.string y.name,.slice y.has.A y.has.n y.has.cap,.int .i64 y.slots,.int .i64 y.speed,.int .i64 yf,.int .i64 y.to_,.slice y.stands.A y.stands.n y.stands.cap] 84);have hx9:=hx.below hba9;have hsn:seeF s.now ((List.range (k+1)).map X.F.wfrom)=see1 s.now x yf:=by
    rw[List.range_succ,List.map_append,List.map_singleton,seeF_snoc,hxe,hyf]
   have hc9:=hseeH.out x _ yf hx9;have R:∀ w5,SeeAns X s.now w.heap.size pb (pb+1) (pb+2) (see1 s.now x yf) (wr.alloc (.cells #[.string y.name,.slice y.has.A y.has.n y.has.cap,.int .i64 y.slots,.int .i64 y.speed,.int .i64 yf,.int .i64 y.to_,.slice y.stands.A y.stands.n y.stands.cap] 84)) (.returned (.tuple #[])) w5→Nx1 X s.now pb (pb+1) (pb+2) w (.int .i64 ((k:Int)+1)) w5:=by
    rintro w5 ⟨_,h5,h6,_⟩;exact⟨k+1,hlt,by go_num,by rw[hsn];exact h5,(hb.trans (hba9.mono hbs)).trans h6⟩
   clear hx hx9 hws hyf hsn hba9;obtain⟨hxeH,hbH,hyH,hyfeH,hc9H,RH⟩:=hq2 hxe (hqb hb hy hyfe hc9 (Lib.hid R));clear hxe hb hy hyfe hc9 R;go_wp2_with fail
   go_at_fn 122
   refine hc9H.out.mono ?_;rintro e w5 h5;have h50:e = .returned (.tuple #[]):=h5.1;subst h50;have R5:=RH.out w5 h5;clear h5;have R5H:=Lib.hid R5;clear R5;go_wp2;refine⟨?rel,?measure⟩
   case measure=>(simp[intOf];omega)
   case rel=>first | exact R5H.out | exact⟨rfl,R5H.out⟩
  ·obtain rfl:k=X.x.workers.n:=by omega
   have hst2:Nx2 X s.now s.runs pb (pb+1) (pb+2) w (.int .i64 0) wr:=⟨0,Nat.zero_le _,rfl,by rw[n1H.out,List.take_zero,List.flatMap_nil,List.append_nil,hxe];exact hx,hb⟩;have cp:=hx.p;have c8:=keepC (hb.mono (Nat.le_refl _)) (hAH.out.core.blk 8 _ rfl).1;clear hx hxe c0;obtain⟨hst2H,hbH⟩:=hq2 hst2 (Lib.hid hb);clear hst2 hb;go_wp2_with fail;clear cp c8
   go_loopw [34] (fun i wr=>Nx2 X s.now s.runs pb (pb+1) (pb+2) w i wr) (fun i _=>n-(intOf i).toNat)
   case atStart=>exact hst2H.out
   case round =>
    clear hst2H hbs hbH;obtain⟨k,hk,rfl,hx,hb⟩:=hrel;obtain⟨L0,hL0⟩:∃ L,(List.range X.F.nW).map X.F.wfrom=L:=⟨_,rfl⟩;rw[hL0]at hx;obtain⟨x,hxe⟩:∃ x,seeF s.now (L0++(s.runs.take k).flatMap (runC X.F))=x:=⟨_,rfl⟩;rw[hxe]at hx;have hbs:=hb.size;have hPl:=hPlH.out
    by_cases hlt2:k<n
    ·obtain⟨g,cur,hA9,_⟩:=own_block hAH.out.runs (by omega);subst hA9;obtain⟨r,hr⟩:∃ r,s.runs[k]? = some r:=⟨s.runs[k]'(by omega),List.getElem?_eq_getElem _⟩;obtain⟨hgr,_,hkW,hiX,hf0,hf1⟩:=hSH.out.rn r (List.mem_of_getElem? hr);have hAr:=hAH.out;obtain⟨e0,e1,e2,e3⟩:=cells_GRun (hAr.runs.slAt.below hb) (x:=gr X.F r) (by rw[List.getElem?_map,hr];rfl);rw[Nat.zero_add]at e0 e1 e2 e3;obtain⟨y,hy⟩:∃ y,X.x.workers.l[r.worker]? = some y:=⟨X.x.workers.l[r.worker]'(by have:=n1H.out;have:=n3H.out;omega),List.getElem?_eq_getElem _⟩;obtain⟨by_,oy,hYA,_⟩:=(hSH.out.ws.1).2.1 (by have:=n1H.out;omega);have hwto:=(hSH.out.wk hy).2.1;have hC:FC X Kd (.slice (some ⟨g,0,none⟩) n cap) ov s w0 wr:=hAr.core.below hb;have c0:=(hC.blk 0 _ rfl).1;have c4:=(hC.blk 4 _ rfl).1;rw[hYA]at c0;have hws:=hSH.out.ws.1.below hC.bel;rw[hYA]at hws;have d5:=(cells_Worker hws hy).2.2.2.2.2.1;have t1:=hSH.out.t1;obtain⟨ed,hed⟩:∃ e,(gr X.F r).end_=e:=⟨_,rfl⟩;have hev:(X.F.endAt r.worker r.work r.from_).getD (-1)=ed:=hed;have hrc:runC X.F r = [ed,y.to_]++(if X.F.doubles=true then [late X.F r] else []):=by unfold runC;rw[hev,hwto]
     obtain⟨lt,hltv⟩:∃ l,late X.F r=l:=⟨_,rfl⟩;rw[hltv]at hrc;have hsl:=fun W (h:Below w.heap.size w W)=>slow_any (hAr.core.below h) hSH.out hkW hiX hf0 (by omega) ed;rw[hltv]at hsl;replace e0:wr.cell? ⟨g,k*4,none⟩=some (.int .i64 r.work):=e0;replace e1:wr.cell? ⟨g,k*4+1,none⟩=some (.int .i64 r.worker):=e1;replace e2:wr.cell? ⟨g,k*4+2,none⟩=some (.int .i64 r.from_):=e2;rw[hed]at e3;obtain⟨iw,hiw⟩:∃ q,r.work=q:=⟨_,rfl⟩;obtain⟨ik,hik⟩:∃ q,r.worker=q:=⟨_,rfl⟩;obtain⟨ifr,hifr⟩:∃ q,r.from_=q:=⟨_,rfl⟩;rw[hiw]at e0 hsl;rw[hik]at e1 hsl d5 hkW;rw[hifr]at e2 hsl;have hba9:=(Below.refl wr.heap.size wr).alloc (Nat.le_refl _) (.cells #[.int .i64 iw,.int .i64 ik,.int .i64 ifr,.int .i64 ed] 144);have hx9:=hx.below hba9;have cl1:=hx.l;have cf1:=hx.f;have hc9:=hseeH.out x _ ed hx9;have hsn:seeF s.now (L0++(s.runs.take (k+1)).flatMap (runC X.F))=if X.F.doubles=true then see1 s.now (see1 s.now (see1 s.now x ed) y.to_) lt else see1 s.now (see1 s.now x ed) y.to_:=by
      rw[List.take_add_one,hr,Option.toList_some,List.flatMap_append,List.flatMap_singleton,hrc,← List.append_assoc]
      split
      ·rw[← List.append_assoc,seeF_snoc,show ([ed,y.to_]:List Int) = [ed] ++ [y.to_] from rfl,← List.append_assoc,seeF_snoc,seeF_snoc,hxe]
      ·rw[List.append_nil,show ([ed,y.to_]:List Int) = [ed] ++ [y.to_] from rfl,← List.append_assoc,seeF_snoc,seeF_snoc,hxe]
     have hgbl:g ∉ X.bl:=fun hm=>hAr.rap g hm rfl;have hkW2:ik<X.x.workers.n:=by have:=n1H.out;omega
     have hk1:k+1≤s.runs.length:=by omega
     clear hx hx9 hws hwto hev hrc hf0 hf1;obtain⟨cl1H,cf1H,hL0H,hxeH,hbH,hrH,hArH,hyH,hYAH,hedH,hltvH,hslH,hiwH,hikH,hifrH,hba9H,hc9H,hsnH,hCH,hgblH,hPlH⟩:=hqb cl1 cf1 hL0 hxe (hqc hb hr hAr hy hYA hed hltv hsl (hqc hiw hik hifr hba9 hc9 hsn hC hgbl (Lib.hid hPl)));clear cl1 cf1 hL0 hxe hb hr hAr hy hYA hed hltv hsl hiw hik hifr hba9 hc9 hsn hC hgbl hPl;go_wp2_with fail
     go_at_fn 122
     refine hc9H.out.mono ?_;rintro e w5 ⟨rfl,h5,h6,h7,h8⟩;have hrbn:wr.heap.size≠pb+1∧wr.heap.size≠pb+2:=by
      have a:=cell?_lt cl1H.out;have b:=cell?_lt cf1H.out;simp only at a b;omega
     have hkp:∀ c j u,c≠pb+1→c≠pb+2→(wr.alloc (.cells #[.int .i64 iw,.int .i64 ik,.int .i64 ifr,.int .i64 ed] 144)).cell? ⟨c,j,none⟩=some u→w5.cell? ⟨c,j,none⟩=some u:=fun c j u a1 a2 h=>(World.cell?_of_block (a:=⟨c,j,none⟩) (h8 c a1 a2 (cell?_lt h))).trans h;have v0:=hkp _ _ _ hrbn.1 hrbn.2 (cell_new wr #[.int .i64 iw,.int .i64 ik,.int .i64 ifr,.int .i64 ed] 144 0);have v1:=hkp _ _ _ hrbn.1 hrbn.2 (cell_new wr #[.int .i64 iw,.int .i64 ik,.int .i64 ifr,.int .i64 ed] 144 1);have v2:=hkp _ _ _ hrbn.1 hrbn.2 (cell_new wr #[.int .i64 iw,.int .i64 ik,.int .i64 ifr,.int .i64 ed] 144 2);have v3:=hkp _ _ _ hrbn.1 hrbn.2 (cell_new wr #[.int .i64 iw,.int .i64 ik,.int .i64 ifr,.int .i64 ed] 144 3);have hb5:Below w.heap.size w w5:=(hbH.out.trans (hba9H.out.mono hbs)).trans h6;have hC5:FC X Kd (.slice (some ⟨g,0,none⟩) n cap) ov s w0 w5:=hArH.out.core.below hb5;have k0:=(hC5.blk 0 _ rfl).1;rw[hYAH.out]at k0;have hws5:=hSH.out.ws.1.below hC5.bel;rw[hYAH.out]at hws5;have k5:=(cells_Worker hws5 hyH.out).2.2.2.2.2.1;rw[hikH.out]at k5;have hT0:(fun w':World=>w'.cell? ⟨pb,0,none⟩=some (.pointer (some ⟨X.f,0,none⟩))∧w'.cell? ⟨X.f,0,none⟩=some (.slice (some ⟨by_,oy,none⟩) X.x.workers.n X.x.workers.cap)∧w'.cell? ⟨wr.heap.size,1,none⟩=some (.int .i64 ik)∧w'.cell? ⟨by_,oy+ik*7+5,none⟩=some (.int .i64 y.to_)) w5:=⟨h5.p,k0,v1,k5⟩;have hx5:=h5.below (Below.refl _ _).drew;have hc5:=hseeH.out _ _ y.to_ hx5
     have h5p:=h5.p;obtain⟨rb,hrb⟩:∃ b,wr.heap.size=b:=⟨_,rfl⟩;rw[hrb]at v0 v1 v2 v3 hT0 hrbn ⊢;have hrlt:=cell?_lt v0;simp only at hrlt;have hbyl:by_<w.heap.size:=by
      have:=hSH.out.ws.1.below hArH.out.core.bel;rw[hYAH.out]at this;exact cell?_lt (cells_Worker this hyH.out).1
     clear h5 h6 h7 h8 hws5 hx5 k0 k5 hkp c0 d5 e0 e1 e2 e3 c4;obtain⟨hb5H,hC5H,hc5H,hT0H,hrbH⟩:=hqb hb5 hC5 hc5 hT0 (Lib.hid hrb);clear hb5 hC5 hc5 hT0 hrb;have hT0:=hT0H.out;go_wp2_with fail;refine wp_region_held_drew (S:=fun w':World=>w'.cell? ⟨pb,0,none⟩=some (.pointer (some ⟨X.f,0,none⟩))∧w'.cell? ⟨X.f,0,none⟩=some (.slice (some ⟨by_,oy,none⟩) X.x.workers.n X.x.workers.cap)∧w'.cell? ⟨rb,1,none⟩=some (.int .i64 ik)∧w'.cell? ⟨by_,oy+ik*7+5,none⟩=some (.int .i64 y.to_)) (by kernel_rfl) hT0 (fun hHeld=>?_);refine tkS [(0,42),(1,43),(2,44),(3,45),(4,46),(5,47),(6,48),(7,49),(8,50),(9,51),(10,52)] ?_;(iterate 11 (refine tkL ?_ ?_ ?_;rotate_left;(· intro w hSw;(try dsimp only at hSw);go_simp;(try with_reducible rfl));(try simp only[Act.put,tkA,tkB,tkC])));refine tkE ?_;refine wpAnyH_ready (rs:=[11]) (by kernel_rfl) (by simp) ?_;refine AllReadyH.cons (i:=11) rfl (fun K hK=>?_) AllReadyH.nil;go_simp
     go_at_fn 122
     refine hc5H.out.mono ?_;rintro e w6 ⟨rfl,h5,h6,h7,h8⟩;have hkp:∀ c j u,c≠pb+1→c≠pb+2→w5.cell? ⟨c,j,none⟩=some u→w6.cell? ⟨c,j,none⟩=some u:=fun c j u a1 a2 h=>(World.cell?_of_block (a:=⟨c,j,none⟩) (h8 c a1 a2 (cell?_lt h))).trans h;have v0':=hkp _ _ _ hrbn.1 hrbn.2 v0;have v1':=hkp _ _ _ hrbn.1 hrbn.2 v1;have v2':=hkp _ _ _ hrbn.1 hrbn.2 v2;have v3':=hkp _ _ _ hrbn.1 hrbn.2 v3;have hpb2:=hpbH.out;have hHeld:w6.cell? ⟨pb,0,none⟩=some (.pointer (some ⟨X.f,0,none⟩))∧w6.cell? ⟨X.f,0,none⟩=some (.slice (some ⟨by_,oy,none⟩) X.x.workers.n X.x.workers.cap)∧w6.cell? ⟨rb,1,none⟩=some (.int .i64 ik)∧w6.cell? ⟨by_,oy+ik*7+5,none⟩=some (.int .i64 y.to_) :=
      ⟨h5.p,hkp _ _ _ (by omega) (by omega) hHeld.2.1,v1',hkp _ _ _ (by omega) (by omega) hHeld.2.2.2⟩
     have hb6:Below w.heap.size w w6:=hb5H.out.trans ((Below.refl w.heap.size w5).drew.trans h6);have hC6:FC X Kd (.slice (some ⟨g,0,none⟩) n cap) ov s w0 w6:=hArH.out.core.below hb6;have k4:=(hC6.blk 4 _ rfl).1;clear v0 v1 v2 v3 h6 h7 h8 hkp hpb2;obtain⟨hb6H,hC6H,h5H⟩:=hq2 hb6 (hq2 hC6 (Lib.hid h5));clear hb6 hC6 h5;refine hK.out _ _ hHeld (fun hHeld=>?_);clear hK K
     (try simp only[Act.put,tkA,tkB,tkC])
     refine wpAnyH_done (by kernel_rfl) ?_ _;have h5p:=hHeld.1;clear hHeld hT0;obtain⟨dbv,hdbv⟩:∃ b,X.x.doubles=b:=⟨_,rfl⟩;rw[hdbv]at k4;have hsn:=hsnH.out;rw[hdbH.out,hdbv]at hsn
     cases dbv
     ·rw[if_neg (by decide)]at hsn;have R:Nx2 X s.now s.runs pb (pb+1) (pb+2) w (.int .i64 ((k:Int)+1)) w6:=⟨k+1,hk1,by go_num,by rw[hL0H.out,hsn];exact h5H.out,hb6H.out⟩;clear hsn;obtain⟨RH,hdbvH⟩:=hq2 R (Lib.hid hdbv);clear R hdbv;go_wp2;refine⟨?rel,?measure⟩
      case measure=>(simp[intOf];omega)
      case rel=>first | exact RH.out | exact⟨rfl,RH.out⟩
     ·rw[if_pos rfl]at hsn;have hs6:=hslH.out w6 hb6H.out;have R:∀ w7 w8,Below w6.heap.size w6 w7→SeeAns X s.now w.heap.size pb (pb+1) (pb+2) (see1 s.now (see1 s.now (see1 s.now x ed) y.to_) lt) w7 (.returned (.tuple #[])) w8→Nx2 X s.now s.runs pb (pb+1) (pb+2) w (.int .i64 ((k:Int)+1)) w8:=by
       rintro w7 w8 h67 ⟨_,h9,h10,_⟩;exact⟨k+1,hk1,by go_num,by rw[hL0H.out,hsn];exact h9,(hb6H.out.trans (h67.mono hb6H.out.size)).trans h10⟩
      clear hsn;obtain⟨RH,hdbvH,hs6H⟩:=hq2 R (hq2 hdbv (Lib.hid hs6));clear R hdbv hs6;go_wp2_with fail;refine hs6H.out.mono ?_;rintro e w7 ⟨rfl,h67⟩;have hx7:=h5H.out.below h67;have hc7:=hseeH.out _ _ lt hx7;have R7:=fun w8=>RH.out w7 w8 h67;clear h67 hx7;obtain⟨hc7H,R7H⟩:=hq2 hc7 (Lib.hid R7);clear hc7 R7;go_wp2_with fail
      go_at_fn 122
      refine hc7H.out.mono ?_;rintro e w8 h8;have h80:e = .returned (.tuple #[]):=h8.1;subst h80;have R8:=R7H.out w8 h8;clear h8;have R8H:=Lib.hid R8;clear R8;go_wp2;refine⟨?rel,?measure⟩
      case measure=>(simp[intOf];omega)
      case rel=>first | exact R8H.out | exact⟨rfl,R8H.out⟩
    ·obtain rfl:k=n:=by omega
     have hst3:Nx3 X s.now s.runs pb (pb+1) (pb+2) w (.int .i64 0) wr:=by
      refine⟨0,Nat.zero_le _,rfl,?_,hb⟩;rw[List.take_zero,List.map_nil,List.append_nil,hL0];rw[List.take_of_length_le (by omega)]at hxe;rw[hxe];exact hx
     have cp:=hx.p;have c2:=(hAH.out.core.below hb).blk 2 _ rfl |>.1;obtain⟨LA,hLA⟩:∃ a,X.x.lost.A=a:=⟨_,rfl⟩;rw[hLA]at c2;clear hx hxe hL0 hPl;obtain⟨hst3H,hbH,hLAH⟩:=hq2 hst3 (hq2 hb (Lib.hid hLA));clear hst3 hb hLA;go_wp2_with fail;clear cp c2
     go_loopw [71] (fun i wr=>Nx3 X s.now s.runs pb (pb+1) (pb+2) w i wr) (fun i _=>X.x.lost.n-(intOf i).toNat)
     case atStart=>exact hst3H.out
     case round =>
      clear hst3H hbs hbH;obtain⟨q,hq,rfl,hx,hb⟩:=hrel;obtain⟨L1,hL1⟩:∃ L,(List.range X.F.nW).map X.F.wfrom++s.runs.flatMap (runC X.F)=L:=⟨_,rfl⟩;rw[hL1]at hx;obtain⟨x,hxe⟩:∃ x,seeF s.now (L1++(X.x.lost.l.take q).map (·.at_))=x:=⟨_,rfl⟩;rw[hxe]at hx;have hbs:=hb.size
      by_cases hlt3:q<X.x.lost.n
      ·have hls:=hSH.out.ls.1.below (hAH.out.core.bel.trans (hb.mono hAH.out.core.bel.size));rw[hLAH.out]at hls;obtain⟨bl_,ol,hA9,_⟩:=hls.2.1 (by omega);subst hA9;obtain⟨y,hy⟩:∃ y,X.x.lost.l[q]? = some y:=⟨X.x.lost.l[q]'(by have:=hlnH.out;omega),List.getElem?_eq_getElem _⟩;obtain⟨d0,d1⟩:=cells_Loss hls hy;have hba9:=(Below.refl wr.heap.size wr).alloc (Nat.le_refl _) (.cells #[.string y.worker,.int .i64 y.at_] 71);have hx9:=hx.below hba9;have hsn:seeF s.now (L1++(X.x.lost.l.take (q+1)).map (·.at_))=see1 s.now x y.at_:=by
        rw[take_map_succ _ hy,← List.append_assoc,seeF_snoc,hxe]
       have hc9:=hseeH.out x _ y.at_ hx9;have R:∀ w5,SeeAns X s.now w.heap.size pb (pb+1) (pb+2) (see1 s.now x y.at_) (wr.alloc (.cells #[.string y.worker,.int .i64 y.at_] 71)) (.returned (.tuple #[])) w5→Nx3 X s.now s.runs pb (pb+1) (pb+2) w (.int .i64 ((q:Int)+1)) w5:=by
        rintro w5 ⟨_,h5,h6,_⟩;exact⟨q+1,hlt3,by go_num,by rw[hL1,hsn];exact h5,(hb.trans (hba9.mono hbs)).trans h6⟩
       clear hx hx9 hls hsn hba9;obtain⟨hxeH,hbH,hyH,hc9H,RH,hL1H⟩:=hq2 hxe (hqb hb hy hc9 R (Lib.hid hL1));clear hxe hb hy hc9 R hL1;go_wp2_with fail
       go_at_fn 122
       refine hc9H.out.mono ?_;rintro e w5 h5;have h50:e = .returned (.tuple #[]):=h5.1;subst h50;have R5:=RH.out w5 h5;clear h5;have R5H:=Lib.hid R5;clear R5;go_wp2;refine⟨?rel,?measure⟩
       case measure=>(simp[intOf];omega)
       case rel=>first | exact R5H.out | exact⟨rfl,R5H.out⟩
      ·obtain rfl:q=X.x.lost.n:=by omega
       rw[List.take_of_length_le (by have:=hlnH.out;omega),← hL1]at hxe;have hl:=hx.l;have hf:=hx.f;have R:∀ q,Z (.returned (.tuple #[.int .i64 x.1,.bool x.2])) (wr.drewN q):=fun q=>by rw[← hZH.out];exact⟨by rw[hxe],bel_drewN hb q⟩
       clear hx hxe hL1;obtain⟨RH,hbH⟩:=hq2 R (Lib.hid hb);clear R hb;go_wp2_with fail
       go_quiet (fail)
       go_wp2;exact RH.out _
end Go.Proofs.YtbnkoefljcekbaaGreatDoor.C9
namespace Go.Proofs.YtbnkoefljcekbaaGreatDoor.C9
open Go.RowKit Go.Sort
theorem compareRuns_grow (a b:Run) (w:World) (c:Int) (hF:runCmp a b=c) :
  Calls Tryz.prog 59 #[.agg #[.string a.id_,.string a.worker,.int .i64 a.from_,.int .i64 a.to_,.int .i64 a.end_],.agg #[.string b.id_,.string b.worker,.int .i64 b.from_,.int .i64 b.to_,.int .i64 b.end_]] w fun e w'=>e = .returned (.int .i64 c)∧∃ q os',w'=grow (w.drewN q) os':=by
 have hba:=((Below.refl w.heap.size w).alloc (Nat.le_refl _) (.cells #[.string a.id_,.string a.worker,.int .i64 a.from_,.int .i64 a.to_,.int .i64 a.end_] 34)).alloc (by simp) (.cells #[.string b.id_,.string b.worker,.int .i64 b.from_,.int .i64 b.to_,.int .i64 b.end_] 34);obtain⟨w0,hw0⟩:∃ w0,w0=(w.alloc (.cells #[.string a.id_,.string a.worker,.int .i64 a.from_,.int .i64 a.to_,.int .i64 a.end_] 34)).alloc (.cells #[.string b.id_,.string b.worker,.int .i64 b.from_,.int .i64 b.to_,.int .i64 b.end_] 34):=⟨_,rfl⟩;rw[← hw0]at hba;obtain⟨hbaH,hFH,hw0H⟩:=hq2 hba (hq2 hF (Lib.hid hw0));clear hba hF hw0;go_enter Tryz.func59,Tryz.ntmps59;go_wp2_with fail
 go_region_held3 (fun w'=>w'.cell? ⟨w.heap.size,2,none⟩=some (.int .i64 a.from_)∧w'.cell? ⟨w.heap.size+1,2,none⟩=some (.int .i64 b.from_)∧w'.cell? ⟨w.heap.size,0,none⟩=some (.string a.id_)∧w'.cell? ⟨w.heap.size+1,0,none⟩=some (.string b.id_)∧w'.cell? ⟨w.heap.size,1,none⟩=some (.string a.worker)∧w'.cell? ⟨w.heap.size+1,1,none⟩=some (.string b.worker)) (go_keep)
  (first
   | (go_at_call 41;refine(Tryz.cmp_Compare_int _ _ _).mono ?_;rintro e w1 ⟨rfl,rfl⟩)
   | (go_at_call 42;refine(Tryz.strings_Compare _ _ _).mono ?_;rintro e w1 ⟨rfl,rfl⟩)
   | (go_at_call 40;refine(or_any _ 3 _ [Lib.compareInt a.from_ b.from_,cmpS a.id_ b.id_,cmpS a.worker b.worker] _ (by omega) (or_cells rfl ?_ ?_ ?_ (I64_of (cmpI_range _ _)) (I64_of (cmpS_range _ _)) (I64_of (cmpS_range _ _))) c (by exact hFH.out)).mono ?_;(simp[go_sem]);(simp[go_sem];rfl);(simp[go_sem];rfl);rintro e w1 ⟨rfl,rfl⟩))
 go_wp2;go_ret;obtain rfl:=hw0H.out;exact⟨rfl,_,#[_,_,_],rfl⟩
end Go.Proofs.YtbnkoefljcekbaaGreatDoor.C9
namespace Go.Proofs.YtbnkoefljcekbaaGreatDoor.C9
open Go.ChangeShapes Go.WideShapes Go.Deep Go.RowKit Go.Sort
theorem cmpS_le {a b c:ByteArray} (h1:cmpS a b≤0) (h2:cmpS b c≤0):cmpS a c≤0:=by
 rcases cmpS_range a b with e | e | e
 ·rcases cmpS_range b c with f | f | f
  ·rw[cmpS_trans e f];omega
  ·rw[cmpS_zero]at f;subst f;omega
  ·omega
 ·rw[cmpS_zero]at e;subst e;exact h2
 ·omega
theorem runCmp_swap (a b:Run):runCmp b a = - runCmp a b:=by
 rw[runCmp_eq,runCmp_eq]
 by_cases h1:a.from_=b.from_
 ·rw[if_pos h1,if_pos h1.symm]
  by_cases h2:a.id_=b.id_
  ·rw[if_pos h2,if_pos h2.symm];exact cmpS_swap _ _
  ·rw[if_neg h2,if_neg (Ne.symm h2)];exact cmpS_swap _ _
 ·rw[if_neg h1,if_neg (Ne.symm h1)]
  by_cases h3:a.from_<b.from_
  ·rw[if_pos h3,if_neg (by omega)];rfl
  ·rw[if_neg h3,if_pos (by omega)]
theorem runCmp_le_trans {a b c:Run} (h1:runCmp a b≤0) (h2:runCmp b c≤0):runCmp a c≤0:=by
 rw[runCmp_eq]at h1 h2 ⊢
 by_cases e1:a.from_=b.from_
 ·by_cases e2:b.from_=c.from_
  ·rw[if_pos e1]at h1;rw[if_pos e2]at h2;rw[if_pos (e1.trans e2)]
   by_cases i1:a.id_=b.id_
   ·by_cases i2:b.id_=c.id_
    ·rw[if_pos i1]at h1;rw[if_pos i2]at h2;rw[if_pos (i1.trans i2)];exact cmpS_le h1 h2
    ·rw[if_neg i2]at h2;rw[if_neg (by rw[i1];exact i2),i1];exact h2
   ·rw[if_neg i1]at h1
    by_cases i2:b.id_=c.id_
    ·rw[if_neg (by rw[← i2];exact i1),← i2];exact h1
    ·rw[if_neg i2]at h2;have:=cmpS_le h1 h2
     by_cases i3:a.id_=c.id_
     ·exfalso;rw[← i3,cmpS_swap]at h2;have:cmpS a.id_ b.id_=0:=by omega
      rw[cmpS_zero]at this;exact i1 this
     ·rw[if_neg i3];exact this
  ·rw[if_neg e2]at h2;rw[if_neg (by omega)]
   split at h2
   ·rw[if_pos (by omega)];omega
   ·omega
 ·rw[if_neg e1]at h1
  split at h1
  ·by_cases e2:b.from_=c.from_
   ·rw[if_neg (by omega),if_pos (by omega)];omega
   ·rw[if_neg e2]at h2
    split at h2
    ·rw[if_neg (by omega),if_pos (by omega)];omega
    ·omega
  ·omega
theorem ltR (x y:Run):ltOf runCmp x y=decide (runCmp x y<0):=rfl
theorem swoR:SWO (ltOf runCmp) where
 irrefl x:=by
  rw[ltR];have:=runCmp_swap x x;simp;omega
 trans x y z h1 h2:=by
  rw[ltR]at *;simp only[decide_eq_true_eq]at *;have a:=runCmp_le_trans (Int.le_of_lt h1) (Int.le_of_lt h2);apply Classical.byContradiction;intro hn;have hz:runCmp z x≤0:=by rw[runCmp_swap];omega
  have:=runCmp_le_trans hz (Int.le_of_lt h1);rw[runCmp_swap]at this;omega
 ntrans x y z h1 h2:=by
  rw[ltR]at *;simp only[decide_eq_false_iff_not]at *;have a:runCmp y x≤0:=by rw[runCmp_swap];omega
  have b:runCmp z y≤0:=by rw[runCmp_swap];omega
  have:=runCmp_le_trans b a;rw[runCmp_swap]at this;omega
def SrtRAns (base:Nat) (v:Value) (x:Farm) (P:List RR) (w:World) (e:Ending) (w':World):Prop :=
 e = .returned (.tuple #[])∧∃ P':List RR,P'.Perm P∧(P'.Pairwise fun a b=>runCmp (toRun x a) (toRun x b)≤0)∧Own RRun 34 w' base v (P'.map (toRun x))∧w.grownBy w' v.ownBlock
theorem sortR_any (A:Option Addr) (n cap:Nat) (x:Farm) (P:List RR) (w:World) (base:Nat) (hO:Own RRun 34 w base (.slice A n cap) (P.map (toRun x))) (hn:n≤1000000) :
  Calls Tryz.prog 74 #[.slice A n cap,.func (.func 59) #[] #[]] w (SrtRAns base (.slice A n cap) x P w):=by
 have hl:=hO.len
 rcases hO.1.2 with ⟨hv,h0⟩ | ⟨g,cap',cur,hv,_⟩
 ·injection hv with e1 e2 e3;subst e1 e2 e3;have hP0:P = []:=by cases P with
   | nil=>rfl
   | cons a b=>simp at h0
  subst hP0;have hcon:=AnyF.slices_SortFunc_none { Tryz.sortR with } none 0 (.func (.func 59) #[] #[]) w
  change Calls Tryz.prog 74 _ _ _ at hcon
  refine hcon.mono ?_;rintro e w' ⟨rfl,rfl⟩;exact⟨rfl,[],List.Perm.refl _,List.Pairwise.nil,hO,World.grownBy.refl _ _⟩
 ·injection hv with e1 e2 e3;subst e1 e3;clear e2;have eg:∀ args w,(callFunc 59 args).run Tryz.prog w = .ok (.enter 59 args) w:=enters_of Tryz.func59 (by kernel_rfl) rfl;have hH:=holdsK_of_own hO;have hsz:(P.map (toRun x)).toArray.size=n:=by simpa using hl
  have hcon:=AnyQ.slices_SortFunc Tryz.sortR 5 Tryz.isAgg34 Tryz.sizeOf34 RRun.vals (fun _=>rfl) RRun.one runCmp swoR 59 #[] g 0 cap (P.map (toRun x)).toArray w eg
   (fun m os dk _ a b=>compareRuns_grow a b _ _ rfl) hH (hO.1.lt g rfl).2 (by rw[hsz];omega)
  change Calls Tryz.prog 74 _ _ _ at hcon
  rw[hsz]at hcon;refine hcon.mono ?_;rintro e w' ⟨rfl,d',m,os,hp,hs,rfl⟩;rw[← hsz]at hp hs;obtain⟨p1,p2⟩:=perm_of_in hp;obtain⟨P',h1,h2⟩:=perm_map_inv p1 P rfl;have hso:=sorted_of_in p2 hs;rw[h2]at hso;have hd:d'=(P'.map (toRun x)).toArray:=by rw[← h2]
  have hlen:(P'.map (toRun x)).length=n:=by rw[← hl,List.length_map,List.length_map];exact h1.length_eq
  refine⟨rfl,P',h1,?_,?_,?_⟩
  ·rw[List.pairwise_map]at hso;refine hso.imp fun {a b} hab=>?_;rw[ltR]at hab;simp only[decide_eq_false_iff_not]at hab;rw[runCmp_swap];omega
  ·rw[hd];refine own_sortK hO _ hlen m os (fun y hy=>?_);obtain⟨r,hr,rfl⟩:=List.mem_map.1 hy;exact run_ok_any w _ _ (hO.2 _ (List.mem_map_of_mem (h1.mem_iff.1 hr)))
  ·exact grown_sortK _ _ _
end Go.Proofs.YtbnkoefljcekbaaGreatDoor.C9