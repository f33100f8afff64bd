/-
 Several texts of mine as one, without what is not wanted here: XFmJ, XFmK, XFstQ, XFmL.
-/
import Derived.Test.YtbnkoefljcekbaaGreatDoorPyYC9
set_option linter.unusedVariables false
set_option linter.unusedSimpArgs false
set_option maxRecDepth 100000
set_option maxHeartbeats 8000000
namespace Go.Proofs.YtbnkoefljcekbaaGreatDoor.C9
open Go.ChangeShapes Go.WideShapes Go.Deep Go.RowKit Go.Maps
def LsI (X:FX) (rv:Value) (s:PS) (w0:World) (rb pb:Nat) (k:Nat) (W:World):Prop :=
 ∃ ov',FC X KLo rv ov' (lsS X.F s k) w0 W∧ov'.ownBlock≠some rb∧ov'.ownBlock≠some pb∧W.cell? ⟨pb,0,none⟩=some (.pointer (some ⟨X.f,0,none⟩))∧rb<W.heap.size
theorem ls_del {X:FX} {rv:Value} {s:PS} {w0:World} {rb pb:Nat} (hS:FS X s w0) (hlen:s.out.length+s.runs.length≤900000) (hlo:∀ k r,s.runs[k]? = some r→0≤(lsS X.F s k).lost r.work∧(lsS X.F s k).lost r.work≤900000)
  (nb:rb ∉ X.bl∧pb ∉ X.bl) (hrb:X.base≤rb) (nrb:rb≠pb) :
  DelP 116 #[.pointer (some ⟨pb,0,none⟩)] (fun x=>goes X.F x.worker.toNat s.now) (s.runs.map (gr X.F)) rb (LsI X rv s w0 rb pb):=by
 obtain⟨b1,b3⟩:=nb;refine⟨fun k W W' h hg=>?_,fun k x W0 W hx hI hW=>?_⟩
 ·obtain⟨ov',h1,h2,h4,h7,h9⟩:=h;refine⟨ov',h1.far hg (fun b hb=>by injection hb with hb;subst hb;exact⟨b1,h2,hrb⟩),h2,h4,hg.cell h7 (by simp;omega),Nat.lt_of_lt_of_le h9 hg.size⟩
 ·obtain⟨ov',h1,h2,h4,h7,hrl0⟩:=hI;rw[List.getElem?_map]at hx;obtain⟨r,hr,rfl⟩:=Option.map_eq_some_iff.1 hx;have hsz:=hW.size;have hp0:=cell?_lt h7;have hf2:=lose1_any (h1.below hW) hS hr hlen (hlo k r hr) b3 (keepC hW h7);refine hf2.mono ?_;rintro e w' ⟨rfl,ov2,k1,k2,k3,k4⟩;have hne:∀ b,b<W0.heap.size→ov'.ownBlock≠some b→ov2.ownBlock≠some b:=fun b hb hn e=>by
   rcases k2 b e with h | h
   ·exact hn h
   ·omega
  have hkp:∀ b,b<W0.heap.size→b ∉ X.bl→ov'.ownBlock≠some b→w'.heap[b]? = W.heap[b]?:=fun b hb h1 h2=>k4 b (by omega) h1 h2;refine⟨by rw[show (gr X.F r).worker.toNat=r.worker from rfl],⟨ov2,k1,hne rb hrl0 h2,hne pb hp0 h4,?_,by omega⟩,k3,fun b hb hlt=>?_⟩
  ·exact(World.cell?_of_block (a:=⟨pb,0,none⟩) (hkp pb hp0 b3 h4)).trans (keepC hW h7)
  ·rcases hb with rfl | hb
   ·exact k4 b (by omega) b1 h2
   ·refine k4 b hlt (fun hm=>?_) (fun e=>?_)
    ·have:=h1.lt b hm;omega
    ·have:=(h1.out.1.lt b e).2;omega
def LoseAns (X:FX) (s:PS) (w0:World) (e:Ending) (w':World):Prop :=
 e = .returned (.tuple #[])∧∃ (rv' ov':Value),FA X KLo rv' ov' (loseP X.F s) w0 w'
theorem lose_any {X:FX} {rv ov:Value} {s:PS} {w0 w:World} (hA:FA X KLo rv ov s w0 w) (hS:FS X s w0) (hlen:s.out.length+s.runs.length≤900000) (hlo:∀ k r,s.runs[k]? = some r→0≤(lsS X.F s k).lost r.work∧(lsS X.F s k).lost r.work≤900000) :
  Calls Tryz.prog 70 #[.pointer (some ⟨X.f,0,none⟩)] w (LoseAns X s w0):=by
 have hba:=(Below.refl w.heap.size w).alloc (Nat.le_refl _) (.cells #[.pointer (some ⟨X.f,0,none⟩)] 54);have b0:=Boxed.new w 54 (.pointer (some ⟨X.f,0,none⟩));have hA1:=hA.below hba;have hnew:=hA.new;have c8:=(hA1.core.blk 8 _ rfl).1;have f8:=(hA1.core.blk 8 _ rfl).2;have q0:=b0.cell;obtain⟨W1,hW1⟩:∃ Y,w.alloc (.cells #[.pointer (some ⟨X.f,0,none⟩)] 54)=Y:=⟨_,rfl⟩;rw[hW1]at c8 f8 q0 hA1 hba;have eg:∀ args w,(callFunc 116 args).run Tryz.prog w = .ok (.enter 116 args) w:=enters_of Tryz.func116 (by kernel_rfl) rfl;obtain⟨pb,hpb⟩:∃ b,w.heap.size=b:=⟨_,rfl⟩;rw[hpb]at q0 hnew;have hlen1:s.runs.length≤900000:=by omega
 rcases hA1.runs.1.2 with ⟨hv,h0⟩ | ⟨g,cap,cur,hv,hgb,_⟩
 ·subst hv;have hP0:s.runs = []:=by cases hs:s.runs with
   | nil=>rfl
   | cons a b=>rw[hs]at h0;simp at h0
  have hfn:=lsS_all X.F s;rw[hP0,show ([]:List RR).length=0 from rfl,lsS_zero]at hfn;have R:∀ W,Below W1.heap.size W1 W→LoseAns X s w0 (.returned (.tuple #[])) (W.setCell ⟨X.f,8,none⟩ (.slice none 0 0)):=by
   intro W hW;refine⟨rfl,.slice none 0 0,ov,?_⟩;rw[← hfn];exact⟨(hA1.core.below hW).setRuns _ _,Own.nil _ _,(fun b _ e=>by cases e),fun b e=>by cases e⟩
  clear b0;obtain⟨hAH,hSH,hloH,hbaH,hA1H,hnewH,hW1H,hpbH,hP0H,hfnH,RH⟩:=hq2 hA (hq2 hS (hqc hlo hba hA1 hnew hW1 hpb hP0 hfn (Lib.hid R)));clear hA hS hlo hba hA1 hnew hW1 hpb hP0 hfn R;go_enter Tryz.func70,Tryz.ntmps70;go_wp2_with fail;rw[hW1H.out,hpbH.out];have hF:W1.cell? ⟨pb,0,none⟩=some (.pointer (some ⟨X.f,0,none⟩))∧W1.cell? ⟨X.f,8,none⟩=some (.slice none 0 0):=⟨q0,c8⟩;have hC:True:=trivial;refine startR (R:=Rk (fun w':World=>w'.cell? ⟨pb,0,none⟩=some (.pointer (some ⟨X.f,0,none⟩))∧w'.cell? ⟨X.f,8,none⟩=some (.slice none 0 0)) (fun _=>True) 9 9) (by kernel_rfl) ?_;refine tfS [(0,2),(1,3),(2,4),(3,5),(4,6),(5,7)] ?_;(iterate 6 (refine tfL (v:=?_) (hy:=Or.inl ⟨by rfl,?_⟩) (hS:=hF) (h:=?_);rotate_left;(· (intro w hSw;(try dsimp only at hSw);go_simp;(try with_reducible rfl)));(try simp only[Act.put,List.setIfInBounds_toArray,List.set_cons_zero,List.set_cons_succ])));refine tfE ?_;refine oneR (i:=6) (by kernel_rfl) rfl (fun K hK=>?_);go_simp;go_at_call 113;refine(deleteG_nil _ _ _).mono ?_;rintro e w5 ⟨rfl,rfl⟩;refine hK.out _ _ ⟨fun _ _ _=>hF,fun _ _=>trivial⟩ ?_;clear hK K
  (try simp only[Act.put,List.setIfInBounds_toArray,List.set_cons_zero,List.set_cons_succ])
  refine oneR (i:=7) (by kernel_rfl) rfl (fun K hK=>?_);go_simp;refine hK.out _ _ ⟨fun _ _ _=>hF,fun _ _=>trivial⟩ ?_;clear hK K
  (try simp only[Act.put,List.setIfInBounds_toArray,List.set_cons_zero,List.set_cons_succ])
  refine oneR (i:=8) (by kernel_rfl) rfl (fun K hK=>?_);go_simp;refine hK.out _ _ ⟨fun _ _ _=>hF,fun _ _=>trivial⟩ ?_;clear hK K
  (try simp only[Act.put,List.setIfInBounds_toArray,List.set_cons_zero,List.set_cons_succ])
  refine oneR (i:=9) (by kernel_rfl) rfl (fun K hK=>?_);go_simp;refine hK.out _ _ ⟨fun h=>absurd rfl h,fun h=>absurd rfl h⟩ ?_;clear hK K
  (try simp only[Act.put,List.setIfInBounds_toArray,List.set_cons_zero,List.set_cons_succ])
  refine doneR (by kernel_rfl) ?_ _;clear hF f8 q0 c8;go_wp2
  go_end0
  exact RH.out _ (Below.refl _ _).drew
 ·obtain⟨n,hn⟩:∃ n,(s.runs.map (gr X.F)).length=n:=⟨_,rfl⟩;rw[hn]at hv;subst hv;have hnl:s.runs.length=n:=by rw[← hn,List.length_map]
  have hgo:ov.ownBlock≠some g:=hA1.rov g rfl;have hgbl:g ∉ X.bl:=fun hm=>hA1.rap g hm rfl;have hgne:g≠pb:=fun e=>hnew.2.2.1 (by rw[e];rfl);have hgl:=own_lt hA1.runs;have hdp:=ls_del (rv:=.slice (some ⟨g,0,none⟩) n cap) hS hlen hlo ⟨hgbl,hnew.1⟩ hgb hgne;have hI0:LsI X (.slice (some ⟨g,0,none⟩) n cap) s w0 g pb 0 W1:=⟨ov,by rw[lsS_zero];exact hA1.core,hgo,hnew.2.1,q0,hgl⟩;have hdl:=deleteG_any 116 _ eg _ X.base g n cap (s.runs.map (gr X.F)) _ W1.drew hdp (own_same hA1.runs rfl (fun y _ hy=>grun_okW _ _ y hy)) (hdp.stab _ _ _ hI0 ⟨rfl,rfl,rfl,Nat.le_refl _,fun _ _ _=>rfl⟩) (by omega);have hfl2:(s.runs.map (gr X.F)).filter (fun x=>!goes X.F x.worker.toNat s.now)=(s.runs.filter fun r=>!goes X.F r.worker s.now).map (gr X.F):=by rw[List.filter_map];rfl
  have R:∀ (k:Nat) (w5:World),Own RGRun 144 w5 X.base (.slice (some ⟨g,0,none⟩) k cap) ((s.runs.map (gr X.F)).filter fun x=>!goes X.F x.worker.toNat s.now)→LsI X (.slice (some ⟨g,0,none⟩) n cap) s w0 g pb n w5 →
    LoseAns X s w0 (.returned (.tuple #[])) (w5.setCell ⟨X.f,8,none⟩ (.slice (some ⟨g,0,none⟩) k cap)):=by
   intro k w5 hO hI;obtain⟨ov',h1,h2,_,h7,_⟩:=hI;refine⟨rfl,.slice (some ⟨g,0,none⟩) k cap,ov',?_⟩;have hfn:=lsS_all X.F s;rw[hnl]at hfn;rw[← hfn];rw[hfl2]at hO;refine⟨h1.setRuns _ _,own_kp hO (grown_setc w5 ⟨X.f,8,none⟩ _) (fun b hb e=>?_) (fun x _ hx=>grun_ok_any _ _ x hx),fun b hb e=>?_,fun b hb e=>?_⟩
   ·injection hb with hb;injection e with e;have e':X.f=b:=e;have hb':g=b:=hb;exact hgbl (by rw[hb',← e'];exact h1.memf.1)
   ·injection e with e;exact hgbl (by rw[show g=b from e];exact hb)
   ·injection hb with hb;exact h2 (by rw[e,← hb])
  have hfr:∀ w5,LsI X (.slice (some ⟨g,0,none⟩) n cap) s w0 g pb n w5→(w5.cell? ⟨pb,0,none⟩=some (.pointer (some ⟨X.f,0,none⟩))∧w5.cell? ⟨X.f,8,none⟩=some (.slice (some ⟨g,0,none⟩) n cap))∧w5.frozen? ⟨X.f,8,none⟩=false:=by
   rintro w5 ⟨ov',h1,_,_,h7,_⟩;exact⟨⟨h7,(h1.blk 8 _ rfl).1⟩,(h1.blk 8 _ rfl).2⟩
  clear hI0 hdp hfl2 b0;obtain⟨hAH,hSH,hloH,hbaH,hA1H,hnewH,hW1H,hpbH,RH,hdlH,hfrH,hgneH,hgoH,hgblH,hnH,hnlH⟩:=hq2 hA (hq2 hS (hq2 hlo (hqb hba hA1 hnew hW1 (hqc hpb R hdl hfr hgne hgo hgbl hn (Lib.hid hnl)))));clear hA hS hlo hba hA1 hnew hW1 hpb R hdl hfr hgne hgo hgbl hn hnl;go_enter Tryz.func70,Tryz.ntmps70;go_wp2_with fail;rw[hW1H.out,hpbH.out];have hF:W1.cell? ⟨pb,0,none⟩=some (.pointer (some ⟨X.f,0,none⟩))∧W1.cell? ⟨X.f,8,none⟩=some (.slice (some ⟨g,0,none⟩) n cap):=⟨q0,c8⟩;have hC:True:=trivial;refine startR (R:=Rk (fun w':World=>w'.cell? ⟨pb,0,none⟩=some (.pointer (some ⟨X.f,0,none⟩))∧w'.cell? ⟨X.f,8,none⟩=some (.slice (some ⟨g,0,none⟩) n cap)) (fun _=>True) 9 9) (by kernel_rfl) ?_;refine tfS [(0,2),(1,3),(2,4),(3,5),(4,6),(5,7)] ?_;(iterate 6 (refine tfL (v:=?_) (hy:=Or.inl ⟨by rfl,?_⟩) (hS:=hF) (h:=?_);rotate_left;(· (intro w hSw;(try dsimp only at hSw);go_simp;(try with_reducible rfl)));(try simp only[Act.put,List.setIfInBounds_toArray,List.set_cons_zero,List.set_cons_succ])));refine tfE ?_;refine oneR (i:=6) (by kernel_rfl) rfl (fun K hK=>?_);go_simp;go_at_call 113;refine hdlH.out.mono ?_;rintro e w5 ⟨k,hk,rfl,hO5,hI5⟩;obtain⟨hF5,f85⟩:=hfrH.out w5 hI5;have R5:=RH.out k w5 hO5 hI5;clear hO5 hI5 hF f8 q0 c8;have R5H:=Lib.hid R5;clear R5;refine hK.out _ _ ⟨fun _ _ _=>hF5,fun _ _=>trivial⟩ ?_;clear hK K
  (try simp only[Act.put,List.setIfInBounds_toArray,List.set_cons_zero,List.set_cons_succ])
  refine oneR (i:=7) (by kernel_rfl) rfl (fun K hK=>?_);go_simp;refine hK.out _ _ ⟨fun _ _ _=>hF5,fun _ _=>trivial⟩ ?_;clear hK K
  (try simp only[Act.put,List.setIfInBounds_toArray,List.set_cons_zero,List.set_cons_succ])
  refine oneR (i:=8) (by kernel_rfl) rfl (fun K hK=>?_);go_simp;refine hK.out _ _ ⟨fun _ _ _=>hF5,fun _ _=>trivial⟩ ?_;clear hK K
  (try simp only[Act.put,List.setIfInBounds_toArray,List.set_cons_zero,List.set_cons_succ])
  refine oneR (i:=9) (by kernel_rfl) rfl (fun K hK=>?_);go_simp;refine hK.out _ _ ⟨fun h=>absurd rfl h,fun h=>absurd rfl h⟩ ?_;clear hK K
  (try simp only[Act.put,List.setIfInBounds_toArray,List.set_cons_zero,List.set_cons_succ])
  refine doneR (by kernel_rfl) ?_ _;clear hF5 f85;go_wp2
  go_end0
  exact R5H.out
end Go.Proofs.YtbnkoefljcekbaaGreatDoor.C9
namespace Go.Proofs.YtbnkoefljcekbaaGreatDoor.C9
open Go.ChangeShapes Go.WideShapes Go.Deep Go.RowKit
theorem keep8 {W w':World} {a0 a1 a2 a3 a4 a5 a6 a7:Addr} {v0 v1 v2 v3 v4 v5 v6 v7:Value} (hb:Below W.heap.size W w') (h:W.cell? a0=some v0∧W.cell? a1=some v1∧W.cell? a2=some v2∧W.cell? a3=some v3∧W.cell? a4=some v4∧W.cell? a5=some v5∧W.cell? a6=some v6∧W.cell? a7=some v7) :
  w'.cell? a0=some v0∧w'.cell? a1=some v1∧w'.cell? a2=some v2∧w'.cell? a3=some v3∧w'.cell? a4=some v4∧w'.cell? a5=some v5∧w'.cell? a6=some v6∧w'.cell? a7=some v7 :=
 ⟨keepC hb h.1,keepC hb h.2.1,keepC hb h.2.2.1,keepC hb h.2.2.2.1,keepC hb h.2.2.2.2.1,keepC hb h.2.2.2.2.2.1,keepC hb h.2.2.2.2.2.2.1,keepC hb h.2.2.2.2.2.2.2⟩
theorem goingOf_len {P:List RR} {i:Nat}:((goingOf P i).length=0)↔runsAny P i=false:=by
 rw[runsAny_goingOf,List.length_eq_zero_iff]
theorem st1_any {X:FX} {rv ov:Value} {s:PS} {w0 W:World} {pb i:Nat} (hA:FA X KLo rv ov s w0 W) (hS:FS X s w0) (hi:i<X.F.nX) (hlen:s.runs.length≤900000) (q0:W.cell? ⟨pb,0,none⟩=some (.pointer (some ⟨X.f,0,none⟩))) :
  Calls Tryz.prog 118 #[.int .i64 i,.pointer (some ⟨pb,0,none⟩)] W fun e w'=>e = .returned (.bool (canS X.F s.done s.lost s.runs i))∧Below W.heap.size W w':=by
 obtain⟨n1,n2,n3,n4,n5,n6⟩:=hS.nW;obtain⟨A,cap,hrv⟩:=hA.runs.form;obtain⟨n,hnn⟩:∃ n,(s.runs.map (gr X.F)).length=n:=⟨_,rfl⟩;rw[hnn]at hrv;subst hrv;have hn:n≤1000000:=by rw[← hnn,List.length_map];omega
 have hiN:i<X.x.works.n:=by omega
 obtain⟨dn,hdn⟩:∃ v,s.done i=v:=⟨_,rfl⟩;obtain⟨ls,hls⟩:∃ v,s.lost i=v:=⟨_,rfl⟩;have m1:=(hA.core.done i hiN).1;have m2:=(hA.core.lost i hiN).1;rw[hdn]at m1;rw[hls]at m2;have c9:=(hA.core.blk 9 _ rfl).1;have c10:=(hA.core.blk 10 _ rfl).1;rw[show X.N=X.x.works.n from rfl]at c9 c10;have hH0:(fun w':World=>w'.cell? ⟨pb,0,none⟩=some (.pointer (some ⟨X.f,0,none⟩))∧w'.cell? ⟨X.f,9,none⟩=some (.slice (some ⟨X.db,0,none⟩) X.x.works.n X.x.works.n)∧w'.cell? ⟨X.db,i,none⟩=some (.bool dn)∧w'.cell? ⟨X.f,10,none⟩=some (.slice (some ⟨X.lb,0,none⟩) X.x.works.n X.x.works.n)∧w'.cell? ⟨X.lb,i,none⟩=some (.int .i64 ls)∧w'.cell? ⟨X.f,3,none⟩=some (.int .i64 X.x.tries)∧w'.cell? ⟨X.f,1,none⟩=some (.slice X.x.works.A X.x.works.n X.x.works.cap)∧w'.cell? ⟨X.f,8,none⟩=some (.slice A n cap)) W:=⟨q0,c9,m1,c10,m2,(hA.core.blk 3 _ rfl).1,(hA.core.blk 1 _ rfl).1,(hA.core.blk 8 _ rfl).1⟩;have hgo:∀ r∈s.runs,going r=true:=fun r hr=>(hS.rn r hr).1;have htr:X.F.tries=X.x.tries:=by obtain⟨o,e⟩:=hS.F;rw[e];rfl
 have haf:X.F.after=gOf X.x.works.l:=by obtain⟨o,e⟩:=hS.F;rw[e];rfl
 have hrd:readyB X.F s.done i=rdP X.x.works.l s.done i:=by unfold readyB rdP;rw[haf]
 have hxs:=hS.xs.1.below hA.core.bel;have hdl:=hA.core.lt X.db hA.core.memf.2.2.2.1;have hrow:BRow W X.db X.x.works.n s.done:=hA.core.done;unfold canS;rw[hdn,hls,htr,hrd];clear m1 m2 c9 c10 q0;obtain⟨rd,hrdv⟩:∃ b,rdP X.x.works.l s.done i=b:=⟨_,rfl⟩;obtain⟨ra,hrav⟩:∃ b,runsAny s.runs i=b:=⟨_,rfl⟩;have hgl:=goingOf_len (P:=s.runs) (i:=i);rw[hrav]at hgl;rw[hrdv,hrav];obtain⟨hAH,hSH,hnnH,n1H,n2H,n3H,n4H,hdnH,hlsH,hgoH,htrH,hafH,hrdH,hxsH,hrowH,hrdvH,hravH⟩:=hqc hA hS hnn n1 n2 n3 n4 hdn (hqc hls hgo htr haf hrd hxs hrow hrdv (Lib.hid hrav));clear hA hS hnn n1 n2 n3 n4 hdn hls hgo htr haf hrd hxs hrow hrdv hrav
 cases dn
 ·by_cases ht:ls<X.x.tries
  ·have ht':decide (ls<X.x.tries)=true:=by simpa using ht
   cases ra
   ·have hg0:=hgl.2 rfl;have hg0H:=Lib.hid hg0;clear hg0;clear hgl;go_enter Tryz.func118,Tryz.ntmps118;go_wp2_with fail;refine wp_region_held_drew (S:=fun w':World=>w'.cell? ⟨pb,0,none⟩=some (.pointer (some ⟨X.f,0,none⟩))∧w'.cell? ⟨X.f,9,none⟩=some (.slice (some ⟨X.db,0,none⟩) X.x.works.n X.x.works.n)∧w'.cell? ⟨X.db,i,none⟩=some (.bool false)∧w'.cell? ⟨X.f,10,none⟩=some (.slice (some ⟨X.lb,0,none⟩) X.x.works.n X.x.works.n)∧w'.cell? ⟨X.lb,i,none⟩=some (.int .i64 ls)∧w'.cell? ⟨X.f,3,none⟩=some (.int .i64 X.x.tries)∧w'.cell? ⟨X.f,1,none⟩=some (.slice X.x.works.A X.x.works.n X.x.works.cap)∧w'.cell? ⟨X.f,8,none⟩=some (.slice A n cap)) (by kernel_rfl) hH0 (fun hHeld=>?_);refine tkS [(0,4),(1,5),(2,6),(3,7),(4,8),(5,9),(6,10),(7,11),(8,12),(9,13),(10,14),(11,15),(12,16),(13,17),(14,18),(15,19),(16,20),(17,21),(18,22),(19,23),(20,24),(21,25),(22,26),(23,27),(24,28),(25,29)] ?_;(iterate 26 (refine tkL ?_ ?_ ?_;rotate_left;(· intro w hSw;(try dsimp only at hSw);go_simp;(try with_reducible rfl));(try simp only[Act.put,tkA,tkB,tkC])));refine tkE ?_;refine wpAnyH_ready (rs:=[26]) (by kernel_rfl) (by simp) ?_;refine AllReadyH.cons (i:=26) rfl (fun K hK=>?_) AllReadyH.nil;go_simp;go_at_call 119;refine(runsOf_any X.f X.F A n cap s.runs i _ X.base (hHeld.2.2.2.2.2.2.2) (hAH.out.runs.below (Below.refl _ _).drew) hn hgoH.out).mono ?_;rintro e w4 ⟨A4,k4,c4,rfl,hk4,_,hb4⟩;have hHeld:=keep8 hb4 hHeld
    have hbw4:Below W.heap.size W w4:=(Below.refl _ _).drew.trans hb4;clear hb4;have hbw4H:=Lib.hid hbw4;clear hbw4;refine hK.out _ _ hHeld (fun hHeld=>?_);clear hK K
    (try simp only[Act.put,tkA,tkB,tkC])
    have hk5:k4=0:=hk4.trans hg0H.out;subst hk5;clear hk4;refine tkS [(27,31),(28,32),(29,33),(30,34)] ?_;(iterate 4 (refine tkL ?_ ?_ ?_;rotate_left;(· intro w hSw;(try dsimp only at hSw);go_simp;(try with_reducible rfl));(try simp only[Act.put,tkA,tkB,tkC])));refine tkE ?_;refine tkS [(31,35),(32,36),(33,37),(34,38),(35,39),(36,40),(37,41),(38,42),(39,43),(40,44)] ?_;(iterate 10 (refine tkL ?_ ?_ ?_;rotate_left;(· intro w hSw;(try dsimp only at hSw);go_simp;(try with_reducible rfl));(try simp only[Act.put,tkA,tkB,tkC])));refine tkE ?_;refine wpAnyH_ready (rs:=[41]) (by kernel_rfl) (by simp) ?_;refine AllReadyH.cons (i:=41) rfl (fun K hK=>?_) AllReadyH.nil;go_simp;go_at_call 106;refine(ready_any X.db X.x.works.n X.x.works.cap X.x.works.A s.done X.x.works.l i _ (by omega) (hrowH.out.below hbw4H.out hdl) (Nat.lt_of_lt_of_le hdl hbw4H.out.size) (hxsH.out.below hbw4H.out) hSH.out.ok.wo hiN).mono ?_;rintro e w6 ⟨rfl,hb6⟩;rw[hrdvH.out];have hHeld:=keep8 hb6 hHeld;have hb06:=hbw4H.out.trans (hb6.mono hbw4H.out.size);clear hb6;have hb06H:=Lib.hid hb06;clear hb06;refine hK.out _ _ hHeld (fun hHeld=>?_);clear hK K
    (try simp only[Act.put,tkA,tkB,tkC])
    refine tkS [(42,46)] ?_;(iterate 1 (refine tkL ?_ ?_ ?_;rotate_left;(· intro w hSw;(try dsimp only at hSw);go_simp;(try with_reducible rfl));(try simp only[Act.put,tkA,tkB,tkC])));refine tkE ?_;refine tkS [(43,3)] ?_;(iterate 1 (refine tkL ?_ ?_ ?_;rotate_left;(· intro w hSw;(try dsimp only at hSw);go_simp;(try with_reducible rfl));(try simp only[Act.put,tkA,tkB,tkC])));refine tkE ?_;refine wpAnyH_done (by kernel_rfl) ?_ _;clear hHeld hH0;go_wp2;go_ret;exact⟨by simp[ht],hb06H.out⟩
   ·have hg0:(goingOf s.runs i).length≠0:=fun e=>by have:=hgl.1 e;cases this
    have hg0H:=Lib.hid hg0;clear hg0;clear hgl;go_enter Tryz.func118,Tryz.ntmps118;go_wp2_with fail;refine wp_region_held_drew (S:=fun w':World=>w'.cell? ⟨pb,0,none⟩=some (.pointer (some ⟨X.f,0,none⟩))∧w'.cell? ⟨X.f,9,none⟩=some (.slice (some ⟨X.db,0,none⟩) X.x.works.n X.x.works.n)∧w'.cell? ⟨X.db,i,none⟩=some (.bool false)∧w'.cell? ⟨X.f,10,none⟩=some (.slice (some ⟨X.lb,0,none⟩) X.x.works.n X.x.works.n)∧w'.cell? ⟨X.lb,i,none⟩=some (.int .i64 ls)∧w'.cell? ⟨X.f,3,none⟩=some (.int .i64 X.x.tries)∧w'.cell? ⟨X.f,1,none⟩=some (.slice X.x.works.A X.x.works.n X.x.works.cap)∧w'.cell? ⟨X.f,8,none⟩=some (.slice A n cap)) (by kernel_rfl) hH0 (fun hHeld=>?_);refine tkS [(0,4),(1,5),(2,6),(3,7),(4,8),(5,9),(6,10),(7,11),(8,12),(9,13),(10,14),(11,15),(12,16),(13,17),(14,18),(15,19),(16,20),(17,21),(18,22),(19,23),(20,24),(21,25),(22,26),(23,27),(24,28),(25,29)] ?_;(iterate 26 (refine tkL ?_ ?_ ?_;rotate_left;(· intro w hSw;(try dsimp only at hSw);go_simp;(try with_reducible rfl));(try simp only[Act.put,tkA,tkB,tkC])));refine tkE ?_;refine wpAnyH_ready (rs:=[26]) (by kernel_rfl) (by simp) ?_;refine AllReadyH.cons (i:=26) rfl (fun K hK=>?_) AllReadyH.nil;go_simp;go_at_call 119;refine(runsOf_any X.f X.F A n cap s.runs i _ X.base (hHeld.2.2.2.2.2.2.2) (hAH.out.runs.below (Below.refl _ _).drew) hn hgoH.out).mono ?_;rintro e w4 ⟨A4,k4,c4,rfl,hk4,_,hb4⟩;have hHeld:=keep8 hb4 hHeld;have hbw4:Below W.heap.size W w4:=(Below.refl _ _).drew.trans hb4
    clear hb4;have hbw4H:=Lib.hid hbw4;clear hbw4;refine hK.out _ _ hHeld (fun hHeld=>?_);clear hK K
    (try simp only[Act.put,tkA,tkB,tkC])
    have hk5:((k4:Int)==0)=false:=by have:=hg0H.out;rw[← hk4]at this;simpa using this
    clear hk4;refine tkS [(27,31),(28,32),(29,33),(30,34)] ?_;(iterate 4 (refine tkL ?_ ?_ ?_;rotate_left;(· intro w hSw;(try dsimp only at hSw);go_simp;(try with_reducible rfl));(try simp only[Act.put,tkA,tkB,tkC])));refine tkE ?_;refine tkS [(31,35),(32,36),(33,37),(34,38),(35,39),(36,40),(37,41),(38,42),(39,43),(40,44),(41,45)] ?_;(iterate 11 (refine skL ?_;(try simp only[Act.put,tkA,tkB,tkC])));refine tkE ?_;refine tkS [(42,46)] ?_;(iterate 1 (refine tkL ?_ ?_ ?_;rotate_left;(· intro w hSw;(try dsimp only at hSw);go_simp;(try with_reducible rfl));(try simp only[Act.put,tkA,tkB,tkC])));refine tkE ?_;refine tkS [(43,3)] ?_;(iterate 1 (refine tkL ?_ ?_ ?_;rotate_left;(· intro w hSw;(try dsimp only at hSw);go_simp;(try with_reducible rfl));(try simp only[Act.put,tkA,tkB,tkC])));refine tkE ?_;refine wpAnyH_done (by kernel_rfl) ?_ _;clear hHeld hH0;go_wp2;go_ret;exact⟨by simp,hbw4H.out⟩
  ·have ht':decide (ls<X.x.tries)=false:=by simpa using ht
   have R:∀ q,Below W.heap.size W (W.drewN q):=fun q=>bel_drewN (Below.refl _ _) q;clear hgl;have RH:=Lib.hid R;clear R;go_enter Tryz.func118,Tryz.ntmps118;go_wp2_with fail;refine wp_region_held_drew (S:=fun w':World=>w'.cell? ⟨pb,0,none⟩=some (.pointer (some ⟨X.f,0,none⟩))∧w'.cell? ⟨X.f,9,none⟩=some (.slice (some ⟨X.db,0,none⟩) X.x.works.n X.x.works.n)∧w'.cell? ⟨X.db,i,none⟩=some (.bool false)∧w'.cell? ⟨X.f,10,none⟩=some (.slice (some ⟨X.lb,0,none⟩) X.x.works.n X.x.works.n)∧w'.cell? ⟨X.lb,i,none⟩=some (.int .i64 ls)∧w'.cell? ⟨X.f,3,none⟩=some (.int .i64 X.x.tries)∧w'.cell? ⟨X.f,1,none⟩=some (.slice X.x.works.A X.x.works.n X.x.works.cap)∧w'.cell? ⟨X.f,8,none⟩=some (.slice A n cap)) (by kernel_rfl) hH0 (fun hHeld=>?_);refine tkS [(0,4),(1,5),(2,6),(3,7),(4,8),(5,9),(6,10),(7,11),(8,12),(9,13),(10,14),(11,15),(12,16),(13,17),(14,18),(15,19),(16,20),(17,21),(18,22),(19,23),(20,24),(21,25),(22,26),(23,27)] ?_;(iterate 24 (refine tkL ?_ ?_ ?_;rotate_left;(· intro w hSw;(try dsimp only at hSw);go_simp;(try with_reducible rfl));(try simp only[Act.put,tkA,tkB,tkC])));refine tkE ?_;refine tkS [(24,28),(25,29),(26,30),(27,31),(28,32)] ?_;(iterate 5 (refine skL ?_;(try simp only[Act.put,tkA,tkB,tkC])));refine tkE ?_;refine tkS [(29,33),(30,34)] ?_;(iterate 2 (refine tkL ?_ ?_ ?_;rotate_left;(· intro w hSw;(try dsimp only at hSw);go_simp;(try with_reducible rfl));(try simp only[Act.put,tkA,tkB,tkC])));refine tkE ?_;refine tkS [(31,35),(32,36),(33,37),(34,38),(35,39),(36,40),(37,41),(38,42),(39,43),(40,44),(41,45)] ?_;(iterate 11 (refine skL ?_;(try simp only[Act.put,tkA,tkB,tkC])));refine tkE ?_
   refine tkS [(42,46)] ?_;(iterate 1 (refine tkL ?_ ?_ ?_;rotate_left;(· intro w hSw;(try dsimp only at hSw);go_simp;(try with_reducible rfl));(try simp only[Act.put,tkA,tkB,tkC])));refine tkE ?_;refine tkS [(43,3)] ?_;(iterate 1 (refine tkL ?_ ?_ ?_;rotate_left;(· intro w hSw;(try dsimp only at hSw);go_simp;(try with_reducible rfl));(try simp only[Act.put,tkA,tkB,tkC])));refine tkE ?_;refine wpAnyH_done (by kernel_rfl) ?_ _;clear hHeld hH0;go_wp2;go_ret;exact⟨by simp;intro h;omega,RH.out 1⟩
 ·have R:∀ q,Below W.heap.size W (W.drewN q):=fun q=>bel_drewN (Below.refl _ _) q;clear hgl;have RH:=Lib.hid R;clear R;go_enter Tryz.func118,Tryz.ntmps118;go_wp2_with fail;refine wp_region_held_drew (S:=fun w':World=>w'.cell? ⟨pb,0,none⟩=some (.pointer (some ⟨X.f,0,none⟩))∧w'.cell? ⟨X.f,9,none⟩=some (.slice (some ⟨X.db,0,none⟩) X.x.works.n X.x.works.n)∧w'.cell? ⟨X.db,i,none⟩=some (.bool true)∧w'.cell? ⟨X.f,10,none⟩=some (.slice (some ⟨X.lb,0,none⟩) X.x.works.n X.x.works.n)∧w'.cell? ⟨X.lb,i,none⟩=some (.int .i64 ls)∧w'.cell? ⟨X.f,3,none⟩=some (.int .i64 X.x.tries)∧w'.cell? ⟨X.f,1,none⟩=some (.slice X.x.works.A X.x.works.n X.x.works.cap)∧w'.cell? ⟨X.f,8,none⟩=some (.slice A n cap)) (by kernel_rfl) hH0 (fun hHeld=>?_);refine tkS [(0,4),(1,5),(2,6),(3,7),(4,8),(5,9),(6,10),(7,11),(8,12)] ?_;(iterate 9 (refine tkL ?_ ?_ ?_;rotate_left;(· intro w hSw;(try dsimp only at hSw);go_simp;(try with_reducible rfl));(try simp only[Act.put,tkA,tkB,tkC])));refine tkE ?_;refine tkS [(9,13),(10,14),(11,15),(12,16),(13,17),(14,18),(15,19),(16,20),(17,21),(18,22),(19,23),(20,24),(21,25)] ?_;(iterate 13 (refine skL ?_;(try simp only[Act.put,tkA,tkB,tkC])));refine tkE ?_;refine tkS [(22,26),(23,27)] ?_;(iterate 2 (refine tkL ?_ ?_ ?_;rotate_left;(· intro w hSw;(try dsimp only at hSw);go_simp;(try with_reducible rfl));(try simp only[Act.put,tkA,tkB,tkC])));refine tkE ?_;refine tkS [(24,28),(25,29),(26,30),(27,31),(28,32)] ?_;(iterate 5 (refine skL ?_;(try simp only[Act.put,tkA,tkB,tkC])));refine tkE ?_
  refine tkS [(29,33),(30,34)] ?_;(iterate 2 (refine tkL ?_ ?_ ?_;rotate_left;(· intro w hSw;(try dsimp only at hSw);go_simp;(try with_reducible rfl));(try simp only[Act.put,tkA,tkB,tkC])));refine tkE ?_;refine tkS [(31,35),(32,36),(33,37),(34,38),(35,39),(36,40),(37,41),(38,42),(39,43),(40,44),(41,45)] ?_;(iterate 11 (refine skL ?_;(try simp only[Act.put,tkA,tkB,tkC])));refine tkE ?_;refine tkS [(42,46)] ?_;(iterate 1 (refine tkL ?_ ?_ ?_;rotate_left;(· intro w hSw;(try dsimp only at hSw);go_simp;(try with_reducible rfl));(try simp only[Act.put,tkA,tkB,tkC])));refine tkE ?_;refine tkS [(43,3)] ?_;(iterate 1 (refine tkL ?_ ?_ ?_;rotate_left;(· intro w hSw;(try dsimp only at hSw);go_simp;(try with_reducible rfl));(try simp only[Act.put,tkA,tkB,tkC])));refine tkE ?_;refine wpAnyH_done (by kernel_rfl) ?_ _;clear hHeld hH0;go_wp2;go_ret;exact⟨by simp,RH.out 1⟩
def FsNew (p:Nat→Bool) (S:List Int) (CB N:Nat) (w:World) (e:Ending) (w':World):Prop :=
 ∃ (A':Option Addr) (n' c':Nat) (M:List Int),e = .returned (.slice A' n' c')∧n'≤N∧SlAt RInt w' A' n' M∧SortedBy (fI (CrBox S CB N w)) M∧SameCls (fI (CrBox S CB N w)) M (nz (upN p N))∧Below w.heap.size w w'∧∀ a,A'=some a→w.heap.size≤a.block
theorem first_new (g:Nat) (lb:Array Value) (eg:∀ args w,(callFunc g args).run Tryz.prog w = .ok (.enter g args) w) (p:Nat→Bool) (A:Option Addr) (N c CB:Nat) (l:List Work) (S:List Int) (w:World) (hN:N≤1000)
  (hl:SlAt RWork w A N l) (hS:Sms w CB N S) (hCB:CB<w.heap.size) (hp:PredN g lb p N w) :
  Calls Tryz.prog 117 #[.slice A N c,.slice (some ⟨CB,0,none⟩) N N,.func (.func g) #[] lb] w (FsNew p S CB N w):=by
 have hst:FsR p S CB N w (.slice none 0 0) (.int .i64 0) (w.alloc (.cells #[.slice (some ⟨CB,0,none⟩) N N] 56)):=by
  have hba:Below w.heap.size w (w.alloc (.cells #[.slice (some ⟨CB,0,none⟩) N N] 56)):=(Below.refl _ _).alloc (Nat.le_refl _) _;refine⟨0,none,0,0,Nat.zero_le _,rfl,rfl,Own.nil _ _,hba,⟨?_,fun j x hj=>?_⟩,by simp⟩
  ·have:=(Boxed.new w 56 (.slice (some ⟨CB,0,none⟩) N N)).cell;show _=some (Value.slice (some ⟨CB,0,none⟩) S.length N);rw[hS.len];exact this
  ·exact(hba.cell (p:=⟨CB,j,none⟩) hCB).trans (hS.cells j x hj).1
 obtain⟨hlH,hSH,hpH,hstH⟩:=hq2 hl (hq2 hS (hq2 hp (Lib.hid hst)));clear hl hS hp hst;go_enter Tryz.func117,Tryz.ntmps117;go_wp2_with fail
 go_loopw [7,11] (fun v i wr=>FsR p S CB N w v i wr) (fun _ i _=>N-(intOf i).toNat)
 case atStart=>exact hstH.out
 case round =>
  clear hstH;obtain⟨k,A1,n1,c1,hk,rfl,rfl,hown,hb,hcr,hsz⟩:=hrel;have hnl:=hown.len;rw[nz_len]at hnl;have hul:=upN_len p k
  by_cases hlt:k<N
  ·have hcall:=hpH.out wr k hlt hb;have hus:=upN_succ p k
   cases hq:p k
   ·rw[hq]at hcall hus;rw[if_neg (by simp)]at hus;have R:∀ w',Below wr.heap.size wr w'→FsR p S CB N w (.slice A1 n1 c1) (.int .i64 ((k:Int)+1)) w':=fun w' h =>
     ⟨k+1,A1,n1,c1,hlt,by go_num,rfl,by rw[hus];exact hown.below h,hb.trans (h.mono hb.size),hcr.below h,Nat.le_trans hsz h.size⟩
    clear hus hnl hul;obtain⟨hownH,hbH,hcrH,hqH,hcallH,RH⟩:=hq2 hown (hqb hb hcr hq hcall (Lib.hid R));clear hown hb hcr hq hcall R;go_wp2_with (go_at_fn g;refine hcallH.out.mono ?_;rintro e w' ⟨rfl,hb'⟩;have hb'H:=Lib.hid hb';clear hb');refine⟨?rel,?measure⟩
    case measure=>(simp[intOf];omega)
    case rel=>first | exact(RH.out _ hb'H.out) | exact⟨rfl,(RH.out _ hb'H.out)⟩
   ·rw[hq]at hcall hus;rw[if_pos rfl]at hus;obtain⟨hownH,hbH,hcrH,hqH,hcallH,husH⟩:=hq2 hown (hqb hb hcr hq hcall (Lib.hid hus));clear hown hb hcr hq hcall hus;go_wp2_with fail
    go_at_fn g
    refine hcallH.out.mono ?_;rintro e w5 ⟨rfl,hb5⟩;have hown5:=hownH.out.below hb5;have hcr5:=hcrH.out.below hb5;have hbw5:=hbH.out.trans (hb5.mono hbH.out.size);have hs5:w.heap.size+1≤w5.heap.size:=Nat.le_trans hsz hb5.size;have hI:I64 (k:Int):=by unfold I64;omega
    have hnew:SlAt RInt (w5.alloc (.cells #[.int .i64 k] 3)) (some ⟨w5.heap.size,0,none⟩) 1 [(k:Int)]:=slAt_new (R:=RInt) w5 3 (k:Int) hI;have hown7:=hown5.alloc (.cells #[.int .i64 k] 3);have hba:Below w5.heap.size w5 (w5.alloc (.cells #[.int .i64 k] 3)):=(Below.refl _ _).alloc (Nat.le_refl _) _;have hcr7:=hcr5.below hba;have hb7:=hbw5.alloc hbw5.size (.cells #[.int .i64 k] 3);clear hown5 hcr5 hb5 hba;obtain⟨hown7H,hcr7H,hb7H,hnewH,hbw5H⟩:=hqb hown7 hcr7 hb7 hnew (Lib.hid hbw5);clear hown7 hcr7 hb7 hnew hbw5;go_wp2_with (at_builtin;go_loud (refine wpList_app rfl (.tmp 17) (.tmp 19) 56 rfl Tryz.underlying56 elem_IntQ (by decide) rfl hown7H.out (some ⟨w5.heap.size,0,none⟩) 1 1 [(k:Int)] rfl hnewH.out ?nn ?ok ?c1 ?c2 ?c3 (n1+1) ?c4 ?_))
    case nn=>intro h;cases h
    case ok=>exact fun _ _ _ _ h=>h
    case c1=>rw[nz_len];simp[maxLen] <;> omega
    case c2=>rw[nz_len];omega
    case c3=>simp <;> omega
    case c4=>rw[nz_len];omega
    intro A' c' w8 hown8 hg8 hat8 hb8;have R:FsR p S CB N w (.slice A' (n1+1) c') (.int .i64 ((k:Int)+1)) w8:=by
     have hlt8:=hcr7H.out;refine⟨k+1,A',n1+1,c',hlt,by go_num,rfl,by rw[husH.out,nz_snoc];exact hown8,hb7H.out.trans (hb8.mono (by omega)),⟨?_,fun j x hj=>?_⟩,?_⟩
     ·exact(hb8.cell (p:=⟨w.heap.size,0,none⟩) (by show w.heap.size<_;omega)).trans hlt8.hd
     ·exact(hb8.cell (p:=⟨CB,j,none⟩) (by show CB<_;omega)).trans (hlt8.at_ j x hj)
     ·have:=hg8.size;simp at this;omega
    clear hg8 hat8 hb8 hown8;have RH:=Lib.hid R;clear R;go_wp2;refine⟨?rel,?measure⟩
    case measure=>(simp[intOf];omega)
    case rel=>first | exact RH.out | exact⟨rfl,RH.out⟩
  ·obtain rfl:k=N:=by omega
   rcases hown.1.2 with ⟨h1,h2⟩ | ⟨g1,cap1,cur,h1,h2,h3,h4,h5,h6,h7⟩
   ·have hn0:nz (upN p k) = []:=List.eq_nil_of_length_eq_zero h2;simp only[Value.slice.injEq]at h1;obtain⟨rfl,rfl,rfl⟩:=h1;have hsn:=fun w2=>stable_nil (CrBox S CB k w) w2;have R:∀ nq,FsNew p S CB k w (.returned (.slice none 0 0)) (wr.drewN nq):=fun nq =>
     ⟨none,0,0,[],rfl,Nat.zero_le _,(Own.nil (R:=RInt) (e:=3) _ 0).slAt,List.Pairwise.nil,by rw[hn0];exact SameCls.refl _,bel_drewN hb nq,fun a h=>by cases h⟩
    unfold gI CrBox at hsn;clear hn0 h2;obtain⟨hownH,hcrH,hbH,hsnH,RH⟩:=hqb hown hcr hb hsn (Lib.hid R);clear hown hcr hb hsn R;go_wp2_with fail;refine(hsnH.out _).mono ?_;rintro e w2 ⟨rfl,rfl⟩;go_wp2;go_ret;exact RH.out 0
   ·simp only[Value.slice.injEq]at h1;obtain⟨rfl,rfl,rfl⟩:=h1;have hSl:=hSH.out.len;have hg1:g1<wr.heap.size:=(hown.1.lt g1 rfl).2;have hg0:w.heap.size+1≤g1:=(hown.1.lt g1 rfl).1;have hrow:RowI (CrBox S CB k w) wr g1 0 (nz (upN p k)).length (nz (upN p k)):=by
     refine⟨hown.slAt,fun j=>hown.1.frozenAt _,hg1,hcr,fun x hx=>?_,?_,?_⟩
     ·obtain⟨q,hq,rfl⟩:=List.mem_map.1 hx;have:=List.mem_range.1 (List.mem_filter.1 hq).1;refine⟨by omega,?_⟩;show (q:Int)<(S.length:Int);omega
     ·show g1≠w.heap.size;omega
     ·show g1≠CB;omega
    have hsn:=stable_any (CrBox S CB k w) g1 0 (nz (upN p k)).length c1 (nz (upN p k)) wr (by omega) hrow;have R:∀ w2 M,SortedBy (fI (CrBox S CB k w)) M→SameCls (fI (CrBox S CB k w)) M (nz (upN p k))→RowI (CrBox S CB k w) w2 g1 0 (nz (upN p k)).length M→Srt g1 wr w2→FsNew p S CB k w (.returned (.slice (some ⟨g1,0,none⟩) (nz (upN p k)).length c1)) w2:=fun w2 M q1 q2 q3 q4 =>
     ⟨_,_,_,M,rfl,by rw[nz_len];exact hul,q3.sl,q1,q2,hb.trans (grown_below q4 (by omega) hb.size),fun a h=>by injection h with h;subst h;show w.heap.size≤g1;omega⟩
    unfold gI at hsn;have hpc:(CrBox S CB k w).pc=w.heap.size:=rfl;rw[hpc]at hsn;clear h2 h3 h4 h5 h6 h7 hrow hpc hul;obtain⟨D,hD⟩:∃ D,nz (upN p k)=D:=⟨_,rfl⟩;rw[hD]at hsn R hown ⊢;obtain⟨hownH,hcrH,hbH,hsnH,RH,hDH,hSlH⟩:=hq2 hown (hq2 hcr (hqb hb hsn R hD (Lib.hid hSl)));clear hown hcr hb hsn R hD hSl;go_wp2_with fail;refine hsnH.out.mono ?_;rintro e w2 ⟨rfl,M,q1,q2,q3,q4⟩;have R2:=RH.out w2 M q1 q2 q3 q4;clear q1 q2 q3 q4;have R2H:=Lib.hid R2;clear R2;go_wp2;go_ret;exact R2H.out
theorem nz_fil (o:List Nat) (p:Nat→Bool):(nz o).filter (fun x=>p x.toNat)=nz (o.filter p):=by
 unfold nz;rw[List.filter_map]
 congr 1
theorem first_is {X:FX} (hO:OrdX X) (p:Nat→Bool) {M:List Int} (h1:SortedBy (fR X.S) M) (h2:SameCls (fR X.S) M (nz (upN p X.N))):M=nz (X.F.order.filter p):=by
 have a:=filter_sorted (fun x:Int=>p x.toNat) hO.so;have b:=filter_cls (fun x:Int=>p x.toNat) hO.cl;rw[nz_fil]at a b;rw[nz_fil]at b;exact sorted_uniq h1 a (h2.trans b.symm)
def stK (F:FP) (s:PS) (o:List Nat) (k:Nat):PS :=
 { s with runs:=((o.take k).foldl (fun x i=>beginP F s.now i none x) (s.runs,s.begun)).1,begun:=((o.take k).foldl (fun x i=>beginP F s.now i none x) (s.runs,s.begun)).2 }
theorem stK_zero (F:FP) (s:PS) (o:List Nat):stK F s o 0=s:=rfl
theorem stK_succ (F:FP) (s:PS) {o:List Nat} {k i:Nat} (h:o[k]? = some i):stK F s o (k+1)=begS F (stK F s o k) i none:=by
 unfold stK begS;rw[List.take_add_one,h,Option.toList_some,List.foldl_append];rfl
theorem beginP_len (F:FP) (t:Int) (i:Nat) (bo:Option Nat) (x:List RR × (Nat→Int)):(beginP F t i bo x).1.length≤x.1.length+1∧∀ j,x.2 j≤(beginP F t i bo x).2 j∧(beginP F t i bo x).2 j≤x.2 j+1:=by
 unfold beginP
 split
 ·exact⟨by omega,fun j=>⟨by omega,by omega⟩⟩
 ·refine⟨by simp,fun j=>?_⟩;simp only
  split <;> omega
theorem stK_b (F:FP) (s:PS) {o:List Nat}:∀ k,k≤o.length→(stK F s o k).runs.length≤s.runs.length+k∧∀ j,s.begun j≤(stK F s o k).begun j∧(stK F s o k).begun j≤s.begun j+k
 | 0,_=>⟨Nat.le_refl _,fun j=>⟨Int.le_refl _,by rw[stK_zero];simp⟩⟩
 | k+1,h=>by
  obtain⟨h1,h2⟩:=stK_b F s (o:=o) k (by omega);obtain⟨i,hi⟩:∃ i,o[k]? = some i:=⟨o[k]'(by omega),List.getElem?_eq_getElem _⟩;rw[stK_succ F s hi];obtain⟨b1,b2⟩:=beginP_len F s.now i none ((stK F s o k).runs,(stK F s o k).begun);refine⟨?_,fun j=>?_⟩
  ·show (beginP F s.now i none ((stK F s o k).runs,(stK F s o k).begun)).1.length≤_;simp only at b1;omega
  ·have:=b2 j;have:=h2 j;show s.begun j≤(beginP F s.now i none ((stK F s o k).runs,(stK F s o k).begun)).2 j∧(beginP F s.now i none ((stK F s o k).runs,(stK F s o k).begun)).2 j≤_;simp only at *;omega
theorem stK_all (F:FP) (s:PS):stK F s (F.order.filter fun i=>canS F s.done s.lost s.runs i) (F.order.filter fun i=>canS F s.done s.lost s.runs i).length=startP F s:=by
 unfold stK startP;rw[List.take_length]
theorem FS.stK {X:FX} {s:PS} {w0:World} (h:FS X s w0) {o:List Nat} (ho:∀ i∈o,i<X.F.nX):∀ k,k≤o.length→FS X (Go.Proofs.YtbnkoefljcekbaaGreatDoor.C9.stK X.F s o k) w0
 | 0,_=>h
 | k+1,hk=>by
  obtain⟨i,hi⟩:∃ i,o[k]? = some i:=⟨o[k]'(by omega),List.getElem?_eq_getElem _⟩;rw[stK_succ X.F s hi];exact(FS.stK h ho k (by omega)).beg (ho i (List.mem_of_getElem? hi)) none
def StAns (X:FX) (s':PS) (ov:Value) (w0:World) (e:Ending) (w':World):Prop:=e = .returned (.tuple #[])∧∃ rv',FA X KLo rv' ov s' w0 w'
def StRel (X:FX) (s:PS) (ov:Value) (o:List Nat) (w0:World) (pb:Nat) (A2:Option Addr) (n2:Nat) (i:Value) (wr:World):Prop :=
 ∃ (k:Nat) (rv':Value),k≤n2∧i = .int .i64 k∧FA X KLo rv' ov (stK X.F s o k) w0 wr∧SlAt RInt wr A2 n2 (nz o)∧wr.cell? ⟨pb,0,none⟩=some (.pointer (some ⟨X.f,0,none⟩))∧rv'.ownBlock≠some pb∧∀ a,A2=some a→a.block ∉ X.bl∧rv'.ownBlock≠some a.block
theorem slAt_heap {A:Option Addr} {n:Nat} {l:List Int} {w w':World} (h:SlAt RInt w A n l) (hk:∀ a,A=some a→a.block<w.heap.size→w'.heap[a.block]? = w.heap[a.block]?):SlAt RInt w' A n l:=by
 refine⟨h.1,fun hn=>?_,h.2.2⟩;obtain⟨b,off,rfl,hc⟩:=h.2.1 hn;refine⟨b,off,rfl,fun i x hx j v hv=>?_⟩;have:=hc i x hx j v hv;exact(World.cell?_of_block (a:=⟨b,off+i*RInt.size+j,none⟩) (hk ⟨b,off,none⟩ rfl (show b<w.heap.size from cell?_lt this))).trans this
theorem start_any {X:FX} {rv ov:Value} {s:PS} {w0 w:World} (hA:FA X KLo rv ov s w0 w) (hS:FS X s w0) (hO:OrdX X) (hor:∀ i∈X.F.order,i<X.F.nX) (hlen:s.runs.length≤800000) (hbg:∀ j,0≤s.begun j∧s.begun j≤800000) :
  Calls Tryz.prog 71 #[.pointer (some ⟨X.f,0,none⟩)] w (StAns X (startP X.F s) ov w0):=by
 obtain⟨n1,n2',n3,n4,n5,n6⟩:=hS.nW;have hba:=(Below.refl w.heap.size w).alloc (Nat.le_refl _) (.cells #[.pointer (some ⟨X.f,0,none⟩)] 54);have b0:=Boxed.new w 54 (.pointer (some ⟨X.f,0,none⟩));have hA1:=hA.below hba;have hnew:=hA.new;have q0:=b0.cell;obtain⟨W1,hW1⟩:∃ Y,w.alloc (.cells #[.pointer (some ⟨X.f,0,none⟩)] 54)=Y:=⟨_,rfl⟩;rw[hW1]at q0 hA1 hba;have eg:∀ args w,(callFunc 118 args).run Tryz.prog w = .ok (.enter 118 args) w:=enters_of Tryz.func118 (by kernel_rfl) rfl;obtain⟨pb,hpb⟩:∃ b,w.heap.size=b:=⟨_,rfl⟩;rw[hpb]at q0 hnew;have hxs:=hS.xs.1.below hA1.core.bel;obtain⟨o,ho⟩:∃ o,(X.F.order.filter fun i=>canS X.F s.done s.lost s.runs i)=o:=⟨_,rfl⟩;have hoX:∀ i∈o,i<X.F.nX:=fun i hi=>by rw[← ho]at hi;exact hor i (List.mem_filter.1 hi).1
 have hPr:PredN 118 #[.pointer (some ⟨pb,0,none⟩)] (canS X.F s.done s.lost s.runs) X.x.works.n W1.drew:=fun W k hk hW =>
  st1_any ((hA1.below (Below.refl _ _).drew).below hW) hS (by omega) (by omega) (keepC hW q0)
 have hCB:X.cb<W1.drew.heap.size:=hA1.core.lt X.cb hA1.core.memf.2.2.1;have hfs:=first_new 118 #[.pointer (some ⟨pb,0,none⟩)] eg (canS X.F s.done s.lost s.runs) X.x.works.A X.x.works.n X.x.works.cap X.cb X.x.works.l X.S W1.drew (by omega) (hxs.below (Below.refl _ _).drew) (hA1.core.crit.keep rfl) hCB hPr;have hH0:(fun w':World=>w'.cell? ⟨pb,0,none⟩=some (.pointer (some ⟨X.f,0,none⟩))∧w'.cell? ⟨X.f,1,none⟩=some (.slice X.x.works.A X.x.works.n X.x.works.cap)∧w'.cell? ⟨X.f,5,none⟩=some (.slice (some ⟨X.cb,0,none⟩) X.x.works.n X.x.works.n)) W1:=⟨q0,(hA1.core.blk 1 _ rfl).1,(hA1.core.blk 5 _ rfl).1⟩;have hpo:ov.ownBlock≠some pb:=hnew.2.1;clear hPr b0 q0;obtain⟨hAH,hSH,hOH,horH,n1H,n2'H,n3H,n4H,hbaH,hA1H,hnewH,hW1H,hpbH,hxsH,hfsH,hoH,hoXH,hpoH,hbgH⟩:=hq2 hA (hq2 hS (hqc hO hor n1 n2' n3 n4 hba hA1 (hqc hnew hW1 hpb hxs hfs ho hoX hpo (Lib.hid hbg))));clear hA hS hO hor n1 n2' n3 n4 hba hA1 hnew hW1 hpb hxs hfs ho hoX hpo hbg;go_enter Tryz.func71,Tryz.ntmps71;go_wp2_with fail;rw[hW1H.out,hpbH.out];refine wp_region_held_drew (S:=fun w':World=>w'.cell? ⟨pb,0,none⟩=some (.pointer (some ⟨X.f,0,none⟩))∧w'.cell? ⟨X.f,1,none⟩=some (.slice X.x.works.A X.x.works.n X.x.works.cap)∧w'.cell? ⟨X.f,5,none⟩=some (.slice (some ⟨X.cb,0,none⟩) X.x.works.n X.x.works.n)) (by kernel_rfl) hH0 (fun hHeld=>?_);refine tkS [(0,4),(1,5),(2,6),(3,7),(4,8),(5,9),(6,10),(7,11),(8,12),(9,13)] ?_;(iterate 10 (refine tkL ?_ ?_ ?_;rotate_left;(· intro w hSw;(try dsimp only at hSw);go_simp;(try with_reducible rfl));(try simp only[Act.put,tkA,tkB,tkC])));refine tkE ?_
 refine tkS [(12,16)] ?_;(iterate 1 (refine tkL ?_ ?_ ?_;rotate_left;(· intro w hSw;(try dsimp only at hSw);go_simp;(try with_reducible rfl));(try simp only[Act.put,tkA,tkB,tkC])));refine tkE ?_;refine wpAnyH_ready (rs:=[10]) (by kernel_rfl) (by simp) ?_;refine AllReadyH.cons (i:=10) rfl (fun K hK=>?_) AllReadyH.nil;go_simp;go_at_call 117;refine hfsH.out.mono ?_;rintro e w2 ⟨A2,n2,c2,M,rfl,hn2,hs2,hq1,hq2,hb2,hnw⟩;have hHeld2:w2.cell? ⟨pb,0,none⟩=some (.pointer (some ⟨X.f,0,none⟩))∧w2.cell? ⟨X.f,1,none⟩=some (.slice X.x.works.A X.x.works.n X.x.works.cap)∧w2.cell? ⟨X.f,5,none⟩=some (.slice (some ⟨X.cb,0,none⟩) X.x.works.n X.x.works.n):=⟨keepC hb2 hHeld.1,keepC hb2 hHeld.2.1,keepC hb2 hHeld.2.2⟩;obtain rfl:M=nz o:=by rw[← hoH.out];exact first_is hOH.out _ hq1 hq2
 have hA2:=(hA1H.out.below (Below.refl _ _).drew).below hb2;have hol:o.length=n2:=by have:=hs2.1;rwa [nz_len]at this
 have hz1:W1.drew.heap.size=W1.heap.size:=rfl;have hst:StRel X s ov o w0 pb A2 n2 (.int .i64 0) w2:=by
  refine⟨0,rv,Nat.zero_le _,rfl,by rw[stK_zero];exact hA2,hs2,hHeld2.1,hnewH.out.2.2.1,fun a ha=>?_⟩;have hge:=hnw a ha;exact⟨fun hm=>by have:=hA1H.out.core.lt _ hm;omega,fun e=>by have:=hA1H.out.own_lt.1 _ e;omega⟩
 clear hs2 hq1 hq2 hb2 hnw hA2 hHeld;obtain⟨hstH,holH⟩:=hq2 hst (Lib.hid hol);clear hst hol;refine hK.out _ _ hHeld2 (fun hHeld=>?_);clear hK K
 (try simp only[Act.put,List.setIfInBounds_toArray,List.set_cons_zero,List.set_cons_succ])
 refine tkS [(11,15)] ?_;(iterate 1 (refine tkL ?_ ?_ ?_;rotate_left;(· intro w hSw;(try dsimp only at hSw);go_simp;(try with_reducible rfl));(try simp only[Act.put,tkA,tkB,tkC])));refine tkE ?_;refine wpAnyH_done (by kernel_rfl) ?_ _;clear hHeld hHeld2 hH0;go_wp2_with fail
 go_loopw [16] (fun i wr=>StRel X s ov o w0 pb A2 n2 i wr) (fun i _=>n2-(intOf i).toNat)
 case atStart=>exact hstH.out
 case round =>
  clear hstH;obtain⟨k,rv',hk,rfl,hAk,hsl,hpc,hrp,hMb⟩:=hrel
  by_cases hlt:k<n2
  ·obtain⟨mb,mo,hA9,_⟩:=hsl.2.1 (by omega);subst hA9;obtain⟨i,hi⟩:∃ i,o[k]? = some i:=⟨o[k]'(by have:=holH.out;omega),List.getElem?_eq_getElem _⟩;have d1:=cell_IntW hsl (x:=(i:Int)) (k:=k) (by unfold nz;rw[List.getElem?_map,hi];rfl);have hiX:=hoXH.out i (List.mem_of_getElem? hi);obtain⟨hb1,hb2⟩:=stK_b X.F s (o:=o) k (by have:=holH.out;omega);have hbgi:=hbgH.out i;have hbk:=hb2 i;have hbn:=begin_any hAk (hSH.out.stK hoXH.out k (by have:=holH.out;omega)) i hiX none (by omega) (by omega);rw[← stK_succ X.F s hi]at hbn;obtain⟨hM1,hM2⟩:=hMb _ rfl;have R:∀ w5,BegAns X KLo rv' ov (stK X.F s o (k+1)) w0 wr (.returned (.tuple #[])) w5→StRel X s ov o w0 pb (some ⟨mb,mo,none⟩) n2 (.int .i64 ((k:Int)+1)) w5:=by
    rintro w5 ⟨_,rv5,h5,h6,h7,h8⟩;have hpl:=cell?_lt hpc;have hdl:=cell?_lt d1;refine⟨k+1,rv5,hlt,by go_num,h5,slAt_heap hsl (fun a ha hal=>?_),?_,fun e=>?_,fun a ha=>?_⟩
    ·injection ha with ha;subst ha;exact h8 mb hal hM1 hM2
    ·exact(World.cell?_of_block (a:=⟨pb,0,none⟩) (h8 pb hpl hnewH.out.1 hrp)).trans hpc
    ·rcases h6 pb e with h | h
     ·exact hrp h
     ·have:pb<wr.heap.size:=hpl;omega
    ·injection ha with ha;subst ha;refine⟨hM1,fun e=>?_⟩
     rcases h6 mb e with h | h
     ·exact hM2 h
     ·have:mb<wr.heap.size:=hdl;omega
   have hbN:bI none = -1:=rfl;rw[hbN]at hbn;clear hb1 hb2 hbk hbgi hbN;obtain⟨hAkH,hslH,hiH,hbnH,RH,hM1H,hM2H,hrpH,hMbH⟩:=hqc hAk hsl hi hbn R hM1 hM2 hrp (Lib.hid hMb);clear hAk hsl hi hbn R hM1 hM2 hrp hMb;go_wp2_with fail;refine hbnH.out.mono ?_;rintro e w5 h5;have h50:e = .returned (.tuple #[]):=h5.1;subst h50;have R5:=RH.out w5 h5;clear h5;have R5H:=Lib.hid R5;clear R5;go_wp2;refine⟨?rel,?measure⟩
   case measure=>(simp[intOf];omega)
   case rel=>first | exact R5H.out | exact⟨rfl,R5H.out⟩
  ·obtain rfl:k=n2:=by omega
   have R:StAns X (startP X.F s) ov w0 (.returned (.tuple #[])) wr:=by
    refine⟨rfl,rv',?_⟩;rw[← stK_all,hoH.out,holH.out];exact hAk
   clear hAk hsl hMb;obtain⟨RH,hrpH⟩:=hq2 R (Lib.hid hrp);clear R hrp;go_wp2
   go_end0
   exact RH.out
end Go.Proofs.YtbnkoefljcekbaaGreatDoor.C9