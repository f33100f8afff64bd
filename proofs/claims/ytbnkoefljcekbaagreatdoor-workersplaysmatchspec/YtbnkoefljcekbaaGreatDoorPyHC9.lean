/-
 Several texts of mine as one, without what is not wanted here: XCrP, XInsI.
-/
import Derived.Test.YtbnkoefljcekbaaGreatDoorPyFC9
import Derived.Test.YtbnkoefljcekbaaGreatDoorPyGi
set_option linter.unusedVariables false
set_option linter.unusedSimpArgs false
set_option maxRecDepth 100000
set_option maxHeartbeats 8000000
namespace Go.Proofs.YtbnkoefljcekbaaGreatDoor.C9
open Go.ChangeShapes Go.WideShapes Go.Deep Go.RowKit Go.Shelf
attribute [local go_sem] Oper.semAt_some
structure CrS (K N c:Nat) (A:Option Addr) (n₀:Nat) (w:World) (S:List Int) (W:World):Prop where
 c0:W.cell? ⟨K,0,none⟩=some (.slice A N c)
 c2:W.cell? ⟨K+1+1,0,none⟩=some (.slice (some ⟨K+1,0,none⟩) N N)
 sms:Sms W (K+1) N S
 bel:Below w.heap.size w W
 le:n₀≤W.heap.size
theorem keeps_below {B:Nat} {W w':World} (hb:Below W.heap.size W w'):KeepsFrom B W w' :=
 ⟨hb.size,fun k o _ hk _=>(hb.block k (Array.getElem?_eq_some_iff.1 hk).1).trans hk⟩
theorem CrS.grown {K N c n₀:Nat} {A:Option Addr} {w:World} {S:List Int} {W W':World} {row:Option Nat} (h:CrS K N c A n₀ w S W) (hK:K+2<n₀) (hw:w.heap.size≤n₀) (hg:W.grownBy W' row) (hr:∀ r,row=some r→n₀≤r):CrS K N c A n₀ w S W':=by
 have e:∀ k,k<n₀→W'.heap[k]? = W.heap[k]?:=fun k hk=>hg.block k (Nat.lt_of_lt_of_le hk h.le) (fun e=>by have:=hr k e.symm;omega);refine⟨(World.cell?_of_block (a:=⟨K,0,none⟩) (e K (by omega))).trans h.c0,(World.cell?_of_block (a:=⟨K+1+1,0,none⟩) (e (K+1+1) (by omega))).trans h.c2,h.sms.keep (e (K+1) (by omega)),?_,Nat.le_trans h.le hg.size⟩;exact h.bel.grown hg h.bel.size (fun k e=>Nat.le_trans hw (hr k e))
theorem CrS.below {K N c n₀:Nat} {A:Option Addr} {w:World} {S:List Int} {W W':World} (h:CrS K N c A n₀ w S W) (hK:K+2<n₀) (hw:w.heap.size≤n₀) (hb:Below W.heap.size W W'):CrS K N c A n₀ w S W':=by
 have e:∀ k,k<n₀→W'.heap[k]? = W.heap[k]?:=fun k hk=>hb.block k (Nat.lt_of_lt_of_le hk h.le);exact⟨(World.cell?_of_block (a:=⟨K,0,none⟩) (e K (by omega))).trans h.c0,(World.cell?_of_block (a:=⟨K+1+1,0,none⟩) (e (K+1+1) (by omega))).trans h.c2,h.sms.keep (e (K+1) (by omega)),h.bel.trans (hb.mono h.bel.size),Nat.le_trans h.le hb.size⟩
theorem CrS.put {K N c n₀:Nat} {A:Option Addr} {w:World} {S:List Int} {W:World} (h:CrS K N c A n₀ w S W) (hK:w.heap.size≤K) {i:Nat} (hi:i<N) (x:Int):CrS K N c A n₀ w (S.set i x) (W.setCell ⟨K+1,i,none⟩ (.int .i64 x)) :=
 ⟨(World.cell?_setCell_other _ _ _ _ (by simp)).trans h.c0,(World.cell?_setCell_other _ _ _ _ (by simp)).trans h.c2,h.sms.put hi x,h.bel.setCell (by show w.heap.size≤K+1;omega) _,by simpa using h.le⟩
theorem CrS.drew {K N c n₀:Nat} {A:Option Addr} {w:World} {S:List Int} {W:World} (h:CrS K N c A n₀ w S W):CrS K N c A n₀ w S W.drew :=
 ⟨h.c0,h.c2,h.sms.keep rfl,h.bel.drew,h.le⟩
theorem CrS.start (w:World) (A:Option Addr) (N c:Nat) :
  CrS w.heap.size N c A (w.heap.size+1+1+1) w (List.replicate N 0) (((w.alloc (.cells #[.slice A N c] 23)).alloc (.cells (madeI N) 3)).alloc (.cells #[.slice (some ⟨w.heap.size+1,0,none⟩) N N] 56)):=by
 have b0:=((Boxed.new w 23 (.slice A N c)).alloc (.cells (madeI N) 3)).alloc (.cells #[.slice (some ⟨w.heap.size+1,0,none⟩) N N] 56);have b2:=Boxed.new ((w.alloc (.cells #[.slice A N c] 23)).alloc (.cells (madeI N) 3)) 56 (.slice (some ⟨w.heap.size+1,0,none⟩) N N);have hm:=Sms.made (w.alloc (.cells #[.slice A N c] 23)) N;simp only[World.size_alloc]at b0 b2 hm;refine⟨b0.cell,b2.cell,hm.keep ?_,(((Below.refl _ _).alloc (Nat.le_refl _) _).alloc (by simp) _).alloc (by simp;omega) _,by simp⟩;exact Below.heap_alloc _ _ _ (by simp)
def IrC (l:List Work) (out:List Nat) (n K N c:Nat) (A:Option Addr) (n₀:Nat) (w:World) (pre:List (Fin n)) (W:World):Prop:=CrS K N c A n₀ w (runO l N (pre.map (ixO out))) W
def AxC (T:Array Value) (l:List Int) (x:Fin l.length) (a':Act) (_:World):Prop :=
 a' = { tmps:=((#[22,23].zip (encI l x)).foldl (fun t (p,v)=>t.setIfInBounds p v) T).setIfInBounds 7 (.int .i64 l[x]),defers:=[] }
def CrL (l:List Work) (i:Nat) (S1:List Int) (K N c:Nat) (A:Option Addr) (n₀:Nat) (w:World) (an:Nat) (W:World) (v:Value) (wr:World):Prop :=
 ∃ t:Nat,t≤an∧v = .int .i64 t∧CrS K N c A n₀ w (((gOf l i).take t).foldl (stI i) S1) wr∧KeepsFrom n₀ W wr∧BelBut (K+1) n₀ W wr
theorem crf_law {g:Operand} {assign body:Code} {Q:Exit→Act→World→Prop} {T:Array Value} {wS w:World} {lw:List Work} {out:List Nat} {l:List Int} {Bs len cap K N c:Nat} {A A0:Option Addr} (hg:(Act.mk T []).eval g = .func (.func 143) #[] #[.pointer (some ⟨Bs,0,none⟩)])
  (hlen:len≤1000) (hA:0<len→∃ b off,A=some ⟨b,off,none⟩∧b<wS.heap.size∧b≠K+1) (hBn:Bs<wS.heap.size) (hBq:Bs≠K+1) (hc:wS.cell? ⟨Bs,0,none⟩=some (.slice A len cap)) (hsl:SlAt RInt wS A len l) (hK:K+2<wS.heap.size) (hwS:w.heap.size≤wS.heap.size)
  (h0:CrS K N c A0 wS.heap.size w (List.replicate N 0) wS)
  (hassign:∀ (lp:Nat) (pre:List (Fin l.length)) (x:Fin l.length) (W:World) (Kp:Act→World→Prop),IrC lw out l.length K N c A0 wS.heap.size w pre W→(∀ a' W',KeepsFrom wS.heap.size W W'→BelBut (K+1) wS.heap.size W W'→IrC lw out l.length K N c A0 wS.heap.size w pre W'→AxC T l x a' W'→Kp a' W') →
   assign.wpIn (Fence.wide.inRound lp) (9-1-1) Tryz.prog (Exit.then Kp (fun _ _ _=>False)) { tmps:=(#[22,23].zip (encI l x)).foldl (fun t (p,v)=>t.setIfInBounds p v) T,defers:=[] } W)
  (hbody:∀ (lp:Nat) (pre:List (Fin l.length)) (x:Fin l.length) (a':Act) (W:World),wS.heap.size≤lp→(∃ r,W.heap[lp]? = some (.loop r))→IrC lw out l.length K N c A0 wS.heap.size w pre W→AxC T l x a' W→pre.length<l.length→body.wpIn (Fence.wide.inRound lp) (9-1-1) Tryz.prog (ownPostG wS.heap.size (BelBut (K+1) wS.heap.size) (IrC lw out l.length K N c A0 wS.heap.size w) (fun _ _ _=>False) (pre ++ [x]) W) a' W)
  (hdone:∀ (D:Nat) (xs:List (Fin l.length)) (W:World),wS.heap.size≤D→xs=downF l.length→IrC lw out l.length K N c A0 wS.heap.size w xs W→W.heap[D]? = some (.deferred (some []))→Q .normal { tmps:=T,defers:={ target:=.collected D,args:=#[] } :: [] } W) :
  (Code.rangeFunc g #[22,23] assign body).wpIn Fence.wide 9 Tryz.prog Q { tmps:=T,defers:=[] } wS :=
 wpIn_rangeFunc_ownH rfl (by omega) hg trivial (enters_of Tryz.func143 (by kernel_rfl) rfl)
  (back_stops Fence.wide (9-1) trivial rfl (by omega) Bs wS.heap.size len cap A l hlen (K+1) hA hBn hBq wS (Nat.le_refl _) hc hsl) BelBut.trans (fun W l o o' hl _ _ _=>BelBut.put W l o' hl) (Below.refl _ _) (fun _=>rfl)
  (IrC lw out l.length K N c A0 wS.heap.size w) (fun _ _ _=>False)
  (fun s W W' row hs hg hr=>CrS.grown hs hK hwS hg (fun r e=>(hr r e).1))
  (fun cd s W W' row hs hg hr=>hs)
  h0
  (AxC T l)
  (fun x a' _ X Y row hs hg hr=>hs)
  hassign hbody hdone (fun D c pre W _ _ h=>h.elim)
theorem crit_any (A:Option Addr) (N c:Nat) (l:List Work) (w:World) (hl:SlAt RWork w A N l) (hok:WOk l) :
  Calls Tryz.prog 55 #[.slice A N c] w fun e w'=>∃ (B:Nat) (S:List Int),e = .returned (.slice (some ⟨B,0,none⟩) N N)∧Sms w' B N S∧Crit (gOf l) (szOf l) N (gt S)∧(∀ k,k<N→0≤gt S k∧gt S k≤200000000)∧w.heap.size≤B∧B<w'.heap.size∧Below w.heap.size w w':=by
 have hll:=hl.1;have hN2:N≤200:=by have:=hok.len;omega
 obtain⟨C,hC,hCb⟩:=hok.crit;rw[hll]at hC hCb;have hno:¬ Cyc (gOf l) N:=by have:=hok.nocyc;rw[hll]at this;exact this
 have hgl:∀ i,i<N→∀ k∈gOf l i,k<N:=by have:=gOf_lt hok.all;rw[hll]at this;exact this
 have hmk:=run_makeInts N (by omega);obtain⟨hlH,hllH,hokH,hCH,hCbH,hnoH,hglH⟩:=hq2 hl (hq2 hll (hqb hok hC hCb hno (Lib.hid hgl)));clear hl hll hok hC hCb hno hgl;refine(callsIn_wide (n:=9)).1 ?_;refine callsIn_of_wp_marks Tryz.func55 rfl trivial ?_ rfl;simp only[Tryz.ntmps55,List.size_toArray,List.length_cons,List.length_nil,Nat.reduceAdd,Nat.reduceSub,Array.replicate_succ,Array.replicate_zero,List.push_toArray,List.append_toArray,List.nil_append,List.cons_append]
 gi_wp2_with fail
 refine⟨trivial,callsIn_wide.2 ?_⟩;have z0:=CrS.start w A N c;obtain⟨w0,hw0⟩:∃ W,W=(((w.alloc (.cells #[.slice A N c] 23)).alloc (.cells (madeI N) 3)).alloc (.cells #[.slice (some ⟨w.heap.size+1,0,none⟩) N N] 56)):=⟨_,rfl⟩;rw[← hw0]at z0 ⊢;clear hw0;refine(ordered_own A N c l w0 (by omega) (hlH.out.below z0.bel) hokH.out.rise hokH.out.all).mono ?_;rintro e w1 ⟨⟨OA,on,oc,out,ok,rfl,hO,hon,hoke,htp,hms,hb1⟩,hfr⟩;have hle:=z0.le;have hoN:out.length=N:=(topo_iff hglH.out htp hms).2 hnoH.out;rw[hoN]at hon;obtain rfl:N=on:=hon.symm;have z1:=z0.below (by omega) (by omega) hb1;have hb1s:=hb1.size;clear hmk z0;obtain⟨hOH,htpH,hmsH,hb1H,z1H⟩:=hqb hO htp hms hb1 (Lib.hid z1);clear hO htp hms hb1 z1
 gi_wp2_with fail
 refine⟨trivial,callsIn_wide.2 ?_⟩;refine(back_any OA N oc _).mono ?_;rintro e w2 ⟨rfl,rfl⟩;have hba:Below w1.heap.size w1 (w1.alloc (.cells #[.slice OA N oc] 56)):=(Below.refl _ _).alloc (Nat.le_refl _) _;have xsl:=Boxed.new w1 56 (.slice OA N oc);obtain⟨wS,hwS⟩:∃ W,W=w1.alloc (.cells #[.slice OA N oc] 56):=⟨_,rfl⟩;have hszS:wS.heap.size=w1.heap.size+1:=by rw[hwS];simp
 rw[← hwS]at hba xsl;have zS':=z1H.out.below (by omega) (by omega) hba;have hle1:=z1H.out.le;have zS:CrS w.heap.size N c A wS.heap.size w (List.replicate N 0) wS:=⟨zS'.c0,zS'.c2,zS'.sms,zS'.bel,Nat.le_refl _⟩;clear zS';obtain⟨xslH,zSH,hbaH⟩:=hq2 xsl (hq2 zS (Lib.hid hba));clear xsl zS hba
 gi_wp2_with fail
 rw[← hwS];clear hwS;refine crf_law (lw:=l) (out:=out) (l:=nz out) (K:=w.heap.size) (N:=N) (c:=c) (A:=OA) (A0:=A) (len:=N) (cap:=oc) (w:=w) (Bs:=w1.heap.size) rfl (by omega) ?hA (by omega) (by omega) xslH.out.cell (hOH.out.below hbaH.out) (by omega) (by omega) zSH.out ?assign ?body ?done
 case hA =>
  intro h0;obtain⟨b7,off7,hA7,hc7⟩:=hOH.out.2.1 h0;have hx7:(nz out)[0]? = some ((nz out)[0]'(by rw[nz_len];omega)):=List.getElem?_eq_getElem _;have h8:b7<w1.heap.size:=cell?_lt (hc7 0 _ hx7 0 (.int .i64 ((nz out)[0]'(by rw[nz_len];omega))) rfl);have h9:=hfr b7 off7 N oc ok (by rw[hA7]);exact⟨b7,off7,hA7,by omega,by omega⟩
 case assign =>
  rintro lp pre x W K hI hK
  dsimp only[encI]
  gi_wp2
  refine hK _ _ (KeepsFrom.refl _ _) (BelBut.refl _ _ _) hI ?_;simp[AxC,encI]
 case body =>
  rintro lp pre ⟨p,hp⟩ a' W hlp hrec hI ha' hlt;clear hrec hlp hlt;have hpo:p<out.length:=by rw[nz_len]at hp;exact hp
  obtain⟨i,hi⟩:∃ i,out[p]=i:=⟨_,rfl⟩;have hx:(nz out)[p]'hp=(i:Int):=by simp[nz,hi]
  have hiN:i<N:=htpH.out.lt i (by rw[← hi];exact List.getElem_mem hpo);have hix:ixO out (⟨p,hp⟩:Fin (nz out).length)=i:=by unfold ixO;rw[List.getD_eq_getElem?_getD,List.getElem?_eq_getElem hpo];exact hi
  simp only[AxC,encI,Fin.getElem_fin,hx]at ha';simp at ha';subst ha';unfold IrC at hI ⊢;obtain⟨S,hS⟩:∃ S,runO l N (pre.map (ixO out))=S:=⟨_,rfl⟩;rw[hS]at hI;have hgoal:∀ W',CrS w.heap.size N c A wS.heap.size w (stO l S i) W'→CrS w.heap.size N c A wS.heap.size w (runO l N ((pre ++ [(⟨p,hp⟩:Fin (nz out).length)]).map (ixO out))) W':=fun W' h=>by
   rw[List.map_append,List.map_singleton,runO_snoc,hix,hS];exact h
  clear hix hS hx;obtain⟨x,hx⟩:∃ x,l[i]? = some x:=⟨l[i]'(by rw[hllH.out];exact hiN),List.getElem?_eq_getElem _⟩;obtain⟨ab,off,hA,_⟩:=hlH.out.2.1 (by omega);subst hA;obtain⟨d0,d1,d2,d3⟩:=cells_Work (hlH.out.below hI.bel) hx;have hSl:=hI.sms.len;obtain⟨z,hz⟩:∃ z,S[i]? = some z:=⟨S[i]'(by rw[hSl];exact hiN),List.getElem?_eq_getElem _⟩;obtain⟨e0,e1⟩:=hI.sms.cells i z hz;have c0:=hI.c0;have c2:=hI.c2;have hze:=gt_get hz;have hsx:=szOf_get hx;obtain⟨W1,hW1⟩:∃ X,(W.setCell ⟨w.heap.size+1,i,none⟩ (.int .i64 (wrap64 (z+x.size)))).drew=X:=⟨_,rfl⟩;have z1':CrS w.heap.size N c (some ⟨ab,off,none⟩) wS.heap.size w (S.set i (wrap64 (gt S i+szOf l i))) W1:=by
   rw[← hW1,hze,hsx];exact(hI.put (Nat.le_refl _) hiN _).drew
  have hk1:KeepsFrom wS.heap.size W W1:=by rw[← hW1];exact((KeepsOthers.setCell W _ _).trans (KeepsOthers.drew _)).from _
  have hb1':BelBut (w.heap.size+1) wS.heap.size W W1:=by rw[← hW1];exact((BelBut.refl _ _ W).setCell (p:=⟨w.heap.size+1,i,none⟩) rfl _).trans (BelBut.of ((Below.refl _ _).drew))
  obtain⟨S1,hS1⟩:∃ q,S.set i (wrap64 (gt S i+szOf l i))=q:=⟨_,rfl⟩;have hsto:stO l S i=(gOf l i).foldl (stI i) S1:=by unfold stO;rw[hS1]
  rw[hS1]at z1';rw[hsto]at hgoal;clear hsto hS1 hze hsx;have hxm:=List.mem_of_getElem? hx;have hxa:=(hlH.out.2.2 x hxm).2.2.2;have hgx:∀ s∈x.after.l,hasId l s=true:=fun s hs=>allThere_get hokH.out.all hx hs;have hgo:=gOf_get hx;obtain⟨hIH,hgoalH,hxH,hzH,z1'H,hk1H,hb1'H,hxaH,hgxH,hgoH⟩:=hq2 hI (hqc hgoal hx hz z1' hk1 hb1' hxa hgx (Lib.hid hgo));clear hI hgoal hx hz z1' hk1 hb1' hxa hgx hgo
  gi_wp2_with fail
  refine region_tail_in 11 (by kernel_rfl) (by kernel_rfl) (by kernel_rfl) ?_;simp only[List.take_succ_cons,List.take_zero,List.drop_succ_cons,List.drop_zero]
  repeat still_step
  try refine wpStill_nil ?_
  go_wp2;rw[hW1];clear hW1 d0 d1 d2 d3 e0 e1 c0 c2;have c0:=z1'H.out.c0;obtain⟨d0,d1,d2,d3⟩:=cells_Work (hlH.out.below z1'H.out.bel) hxH.out;unfold noOut
  gi_wp2_with fail
  gi_loopw [41] (fun v wr=>CrL l i S1 w.heap.size N c (some ⟨ab,off,none⟩) wS.heap.size w x.after.n W v wr) (fun v _=>x.after.n-(intOf v).toNat)
  case atStart=>exact⟨0,Nat.zero_le _,rfl,by rw[List.take_zero];exact z1'H.out,hk1H.out,hb1'H.out⟩
  case round =>
   clear d0 d1 d2 d3 c0;obtain⟨t,ht,rfl,hz2,hk2,hb2⟩:=hrel
   by_cases hlt:t<x.after.n
   ·have hxal:=hxaH.out.1.1;have hxn:x.after.n≤9223372036854775807:=Nat.le_trans hxaH.out.2.1 hxaH.out.2.2.1;obtain⟨s,hs⟩:∃ s,x.after.l[t]? = some s:=⟨x.after.l[t]'(by omega),List.getElem?_eq_getElem _⟩;obtain⟨b5,off5,hA5,_⟩:=hxaH.out.1.2.1 (by omega);have hq:=hxaH.out.1.below hz2.bel;rw[hA5]at hq ⊢;have f0:=cell_StrW hq hs;have c0:=hz2.c0;have hid:=hgxH.out s (List.mem_of_getElem? hs);obtain⟨k,hk⟩:∃ k,ixOf l s=k:=⟨_,rfl⟩;have hkN:k<N:=by rw[← hk,← hllH.out];exact ixOf_lt hid
    have hgt:(gOf l i)[t]? = some k:=by rw[hgoH.out,List.getElem?_map,hs];exact congrArg some hk
    have htk:((gOf l i).take (t+1)).foldl (stI i) S1=stI i (((gOf l i).take t).foldl (stI i) S1) k:=by
     rw[List.take_add_one,hgt,Option.toList_some,List.foldl_append];rfl
    obtain⟨S2,hS2⟩:∃ q,((gOf l i).take t).foldl (stI i) S1=q:=⟨_,rfl⟩;rw[hS2]at hz2 htk;clear hq hgt hS2;obtain⟨hz2H,hk2H,hb2H,hsH,hidH,htkH,hkH⟩:=hq2 hz2 (hq2 hk2 (hqb hb2 hs hid htk (Lib.hid hk)));clear hz2 hk2 hb2 hs hid htk hk
    gi_wp2_with fail
    refine⟨trivial,CallsIn.inRound lp (callsIn_wide.2 ?_)⟩;refine(workAt_any (some ⟨ab,off,none⟩) N c l s wr (by omega) (hlH.out.below hz2H.out.bel) hokH.out.rise).mono ?_;rintro e w5 ⟨k',rfl,hk',hw5⟩;obtain rfl:k'=k:=(hk' hidH.out).trans hkH.out;rw[hidH.out];have hw5s:=hw5.size;have z5:=hz2H.out.below (by omega) (by omega) hw5;have hk5:=hk2H.out.trans (keeps_below hw5);have hb5:=hb2H.out.trans (BelBut.of (hw5.mono hz2H.out.le));clear hk' hkH f0 c0 hz2H hk2H hb2H hw5 hidH;obtain⟨y,hy⟩:∃ y,S2[k']? = some y:=⟨S2[k']'(by rw[z5.sms.len];exact hkN),List.getElem?_eq_getElem _⟩;obtain⟨z,hz⟩:∃ z,S2[i]? = some z:=⟨S2[i]'(by rw[z5.sms.len];exact hiN),List.getElem?_eq_getElem _⟩;obtain⟨e0,_⟩:=z5.sms.cells k' y hy;obtain⟨e1,_⟩:=z5.sms.cells i z hz;have c2:=z5.c2;obtain⟨W2,hW2⟩:∃ X,(w5.setCell ⟨w.heap.size+1,k',none⟩ (.int .i64 (max y z))).drew=X:=⟨_,rfl⟩;have R:CrL l i S1 w.heap.size N c (some ⟨ab,off,none⟩) wS.heap.size w x.after.n W (.int .i64 ((t:Int)+1)) W2:=by
     refine⟨t+1,hlt,by go_num,?_,?_,?_⟩
     ·rw[htkH.out,stI,gt_get hy,gt_get hz,← hW2];exact(z5.put (Nat.le_refl _) hkN _).drew
     ·rw[← hW2];exact hk5.trans (((KeepsOthers.setCell w5 _ _).trans (KeepsOthers.drew _)).from _)
     ·rw[← hW2];exact hb5.trans (((BelBut.refl _ _ w5).setCell (p:=⟨w.heap.size+1,k',none⟩) rfl _).trans (BelBut.of ((Below.refl _ _).drew)))
    clear hy hz z5 hk5 hb5;have RH:=Lib.hid R;clear R
    gi_wp2_with fail
    refine region_tail_in 12 (by kernel_rfl) (by kernel_rfl) (by kernel_rfl) ?_;simp only[List.take_succ_cons,List.take_zero,List.drop_succ_cons,List.drop_zero]
    repeat still_step
    try refine wpStill_nil ?_
    go_wp2
    try rw[hW2]
    clear hW2 e0 e1 c2;unfold noOut
    gi_wp2
    exact⟨RH.out,by simp[intOf];omega⟩
   ·obtain rfl:t=x.after.n:=by omega
    have hall:(gOf l i).take x.after.n=gOf l i:=List.take_of_length_le (by rw[hgoH.out,List.length_map];have:=hxaH.out.1.1;omega);rw[hall]at hz2;have R:=hgoalH.out _ hz2;clear hz2 hall;obtain⟨hk2H,hb2H,RH⟩:=hq2 hk2 (hq2 hb2 (Lib.hid R));clear hk2 hb2 R
    gi_wp2
    exact⟨hk2H.out,hb2H.out,RH.out⟩
 case done =>
  rintro D ys W hD rfl hI hK;have hS:=runO_all (n:=(nz out).length) (by rw[nz_len];omega) htpH.out hoN hCH.out hCbH.out;obtain⟨S,hSe⟩:∃ S,runO l N ((downF (nz out).length).map (ixO out))=S:=⟨_,rfl⟩;unfold IrC at hI;rw[hSe]at hI hS;have q2:=hI.c2;have hsm:=hI.sms;have hbw:=hI.bel;have hlw:=hI.le;have hcr:Crit (gOf l) (szOf l) N (gt S):=fun j hj=>by
   obtain⟨m,h1,h2⟩:=hCH.out j hj;exact⟨m,h1.congr (fun _ _=>Iff.rfl) (fun k hk _=>(hS k hk).symm),by rw[hS j hj];exact h2⟩
  have hbd:∀ k,k<N→0≤gt S k∧gt S k≤200000000:=fun k hk=>by rw[hS k hk];exact hCbH.out k hk
  clear hI hS hSe;obtain⟨hsmH,hbwH,hcrH,hbdH,hKH⟩:=hqb hsm hbw hcr hbd (Lib.hid hK);clear hsm hbw hcr hbd hK;have hfin:∃ (B:Nat) (S':List Int),(Ending.returned (.slice (some ⟨w.heap.size+1,0,none⟩) N N)) = .returned (.slice (some ⟨B,0,none⟩) N N)∧Sms (W.putObj D (.deferred none)) B N S'∧Crit (gOf l) (szOf l) N (gt S')∧(∀ k,k<N→0≤gt S' k∧gt S' k≤200000000)∧w.heap.size≤B∧B<(W.putObj D (.deferred none)).heap.size∧Below w.heap.size w (W.putObj D (.deferred none)):=by
   have hp:=BelBut.put (q:=w.heap.size) W D (.deferred none) hD;have h1:=hp.size;have h2:=hbwH.out.size;have h3:=hp.block (w.heap.size+1) (by omega) (by omega);exact⟨w.heap.size+1,S,rfl,hsmH.out.keep h3,hcrH.out,hbdH.out,by omega,by omega,hbwH.out.trans (belowK_b (w:=w) (Nat.le_refl _) W D _ _ (by omega) hKH.out rfl rfl)⟩
  clear hsmH hcrH hbdH hbwH hszS hle hle1 hb1s;have hfinH:=Lib.hid hfin;clear hfin
  gi_wp2
  refine⟨by simp,.inl ⟨_,_,rfl,run_takeDeferred hKH.out,?_⟩⟩;exact⟨.slice (some ⟨w.heap.size+1,0,none⟩) N N,by simp[results,Tryz.f55,go_sem],hfinH.out⟩
end Go.Proofs.YtbnkoefljcekbaaGreatDoor.C9
namespace Go.Proofs.YtbnkoefljcekbaaGreatDoor.C9
open Go.ChangeShapes Go.WideShapes Go.Deep Go.RowKit
theorem cmpI_lt {a b:Int}:Lib.compareInt a b<0↔a<b:=by unfold Lib.compareInt;split <;> (try split) <;> omega
theorem crAt_val {C:CC} {w:World} (h:CrAt C w) {x:Int} (hx:InC C x):w.cell? ⟨C.cb,x.toNat,none⟩=some (.int .i64 (vC C x)):=by
 have hl:x.toNat<C.l.length:=by have:=hx.1;have:=hx.2;omega
 refine h.at_ x.toNat _ ?_;unfold vC;rw[List.getD_eq_getElem?_getD,List.getElem?_eq_getElem hl];rfl
theorem cmp_any (C:CC) (x y:Int) (w:World) (v:Int) (hc:CrAt C w) (hx:InC C x) (hy:InC C y) (hv:Lib.compareInt (vC C y) (vC C x)=v) :
  Calls Tryz.prog 159 #[.int .i64 x,.int .i64 y,.pointer (some ⟨C.pc,0,none⟩)] w fun e w'=>e = .returned (.int .i64 v)∧Below w.heap.size w w':=by
 have h0:=hc.hd;obtain⟨X,rfl⟩:∃ n:Nat,x=(n:Int):=⟨x.toNat,by have:=hx.1;omega⟩;obtain⟨Y,rfl⟩:∃ n:Nat,y=(n:Int):=⟨y.toNat,by have:=hy.1;omega⟩;have h1:=crAt_val hc hx;have h2:=crAt_val hc hy;simp only[Int.toNat_natCast]at h1 h2;have k1:(0:Int)≤(X:Int):=by omega
 have k2:(X:Int)<(C.l.length:Int):=hx.2;have k3:(0:Int)≤(Y:Int):=by omega
 have k4:(Y:Int)<(C.l.length:Int):=hy.2;obtain⟨pc,hpc⟩:∃ a,C.pc=a:=⟨_,rfl⟩;obtain⟨cb,hcb⟩:∃ a,C.cb=a:=⟨_,rfl⟩;obtain⟨cn,hcn⟩:∃ a,C.l.length=a:=⟨_,rfl⟩;obtain⟨cc,hcc⟩:∃ a,C.cap=a:=⟨_,rfl⟩;obtain⟨vx,hvx⟩:∃ a,vC C (X:Int)=a:=⟨_,rfl⟩;obtain⟨vy,hvy⟩:∃ a,vC C (Y:Int)=a:=⟨_,rfl⟩;rw[hpc,hcb,hcn,hcc]at h0;rw[hcb,hvx]at h1;rw[hcb,hvy]at h2;rw[hcn]at k2 k4;rw[hvx,hvy]at hv;rw[hpc];clear hx hy hc hpc hcb hcn hcc hvx hvy;have hvH:=Lib.hid hv;clear hv;go_enter Tryz.func159,Tryz.ntmps159;go_wp2_with fail
 go_region_held3 (fun w'=>w'.cell? ⟨pc,0,none⟩=some (.slice (some ⟨cb,0,none⟩) cn cc)∧w'.cell? ⟨cb,X,none⟩=some (.int .i64 vx)∧w'.cell? ⟨cb,Y,none⟩=some (.int .i64 vy)) (go_keep)
  (first | (go_at_call 41;refine(Tryz.cmp_Compare_int _ _ _).mono ?_;rw[hvH.out];rintro e w1 ⟨rfl,hw1⟩;rw[hw1];clear hw1))
 go_wp2;go_ret;exact⟨rfl,(Below.refl _ _).drew⟩
theorem get_mid {P M S:List Int} {x:Int} {i:Nat} (h:P.length=i):(P++x::M)[i]? = some x:=by
 subst h;rw[List.getElem?_append_right (Nat.le_refl _),Nat.sub_self];rfl
def gI (C:CC):Value:=.func (.func 159) #[] #[.pointer (some ⟨C.pc,0,none⟩)]
def InO (C:CC) (P M S:List Int) (a b off n:Nat) (w0:World) (i:Value) (wr:World):Prop :=
 ∃ (k:Nat) (M1:List Int),1≤k∧k≤M.length∧i = .int .i64 ((a:Int)+(k:Int))∧M1.length=k∧SortedBy (fI C) M1∧SameCls (fI C) M1 (M.take k)∧RowI C wr b off n (P++M1++M.drop k++S)∧Srt b w0 wr
def InI (C:CC) (P M1 D S:List Int) (x:Int) (a b off n:Nat) (w0:World) (j:Value) (wr:World):Prop :=
 ∃ (A B:List Int),j = .int .i64 ((a:Int)+(A.length:Int))∧M1=A++B∧(∀ y∈B,(fI C) x<(fI C) y)∧RowI C wr b off n (P++A++x::B++D++S)∧Srt b w0 wr
theorem ins_step (C:CC) {A B:List Int} {x:Int} {T:List Int} (hs:SortedBy (fI C) (A++B)) (hA:∀ y,A.getLast? = some y→(fI C) y≤(fI C) x) (hB:∀ y∈B,(fI C) x<(fI C) y) (hT:SameCls (fI C) (A++B) T):SortedBy (fI C) (A++x::B)∧SameCls (fI C) (A++x::B) (T ++ [x]):=by
 have hA2:∀ z∈A,(fI C) z≤(fI C) x:=fun z hz=>by
  obtain⟨l,hl⟩:∃ l,A.getLast? = some l:=by
   cases h:A.getLast? with
   | none=>rw[List.getLast?_eq_none_iff]at h;subst h;cases hz
   | some l=>exact⟨l,rfl⟩
  obtain⟨i,hi⟩:=List.getLast?_eq_some_iff.1 hl;have:=hA l hl;rw[hi]at hz
  rcases List.mem_append.1 hz with hz | hz
  ·have hs2:=sorted_left hs;rw[hi]at hs2;have:=sorted_cross hs2 z hz l (by simp);omega
  ·rw[List.mem_singleton.1 hz];exact this
 refine⟨sorted_app (sorted_left hs) (List.pairwise_cons.2 ⟨fun y hy=>Int.le_of_lt (hB y hy),sorted_right hs⟩) fun u hu v hv=>?_,?_⟩
 ·rcases List.mem_cons.1 hv with rfl | hv
  ·exact hA2 u hu
  ·exact sorted_cross hs u hu v hv
 ·have e1:SameCls (fI C) ([x]++B) (B ++ [x]):=same_swap fun u hu y hy=>by rw[List.mem_singleton.1 hu];have:=hB y hy;omega
  have e2:=(SameCls.refl (f:=fI C) A).app e1;have e3:=hT.app (SameCls.refl (f:=fI C) [x]);intro v;have:=e2 v;have h3:=e3 v;rw[show A++x::B=A++([x]++B) from rfl,this,← h3,List.append_assoc]
theorem insertion_any (C:CC) (b off n cap:Nat) (P M S:List Int) (a e:Nat) (w:World) (hP:P.length=a) (he:e=a+M.length) (hn:n≤1000000000) (hrow:RowI C w b off n (P++M++S)) :
  Calls Tryz.prog 222 #[.slice (some ⟨b,off,none⟩) n cap,.int .i64 a,.int .i64 e,(gI C)] w fun e w'=>e = .returned (.tuple #[])∧∃ M',SortedBy (fI C) M'∧SameCls (fI C) M' M∧RowI C w' b off n (P++M'++S)∧Srt b w w':=by
 have hlen:=hrow.sl.1;simp only[List.length_append]at hlen;have hen:e≤n:=by omega
 have hae:a≤e:=by omega
 unfold gI
 by_cases hM0:M.length=0
 ·obtain rfl:M = []:=List.eq_nil_of_length_eq_zero hM0;have hea:e=a:=by simpa using he
  subst hea;clear hM0 he;obtain⟨hrowH,hlenH,hPH⟩:=hq2 hrow (hq2 hlen (Lib.hid hP));clear hrow hlen hP;go_enter Tryz.func222,Tryz.ntmps222;go_wp2_with fail;refine wp_loop_rounds 1 ?_;rw[rounds_succ];go_wp2
  go_end0
  exact⟨rfl,[],List.Pairwise.nil,SameCls.refl _,hrowH.out,World.grownBy.refl _ _⟩
 ·have hstart:InO C P M S a b off n w (.int .i64 ((a:Int)+1)) w:=by
   refine⟨1,M.take 1,Nat.le_refl _,by omega,by go_num,by rw[List.length_take];omega,?_,SameCls.refl _,?_,World.grownBy.refl _ _⟩
   ·cases M with
    | nil=>exact absurd rfl hM0
    | cons z r=>simp[SortedBy]
   ·rw[List.append_assoc P,List.take_append_drop];exact hrow
  obtain⟨hrowH,hlenH,hPH,hstartH,heH⟩:=hqb hrow hlen hP hstart (Lib.hid he);clear hrow hlen hP hstart he;go_enter Tryz.func222,Tryz.ntmps222;go_wp2_with fail
  go_loopw [8] (fun i wr=>InO C P M S a b off n w i wr) (fun i _=>e-(intOf i).toNat)
  case atStart=>exact hstartH.out
  case round =>
   clear hstartH;obtain⟨k,M1,hk1,hkM,rfl,hMl,hso,hcl,hrw,hs⟩:=hrel;have hake:a+k≤e:=by have:=heH.out;omega
   by_cases hlt:a+k<e
   ·have hkM2:k+1≤M.length:=by have:=heH.out;omega
    have hltz:(a:Int)+(k:Int)<(e:Int):=by omega
    obtain⟨x,hx⟩:∃ x,M[k]? = some x:=⟨M[k],List.getElem?_eq_getElem _⟩;rw[drop_cons hx]at hrw;have hin:InI C P M1 (M.drop (k+1)) S x a b off n wr (.int .i64 ((a:Int)+(k:Int))) wr:=⟨M1,[],by rw[hMl],by simp,fun y hy=>(by cases hy),by simpa using hrw,World.grownBy.refl _ _⟩;obtain⟨wa,rfl⟩:∃ W,W=wr:=⟨_,rfl⟩;obtain⟨hMlH,hsoH,hclH,hrwH,hsH,hxH,hinH⟩:=hq2 hMl (hq2 hso (hqb hcl hrw hs hx (Lib.hid hin)));clear hMl hso hcl hrw hs hx hin;go_wp2_with fail
    go_loopw [9] (fun j wr=>InI C P M1 (M.drop (k+1)) S x a b off n wa j wr) (fun j _=>(intOf j).toNat)
    case atStart=>exact hinH.out
    case round =>
     clear hinH hrwH;obtain⟨A,B,rfl,hM1,hBx,hrw2,hs2⟩:=hrel;have hMl:=hMlH.out;have hso:=hsoH.out;have hcl:=hclH.out;have hs:=hsH.out;have hx:=hxH.out;rw[hM1]at hso hcl
     by_cases hA0:A = []
     ·subst hA0;have R1:∀ nq,InO C P M S a b off n w (.int .i64 ((a:Int)+(k:Int)+1)) (wr.drewN nq):=by
       intro nq;have hst:=ins_step C (A:=[]) (B:=B) (T:=M.take k) hso (fun y hy=>(by cases hy)) hBx hcl;have R1:InO C P M S a b off n w (.int .i64 ((a:Int)+(k:Int)+1)) (wr.drewN nq):=by
        refine⟨k+1,[]++x::B,by omega,hkM2,by go_num,by rw[hM1]at hMl;simp only[List.length_append,List.length_cons]at hMl ⊢;omega,hst.1,?_,by simpa using (hrw2.below (bel_drewN (Below.refl _ _) nq)),(hs.trans hs2).trans (Srt.of_below (bel_drewN (Below.refl _ _) nq))⟩;rw[List.take_add_one,hx];exact hst.2
       exact R1
      have j0:(a:Int)+(([]:List Int).length:Int)=(a:Int):=by simp
      rw[j0];clear hso hcl hMl hs hx hM1;obtain⟨R1H,hBxH,hrw2H,hs2H,j0H⟩:=hqb R1 hBx hrw2 hs2 (Lib.hid j0);clear R1 hBx hrw2 hs2 j0;go_wp2_with fail
      go_quiet (fail)
      go_wp2;refine⟨?rel,?measure⟩
      case measure=>(simp[intOf];omega)
      case rel=>first | exact(R1H.out _) | exact⟨rfl,(R1H.out _)⟩
     ·obtain⟨A0,y,rfl⟩:∃ A0 y,A=A0 ++ [y]:=⟨A.dropLast,A.getLast hA0,(List.dropLast_concat_getLast hA0).symm⟩;obtain⟨jj,hjj⟩:∃ jj,a+A0.length=jj:=⟨_,rfl⟩;have j0:(a:Int)+((A0 ++ [y]).length:Int)=(jj:Int)+1:=by rw[List.length_append,List.length_singleton];omega
      rw[j0];have hd:P++(A0 ++ [y])++x::B++M.drop (k+1)++S=(P++A0)++y :: []++x::(B++M.drop (k+1)++S):=by simp
      rw[hd]at hrw2;have hgy:((P++A0)++y :: []++x::(B++M.drop (k+1)++S))[jj]? = some y:=by rw[List.append_assoc];exact get_mid (S:=[]) (by rw[List.length_append];have:=hPH.out;omega)
      have hgx:((P++A0)++y :: []++x::(B++M.drop (k+1)++S))[jj+1]? = some x:=get_mid (S:=[]) (by simp only[List.length_append,List.length_cons,List.length_nil];have:=hPH.out;omega);have hjn:jj+1<n:=by
       have:=hrw2.sl.1;have h2:=(List.getElem?_eq_some_iff.1 hgx).1;omega
      have x0:=hrw2.at_ hgx;have y0:=hrw2.at_ hgy;obtain⟨v,hv⟩:∃ v,Lib.compareInt (vC C y) (vC C x)=v:=⟨_,rfl⟩;have hvl:v<0↔(vC C y)<(vC C x):=by rw[← hv];exact cmpI_lt
      have hw1:IntKind.i64.wrap ((jj:Int)+1-1)=(jj:Int):=by rw[IntKind.wrap_i64];omega
      have haj:a≤jj:=by omega
      have k0:(0:Int)≤(jj:Int):=by omega
      have k1:(jj:Int)+1<(n:Int):=by omega
      have k2:(jj:Int)<(n:Int):=by omega
      have k3:(0:Int)≤(jj:Int)+1:=by omega
      have k4:((jj:Int)+1).toNat=jj+1:=by omega
      have k5:(a:Int)<(jj:Int)+1:=by omega
      have hw2:IntKind.i64.wrap (jj:Int)=(jj:Int):=by rw[IntKind.wrap_i64];omega
      have k6:¬ (jj:Int)<0:=by omega
      clear hs hx;obtain⟨hMlH,hsoH,hclH,hM1H,hBxH,hs2H,j0H,hdH,hgyH,hgxH,hjjH,hvlH,hvH,hrw2H⟩:=hq2 hMl (hqb hso hcl hM1 hBx (hqc hs2 j0 hd hgy hgx hjj hvl hv (Lib.hid hrw2)));clear hMl hso hcl hM1 hBx hs2 j0 hd hgy hgx hjj hvl hv hrw2;go_wp2_with fail;refine wp_region_held_drew (S:=(fun w'=>w'.cell? ⟨b,off+(jj+1),none⟩=some (.int .i64 x)∧w'.cell? ⟨b,off+jj,none⟩=some (.int .i64 y))) (by kernel_rfl) ⟨x0,y0⟩ (fun hHeld=>?_);clear x0 y0;refine tkS [(0,18),(1,19),(2,20),(3,21),(4,22),(5,23),(6,24),(7,25),(8,26),(9,27),(10,28),(11,29),(12,30),(13,31)] ?_;(iterate 14 (refine tkL ?_ ?_ ?_;rotate_left;(· intro w hSw;(try dsimp only at hSw);go_simp;(try with_reducible rfl));(try simp only[Act.put,tkA,tkB,tkC])));refine tkE ?_;refine wpAnyH_ready (rs:=[14]) (by kernel_rfl) (by simp) ?_;refine AllReadyH.cons (i:=14) rfl (fun K hK=>?_) AllReadyH.nil;go_simp;go_at_call 159;refine(cmp_any C x y _ v (hrw2H.out.cr.below (Below.refl _ _).drew) (hrw2H.out.in_ hgxH.out) (hrw2H.out.in_ hgyH.out) hvH.out).mono ?_;rintro e w2 ⟨rfl,hb2⟩;have hb2a:Below wr.heap.size wr w2:=by first | exact hb2 | exact(Below.refl _ _).drew.trans hb2
      replace hHeld:=keep2i hb2 hHeld;have hHeld2:=hHeld;have hrw3:=hrw2H.out.below hb2a;have hs3:=hs2H.out.trans (Srt.of_below hb2a);clear hb2 hb2a;obtain⟨hrw3H,hs3H,hHeld2H⟩:=hq2 hrw3 (hq2 hs3 (Lib.hid hHeld2));clear hrw3 hs3 hHeld2;refine hK.out _ _ hHeld (fun hHeld=>?_);clear hK K
      (try simp only[Act.put,tkA,tkB,tkC])
      clear hHeld;refine tkS [(15,33),(16,34)] ?_;(iterate 2 (refine tkL ?_ ?_ ?_;rotate_left;(· intro w hSw;(try dsimp only at hSw);go_simp;(try with_reducible rfl));(try simp only[Act.put,tkA,tkB,tkC])));refine tkE ?_;refine wpAnyH_done (by kernel_rfl) ?_ _
      by_cases hc:v<0
      ·have hA2:(fI C) x<(fI C) y:=by unfold fI;have:=hvlH.out.1 hc;omega
       have R1:InI C P M1 (M.drop (k+1)) S x a b off n wa (.int .i64 (jj:Int)) (exW w2 b off (jj+1) jj x y).drew:=by
        have hsw:=(hrw3H.out.swap2 (i:=jj) (j:=jj+1) (by rw[List.length_append];have:=hPH.out;have:=hjjH.out;omega) (by simp)).drew;refine⟨A0,y::B,by have:=hjjH.out;congr 1;omega,by rw[hM1H.out];simp,fun z hz=>?_,by simpa using hsw,(hs3H.out.trans (exW_srt _ _ _ _ _ _ _)).trans Srt.drew⟩
        rcases List.mem_cons.1 hz with rfl | hz
        ·exact hA2
        ·exact hBxH.out z hz
       have fz:=hrw3H.out.fz;have f0:=fz jj;have f2:=fz (jj+1);obtain⟨x0,y0⟩:=hHeld2H.out;unfold exW at R1;clear fz hHeld2H;obtain⟨R1H,hA2H⟩:=hq2 R1 (Lib.hid hA2);clear R1 hA2;go_wp2_with fail
       go_region
       go_wp2;refine⟨?rel,?measure⟩
       case measure=>exact(by simp[intOf] <;> omega)
       case rel=>first | exact R1H.out | exact⟨rfl,R1H.out⟩
      ·have hA2:(fI C) y≤(fI C) x:=by unfold fI;have:¬ (vC C y)<(vC C x):=fun h=>hc (hvlH.out.2 h);omega
       have hMl:=hMlH.out;have hso:=hsoH.out;have hcl:=hclH.out;have hM1:=hM1H.out;have hBx:=hBxH.out;have hx:=hxH.out;have hrw4:RowI C w2 b off n (P++(A0 ++ [y])++x::B++M.drop (k+1)++S):=by rw[hdH.out];exact hrw3H.out
       have hst:=ins_step C (A:=(A0 ++ [y])) (B:=B) (T:=M.take k) hso (fun z hz=>by rw[List.getLast?_append]at hz;simp at hz;rw[← hz];exact hA2) hBx hcl;have R1:InO C P M S a b off n w (.int .i64 ((a:Int)+(k:Int)+1)) w2:=by
        refine⟨k+1,(A0 ++ [y])++x::B,by omega,hkM2,by go_num,by rw[hM1]at hMl;simp only[List.length_append,List.length_cons]at hMl ⊢;omega,hst.1,?_,by simpa using hrw4,hsH.out.trans hs3H.out⟩;rw[List.take_add_one,hx];exact hst.2
       clear hst hso hcl hMl hx hM1 hBx hrw4;obtain⟨R1H,hA2H⟩:=hq2 R1 (Lib.hid hA2);clear R1 hA2;go_wp2;refine⟨?rel,?measure⟩
       case measure=>(simp[intOf];omega)
       case rel=>first | exact R1H.out | exact⟨rfl,R1H.out⟩
   ·have hka:a+k=e:=by omega
    have hMk:M.drop k = []:=List.drop_eq_nil_of_le (by have:=heH.out;omega);have hMt:M.take k=M:=List.take_of_length_le (by have:=heH.out;omega);rw[hMk,List.append_nil]at hrw;rw[hMt]at hcl;obtain⟨hrwH,hclH,hsoH,hsH,hMlH,hMkH,hMtH,hkaH⟩:=hq2 hrw (hq2 hcl (hq2 hso (hqb hs hMl hMk hMt (Lib.hid hka))));clear hrw hcl hso hs hMl hMk hMt hka;go_wp2
    go_end0
    exact⟨rfl,M1,hsoH.out,hclH.out,hrwH.out,hsH.out⟩
end Go.Proofs.YtbnkoefljcekbaaGreatDoor.C9