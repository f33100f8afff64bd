/-
 Several texts of mine as one, without what is not wanted here: XChg, XFunc, XAffects.
-/
import Derived.Test.YtdiaabeollcjaaaGreatDoorTlQC10
import Derived.RangeFuncOwn
set_option linter.unusedVariables false
set_option linter.unusedSimpArgs false
set_option maxRecDepth 100000
set_option maxHeartbeats 8000000
namespace Go.Proofs.YtdiaabeollcjaaaGreatDoor.C10
open Go.RowKit Go.Maps
def chRec (x:TreeChange):Int:=if pathB x.path=true then (if inR 1 4 x.kind=true then 0 else 4) else 3
def chErr:Option ByteArray→List TreeChange→Int
 | _,[]=>0
 | p,x::s=>if chRec x=0 then (if p.map (sle x.path ·)=some true then 8 else chErr (some x.path) s) else chRec x
def prevC (l:List TreeChange) (k:Nat):Option ByteArray:=if k=0 then none else (l[k-1]?).map (·.path)
def chF (l:List TreeChange):Int:=if l.length≤1000 then chErr none l else 2
def oldL (l:List TreeChange):List ByteArray:=(l.filter (fun x=>!decide (x.kind=1))).map (·.path)
def newL (l:List TreeChange):List ByteArray:=(l.filter (fun x=>decide (x.kind=1))).map (·.path)
def overL (l:List TreeChange):List ByteArray:=(newL l).flatMap aboveL
theorem oldL_snoc (l:List TreeChange) (x:TreeChange):oldL (l ++ [x])=if x.kind=1 then oldL l else oldL l ++ [x.path]:=by
 unfold oldL
 by_cases h:x.kind=1
 ·simp[h]
 ·simp[h]
theorem newL_snoc (l:List TreeChange) (x:TreeChange):newL (l ++ [x])=if x.kind=1 then newL l ++ [x.path] else newL l:=by
 unfold newL
 by_cases h:x.kind=1
 ·simp[h]
 ·simp[h]
theorem overL_snoc (l:List TreeChange) (x:TreeChange):overL (l ++ [x])=if x.kind=1 then overL l++aboveL x.path else overL l:=by
 unfold overL;rw[newL_snoc]
 split
 ·rw[List.flatMap_append];simp
 ·rfl
def fL (L:List ByteArray):ByteArray→Option Bool:=fun s=>if inL L s=true then some true else none
theorem inL_snoc (L:List ByteArray) (x s:ByteArray):inL (L ++ [x]) s=(inL L s||decide (x=s)):=by
 unfold inL;rw[List.any_append];simp
theorem upd_fL (L:List ByteArray) (x:ByteArray):upd (fL L) x true=fL (L ++ [x]):=by
 funext s
 unfold upd fL;rw[inL_snoc]
 by_cases h:s=x
 ·subst h;simp
 ·rw[if_neg h,decide_eq_false (fun e=>h e.symm),Bool.or_false]
theorem fL_get (L:List ByteArray) (s:ByteArray):(fL L s).getD false=inL L s:=by
 unfold fL
 cases inL L s <;> rfl
def Maps3 (w:World) (b n:Nat):Prop:=w.cell? ⟨b,0,none⟩=some (.map (some n))∧w.cell? ⟨b,1,none⟩=some (.map (some (n+1)))∧w.cell? ⟨b,2,none⟩=some (.map (some (n+2)))
theorem Maps3.grown {w w':World} {b n:Nat} {row:Option Nat} (h:Maps3 w b n) (hg:w.grownBy w' row) (hne:some b≠row):Maps3 w' b n :=
 ⟨hg.cell h.1 hne,hg.cell h.2.1 hne,hg.cell h.2.2 hne⟩
structure ChSt (n:Nat) (W1:World) (L0 L1 L2:List ByteArray) (c0 c1 c2:Nat) (wr:World):Prop where
 m0:TMap KB valB wr (n+1) (fL L0) c0
 m1:TMap KB valB wr (n+2) (fL L1) c1
 m2:TMap KB valB wr (n+3) (fL L2) c2
 cs:Maps3 wr (n+4) (n+1)
 bel:Below (n+1) W1 wr
 big:n+5≤wr.heap.size
theorem below_none {w w':World} (hb:Below w.heap.size w w'):w.grownBy w' none:=below_grown hb rfl
theorem ChSt.below {n:Nat} {W1 wr w':World} {L0 L1 L2:List ByteArray} {c0 c1 c2:Nat} (h:ChSt n W1 L0 L1 L2 c0 c1 c2 wr) (hb:Below wr.heap.size wr w'):ChSt n W1 L0 L1 L2 c0 c1 c2 w':=by
 have:=h.big;exact⟨h.m0.below hb (by omega),h.m1.below hb (by omega),h.m2.below hb (by omega),h.cs.grown (below_none hb) (by simp),h.bel.trans (hb.mono (by omega)),Nat.le_trans h.big hb.size⟩
theorem ChSt.put0 {n:Nat} {W1 wr w':World} {L0 L1 L2:List ByteArray} {c0 c1 c2 c:Nat} {L:List ByteArray} (h:ChSt n W1 L0 L1 L2 c0 c1 c2 wr) (hm:TMap KB valB w' (n+1) (fL L) c) (hg:wr.grownBy w' (some (n+1))):ChSt n W1 L L1 L2 c c1 c2 w':=by
 have:=h.big;exact⟨hm,h.m1.kept hg (by simp),h.m2.kept hg (by simp),h.cs.grown hg (by simp),h.bel.trans (grown_below hg (Nat.le_refl _) (by omega)),Nat.le_trans h.big hg.size⟩
theorem ChSt.put1 {n:Nat} {W1 wr w':World} {L0 L1 L2:List ByteArray} {c0 c1 c2 c:Nat} {L:List ByteArray} (h:ChSt n W1 L0 L1 L2 c0 c1 c2 wr) (hm:TMap KB valB w' (n+2) (fL L) c) (hg:wr.grownBy w' (some (n+2))):ChSt n W1 L0 L L2 c0 c c2 w':=by
 have:=h.big;exact⟨h.m0.kept hg (by simp),hm,h.m2.kept hg (by simp),h.cs.grown hg (by simp),h.bel.trans (grown_below hg (by omega) (by omega)),Nat.le_trans h.big hg.size⟩
theorem ChSt.put2 {n:Nat} {W1 wr w':World} {L0 L1 L2:List ByteArray} {c0 c1 c2 c:Nat} {L:List ByteArray} (h:ChSt n W1 L0 L1 L2 c0 c1 c2 wr) (hm:TMap KB valB w' (n+3) (fL L) c) (hg:wr.grownBy w' (some (n+3))):ChSt n W1 L0 L1 L c0 c1 c w':=by
 have:=h.big;exact⟨h.m0.kept hg (by simp),h.m1.kept hg (by simp),hm,h.cs.grown hg (by simp),h.bel.trans (grown_below hg (by omega) (by omega)),Nat.le_trans h.big hg.size⟩
theorem three_set {w:World} {b:Nat} {u0 u1 u2:Value} (v0 v1 v2:Value) (h0:w.cell? ⟨b,0,none⟩=some u0) (h1:w.cell? ⟨b,1,none⟩=some u1) (h2:w.cell? ⟨b,2,none⟩=some u2) :
  (((w.setCell ⟨b,0,none⟩ v0).setCell ⟨b,1,none⟩ v1).setCell ⟨b,2,none⟩ v2).cell? ⟨b,0,none⟩=some v0 ∧
  (((w.setCell ⟨b,0,none⟩ v0).setCell ⟨b,1,none⟩ v1).setCell ⟨b,2,none⟩ v2).cell? ⟨b,1,none⟩=some v1 ∧
  (((w.setCell ⟨b,0,none⟩ v0).setCell ⟨b,1,none⟩ v1).setCell ⟨b,2,none⟩ v2).cell? ⟨b,2,none⟩=some v2:=by
 have o:∀ (W:World) (i j:Nat) (v:Value),i≠j→(W.setCell ⟨b,i,none⟩ v).cell? ⟨b,j,none⟩=W.cell? ⟨b,j,none⟩:=fun W i j v hij=>World.cell?_setCell_other _ _ _ _ (by simp);have s:∀ (W:World) (i:Nat) (v u:Value),W.cell? ⟨b,i,none⟩=some u→(W.setCell ⟨b,i,none⟩ v).cell? ⟨b,i,none⟩=some v:=fun W i v u hu=>World.cell?_setCell_same' _ _ _ (by rw[hu];rfl);refine⟨?_,?_,?_⟩
 ·rw[o _ 2 0 _ (by omega),o _ 1 0 _ (by omega)];exact s _ 0 _ u0 h0
 ·rw[o _ 2 1 _ (by omega)];exact s _ 1 _ u1 (by rw[o _ 0 1 _ (by omega)];exact h1)
 ·exact s _ 2 _ u2 (by rw[o _ 1 2 _ (by omega),o _ 0 2 _ (by omega)];exact h2)
theorem res3 {w wr:World} {v0 v1 v2:Value} {T:TypeId} (hb:Below (w.alloc (.cells #[v0,v1,v2] T)).heap.size (w.alloc (.cells #[v0,v1,v2] T)) wr) :
  wr.cell? ⟨w.heap.size,0,none⟩=some v0∧wr.cell? ⟨w.heap.size,1,none⟩=some v1∧wr.cell? ⟨w.heap.size,2,none⟩=some v2 ∧
  wr.frozen? ⟨w.heap.size,0,none⟩=false∧wr.frozen? ⟨w.heap.size,1,none⟩=false∧wr.frozen? ⟨w.heap.size,2,none⟩=false:=by
 have hf:∀ j,wr.frozen? ⟨w.heap.size,j,none⟩=false:=fun j=>(hb.frozen (by simp)).trans (by simp only[World.frozen?,(MapKept.heap_alloc w (.cells #[v0,v1,v2] T)).1];simp);exact⟨(hb.cell (by simp)).trans (by simp[go_sem]),(hb.cell (by simp)).trans (by simp[go_sem]),(hb.cell (by simp)).trans (by simp[go_sem]),hf 0,hf 1,hf 2⟩
def ChgAns (l:List TreeChange) (c:Int) (w0:World) (e:Ending) (w':World):Prop :=
 ∃ b0 b1 b2 c0 c1 c2:Nat,e = .returned (.tuple #[.agg #[.map (some b0),.map (some b1),.map (some b2)],.int .i64 c]) ∧
  (c=0→TMap KB valB w' b0 (fL (oldL l)) c0∧TMap KB valB w' b1 (fL (newL l)) c1∧TMap KB valB w' b2 (fL (overL l)) c2)∧Below w0.heap.size w0 w'
def ChRel (l:List TreeChange) (c:Int) (n:Nat) (W1:World) (i:Value) (wr:World):Prop :=
 ∃ k c0 c1 c2:Nat,k≤l.length∧i = .int .i64 k∧chErr (prevC l k) (l.drop k)=c∧ChSt n W1 (oldL (l.take k)) (newL (l.take k)) (overL (l.take k)) c0 c1 c2 wr∧c0≤k∧c1≤k∧c2≤200*k
def OvRel (n:Nat) (W1:World) (L0 L1 L2 al:List ByteArray) (c0 c1 c2:Nat) (A:Option Addr) (i:Value) (wr:World):Prop :=
 ∃ j cc:Nat,j≤al.length∧i = .int .i64 j∧ChSt n W1 L0 L1 (L2++al.take j) c0 c1 cc wr∧cc≤c2+j∧SlAt RStr wr A al.length al
theorem TMap.cellk {k:TypeId} {κ α:Type} {K:KD Tryz.prog k κ} {val:α→Value} {w w':World} {b c:Nat} {f:κ→Option α} (h:TMap K val w b f c) (hg:w.grownBy w' (some b)) {a:Addr} {v:Value} (hc:w.cell? a=some v):w'.cell? a=some v:=by
 refine cell_kept hc hg fun r hr=>?_;obtain rfl:b=r:=by injection hr
 obtain⟨D,⟨es,clock,he,_⟩,_⟩:=h;exact⟨_,he,rfl⟩
theorem SlAt.mapped {k:TypeId} {κ α:Type} {K:KD Tryz.prog k κ} {val:α→Value} {w w':World} {b c:Nat} {f:κ→Option α} (h:TMap K val w b f c) (hg:w.grownBy w' (some b)) {A:Option Addr} {n:Nat} {l:List ByteArray} (hs:SlAt RStr w A n l):SlAt RStr w' A n l:=by
 refine⟨hs.1,fun hn=>?_,hs.2.2⟩;obtain⟨b0,off,hA,hc⟩:=hs.2.1 hn;exact⟨b0,off,hA,fun i x hx j v hv=>TMap.cellk h hg (hc i x hx j v hv)⟩
theorem chSt_start (w:World) (T:TypeId):ChSt w.heap.size (w.alloc (.cells #[.map none,.map none,.map none] T)) [] [] [] 0 0 0 (((((w.alloc (.cells #[.map none,.map none,.map none] T)).alloc (.map #[] 0)).alloc (.map #[] 0)).alloc (.map #[] 0)).alloc (.cells #[.map (some (w.heap.size+1)),.map (some (w.heap.size+1+1)),.map (some (w.heap.size+1+1+1))] T)):=by
 have e:fL []=fun _=>none:=rfl;refine⟨?_,?_,?_,?_,?_,?_⟩
 ·have:=(((TMap.made (w.alloc (.cells #[.map none,.map none,.map none] T)) KB valB).alloc (.map #[] 0)).alloc (.map #[] 0)).alloc (.cells #[.map (some (w.heap.size+1)),.map (some (w.heap.size+1+1)),.map (some (w.heap.size+1+1+1))] T);rw[World.size_alloc]at this;rw[e];exact this
 ·have:=((TMap.made ((w.alloc (.cells #[.map none,.map none,.map none] T)).alloc (.map #[] 0)) KB valB).alloc (.map #[] 0)).alloc (.cells #[.map (some (w.heap.size+1)),.map (some (w.heap.size+1+1)),.map (some (w.heap.size+1+1+1))] T);rw[World.size_alloc,World.size_alloc]at this;rw[e];exact this
 ·have:=(TMap.made (((w.alloc (.cells #[.map none,.map none,.map none] T)).alloc (.map #[] 0)).alloc (.map #[] 0)) KB valB).alloc (.cells #[.map (some (w.heap.size+1)),.map (some (w.heap.size+1+1)),.map (some (w.heap.size+1+1+1))] T);rw[World.size_alloc,World.size_alloc,World.size_alloc]at this;rw[e];exact this
 ·have h:=fun j=>cell_new ((((w.alloc (.cells #[.map none,.map none,.map none] T)).alloc (.map #[] 0)).alloc (.map #[] 0)).alloc (.map #[] 0)) #[.map (some (w.heap.size+1)),.map (some (w.heap.size+1+1)),.map (some (w.heap.size+1+1+1))] T j;simp only[World.size_alloc]at h;exact⟨h 0,h 1,h 2⟩
 ·refine((((Below.refl _ _).alloc ?_ _).alloc ?_ _).alloc ?_ _).alloc ?_ _ <;> simp <;> omega
 ·simp
theorem pathB_size {s:ByteArray} (h:pathB s=true):s.size≤200:=by
 unfold pathB at h;rw[Bool.and_eq_true]at h;have:=inR_true h.1;omega
theorem chgOf_ok (A:Option Addr) (len cap:Nat) (l:List TreeChange) (w:World) (hm:MaxLenAt w) (hlen:len≤1000) (hl:SlAt RTreeChange w A len l) (c:Int) (hF:chErr none l=c) :
  Calls Tryz.prog 24 #[.slice A len cap] w (ChgAns l c w):=by
 have hll:=hl.1;have hmk:=@run_makeMap Tryz.prog;obtain⟨hllH,hFH,hlH,hmH⟩:=hq2 hll (hq2 hF (hq2 hl (Lib.hid hm)));clear hll hF hl hm;go_enter Tryz.func24,Tryz.ntmps24;go_wp2_with fail
 go_loopw [19] (fun i wr=>ChRel l c w.heap.size (w.alloc (.cells #[.map none,.map none,.map none] 76)) i wr) (fun i _=>len-(intOf i).toNat)
 case atStart=>exact⟨0,0,0,0,Nat.zero_le _,rfl,hFH.out,chSt_start w _,Nat.le_refl _,Nat.le_refl _,Nat.le_refl _⟩
 case round =>
  obtain⟨k,c0,c1,c2,hk,rfl,hck,hst,h0,h1,h2⟩:=hrel;obtain⟨wa,rfl⟩:∃ W,W=wr:=⟨_,rfl⟩;have hkl:k≤len:=by have:=hllH.out;omega
  have hbig:=hst.big;have hb:Below w.heap.size w wa:=((Below.refl w.heap.size w).alloc (Nat.le_refl _) _).trans (hst.bel.mono (by omega));have hbs:=hb.size
  by_cases hlt:k<len
  ·obtain⟨b,off,hA,_⟩:=hlH.out.2.1 (by omega);subst hA;obtain⟨x,hx⟩:∃ x,l[k]? = some x:=⟨l[k]'(by have:=hllH.out;omega),List.getElem?_eq_getElem _⟩;obtain⟨d0,d1⟩:=cells_TreeChange (hlH.out.below hb) hx;obtain⟨o0,o1⟩:=hlH.out.2.2 x (List.mem_of_getElem? hx);have hkl2:k+1≤l.length:=by have:=hllH.out;omega
   have hpn:prevC l (k+1)=some x.path:=by rw[prevC,if_neg (by omega),show k+1-1=k from rfl,hx];rfl
   have htk:l.take (k+1)=l.take k ++ [x]:=by rw[List.take_add_one,hx];rfl
   have hs0:=oldL_snoc (l.take k) x;have hs1:=newL_snoc (l.take k) x;have hs2:=overL_snoc (l.take k) x;rw[← htk]at hs0 hs1 hs2;rw[drop_cons hx,chErr]at hck;obtain⟨pa,kd⟩:=x;simp only at d0 d1 o0 o1 hpn hck hs0 hs1 hs2;have o0:pa.size≤maxLen:=o0;obtain⟨b1,hb1⟩:∃ b,pathB pa=b:=⟨_,rfl⟩;obtain⟨b2,hb2⟩:∃ b,inR 1 4 kd=b:=⟨_,rfl⟩;have hsta:=hst.below ((Below.refl wa.heap.size wa).alloc (Nat.le_refl _) (.cells #[.string pa,.int .i64 kd] 72));have hba:=hb.alloc hbs (.cells #[.string pa,.int .i64 kd] 72);have hbas:=hba.size;clear htk;obtain⟨hxH,hbH,hstH,hstaH,hbaH,o0H,o1H,hb1H,hb2H,hpnH,hckH,hkl2H,hs0H,hs1H,hs2H⟩:=hq2 hx (hq2 hb (hqb hst hsta hba o0 (hqc o1 hb1 hb2 hpn hck hkl2 hs0 hs1 (Lib.hid hs2))));clear hx hb hst hsta hba o0 o1 hb1 hb2 hpn hck hkl2 hs0 hs1 hs2;go_wp2_with fail;refine(isPath_any pa _ (hmH.out.below hbaH.out) b1 hb1H.out).mono ?_;rintro e w1 ⟨rfl,hw1⟩;obtain⟨q0,q1,_,_⟩:=res_cells hw1;have hst1:=hstaH.out.below hw1;obtain⟨e0,e1,e2⟩:=hst1.cs;have hbw:=hbaH.out.trans (hw1.mono hbas);clear d0 d1 hw1;obtain⟨hst1H,hbwH⟩:=hq2 hst1 (Lib.hid hbw);clear hst1 hbw
   cases b1
   ·have hre:chRec ⟨pa,kd⟩=3:=by unfold chRec;rw[if_neg (by rw[hb1H.out];simp)]
    have hck:=hckH.out;rw[hre,if_neg (by decide)]at hck;subst hck;clear hckH hre;clear q0 q1;obtain⟨r0,r1,r2,f0,f1,f2⟩:=res3 (wr:=w1) (by rw[World.size_alloc];exact hst1H.out.bel);obtain⟨t0,t1,t2⟩:=three_set (.map (some (w.heap.size+1))) (.map (some (w.heap.size+1+1))) (.map (some (w.heap.size+1+2))) r0 r1 r2;go_wp2;exact bodyPost_ret (v:=.tuple #[.agg #[.map (some (w.heap.size+1)),.map (some (w.heap.size+1+1)),.map (some (w.heap.size+1+2))],.int .i64 3]) (by simp[results,Tryz.results24,go_sem,t0,t1,t2]) rfl ⟨_,_,_,0,0,0,rfl,fun h=>(by cases h),(((hbwH.out).setCell (Nat.le_refl _) _).setCell (Nat.le_refl _) _).setCell (Nat.le_refl _) _⟩
   ·have hwi:∀ W,Calls Tryz.prog 44 #[.int .i64 kd,.int .i64 1,.int .i64 4] W fun e w'=>e = .returned (.bool b2)∧W=w':=fun W=>by have:=within_p kd 1 4 W;rw[hb2H.out]at this;exact this.mono fun e w' h=>⟨h.1,h.2.symm⟩
    have hwiH:=Lib.hid hwi;clear hwi
    cases b2
    ·have hre:chRec ⟨pa,kd⟩=4:=by unfold chRec;rw[if_pos hb1H.out,if_neg (by rw[hb2H.out];simp)]
     have hck:=hckH.out;rw[hre,if_neg (by decide)]at hck;subst hck;clear hckH hre;clear q0;obtain⟨r0,r1,r2,f0,f1,f2⟩:=res3 (wr:=w1) (by rw[World.size_alloc];exact hst1H.out.bel);obtain⟨t0,t1,t2⟩:=three_set (.map (some (w.heap.size+1))) (.map (some (w.heap.size+1+1))) (.map (some (w.heap.size+1+2))) r0 r1 r2;go_wp2_with (go_at_call 44;refine(hwiH.out _).mono ?_;rintro e wz ⟨rfl,rfl⟩);exact bodyPost_ret (v:=.tuple #[.agg #[.map (some (w.heap.size+1)),.map (some (w.heap.size+1+1)),.map (some (w.heap.size+1+2))],.int .i64 4]) (by simp[results,Tryz.results24,go_sem,t0,t1,t2]) rfl ⟨_,_,_,0,0,0,rfl,fun h=>(by cases h),(((hbwH.out).setCell (Nat.le_refl _) _).setCell (Nat.le_refl _) _).setCell (Nat.le_refl _) _⟩
    ·have hre:chRec ⟨pa,kd⟩=0:=by unfold chRec;rw[if_pos hb1H.out,if_pos hb2H.out]
     have hck:=hckH.out;rw[hre,if_pos rfl]at hck;clear hckH hre;go_wp2_with (go_at_call 44;refine(hwiH.out _).mono ?_;rintro e wz ⟨rfl,rfl⟩)
     by_cases hk0:k=0
     ·subst hk0;rw[show prevC l 0=none from rfl,Option.map_none,if_neg (by decide)]at hck;have hckH:=Lib.hid hck;clear hck
      by_cases hkd:kd=1
      ·have hkd':(kd != 1)=false:=by simpa using hkd
       have hs0:=hs0H.out;have hs1:=hs1H.out;have hs2:=hs2H.out;rw[if_pos hkd]at hs0 hs1 hs2;clear hs0H hs1H hs2H hkd;obtain⟨hs0H,hs1H,hs2H⟩:=hq2 hs0 (hq2 hs1 (Lib.hid hs2));clear hs0 hs1 hs2
       go_quiet (fail)
       have hst2:=hst1H.out.below (bel_drewN (Below.refl _ _) nq);have hst2H:=Lib.hid hst2;clear hst2;go_wp2_with (at_mapUpdate;go_loud (refine wpList_tstore rfl (.tmp 60) (.tmp 62) (.const (.bool true)) 74 rfl Tryz.underlying74 injB rfl hst2H.out.m1 (by simp only[maxLen];omega) pa rfl o0H.out true rfl ?_);intro w3 hm3 hg3;have q3:=hg3.cell (show (w1.drewN nq).cell? ⟨wa.heap.size,0,none⟩=some (.string pa) from q0) (by simp;omega);have hm3H:=Lib.hid hm3;clear hm3);have hm3:=hm3H.out;rw[upd_fL]at hm3;have hi3:=ite_le_succ ((fL (newL (List.take 0 l)) pa).isSome=true) c1;obtain⟨c3,hc3⟩:∃ x,(if (fL (newL (List.take 0 l)) pa).isSome=true then c1 else c1+1)=x:=⟨_,rfl⟩;rw[hc3]at hm3 hi3;have hst3:=hst2H.out.put1 hm3 hg3;clear hm3 hm3H hg3 hc3;have hst3H:=Lib.hid hst3;clear hst3;refine(above_any pa _ (by have:=pathB_size hb1H.out;omega)).mono ?_;rintro e w4 ⟨A4,n4,c4,rfl,hs4,hn4,hw4⟩;have hn4:=pathB_size hb1H.out;have hst4:=hst3H.out.below hw4;have hl4:=hs4.1;clear hw4 q3;subst hl4;obtain⟨hst4H,hs4H⟩:=hq2 hst4 (Lib.hid hs4);clear hst4 hs4;go_wp2_with fail
       go_loopw [67] (fun i wr=>OvRel w.heap.size (w.alloc (.cells #[.map none,.map none,.map none] 76)) (oldL (l.take 0)) (newL (l.take 0) ++ [pa]) (overL (l.take 0)) (aboveL pa) c0 c3 c2 A4 i wr) (fun i _=>(aboveL pa).length-(intOf i).toNat)
       case atStart=>exact⟨0,c2,Nat.zero_le _,rfl,by have:=hst4H.out;simp only[List.take_zero,List.append_nil]at this ⊢;exact this,Nat.le_refl _,hs4H.out⟩
       case round =>
        obtain⟨j2,cc,hj2,rfl,hst5,hcc,hs5⟩:=hrel;obtain⟨wb,rfl⟩:∃ W,W=wr:=⟨_,rfl⟩
        by_cases hlt5:j2<(aboveL pa).length
        ·obtain⟨b5,off5,hA5,_⟩:=hs5.2.1 (by omega);subst hA5;obtain⟨y,hy⟩:∃ y,(aboveL pa)[j2]? = some y:=⟨_,List.getElem?_eq_getElem hlt5⟩;have cy:=cell_Str hs5 hy;have hyz:y.size≤maxLen:=hs5.2.2 y (List.mem_of_getElem? hy);obtain⟨e0,e1,e2⟩:=hst5.cs;have htk5:(aboveL pa).take (j2+1)=(aboveL pa).take j2 ++ [y]:=by rw[List.take_add_one,hy];rfl
         obtain⟨hyH,hyzH,hst5H,hs5H,htk5H⟩:=hqb hy hyz hst5 hs5 (Lib.hid htk5);clear hy hyz hst5 hs5 htk5;go_wp2_with (at_mapUpdate;go_loud (refine wpList_tstore rfl (.tmp 72) (.tmp 73) (.const (.bool true)) 74 rfl Tryz.underlying74 injB rfl hst5H.out.m2 (by simp only[maxLen];omega) y rfl hyzH.out true rfl ?_);intro w6 hm6 hg6;have hm6H:=Lib.hid hm6;clear hm6);have R:OvRel w.heap.size (w.alloc (.cells #[.map none,.map none,.map none] 76)) (oldL (l.take 0)) (newL (l.take 0) ++ [pa]) (overL (l.take 0)) (aboveL pa) c0 c3 c2 (some ⟨b5,off5,none⟩) (.int .i64 (j2+1)) w6:=by
          have hm6:=hm6H.out;rw[upd_fL,List.append_assoc,← htk5H.out]at hm6;refine⟨j2+1,_,hlt5,by go_num,hst5H.out.put2 hm6 hg6,Nat.le_trans (ite_le_succ _ cc) (by omega),SlAt.mapped hst5H.out.m2 hg6 hs5H.out⟩
         clear hg6 hm6H;have RH:=Lib.hid R;clear R;refine⟨?rel,?measure⟩
         case measure=>(simp[intOf];omega)
         case rel=>first | exact RH.out | exact⟨rfl,RH.out⟩
        ·obtain rfl:j2=(aboveL pa).length:=by omega
         rw[List.take_length]at hst5;have R:ChRel l c w.heap.size (w.alloc (.cells #[.map none,.map none,.map none] 76)) (.int .i64 1) wb:=by
          refine⟨0+1,c0,c3,cc,hkl2H.out,by go_num,?_,?_,by omega,by omega,by omega⟩
          ·rw[hpnH.out];exact hckH.out
          ·rw[hs0H.out,hs1H.out,hs2H.out];exact hst5
         clear hst5;have RH:=Lib.hid R;clear R;go_wp2;refine⟨?rel,?measure⟩
         case measure=>(simp[intOf];omega)
         case rel=>first | exact RH.out | exact⟨rfl,RH.out⟩
      ·have hkd':(kd != 1)=true:=by simpa using hkd
       have hs0:=hs0H.out;have hs1:=hs1H.out;have hs2:=hs2H.out;rw[if_neg hkd]at hs0 hs1 hs2;clear hs0H hs1H hs2H hkd;obtain⟨hs0H,hs1H,hs2H⟩:=hq2 hs0 (hq2 hs1 (Lib.hid hs2));clear hs0 hs1 hs2
       go_quiet (fail)
       have hst2:=hst1H.out.below (bel_drewN (Below.refl _ _) nq);have hst2H:=Lib.hid hst2;clear hst2;go_wp2_with (at_mapUpdate;go_loud (refine wpList_tstore rfl (.tmp 56) (.tmp 58) (.const (.bool true)) 74 rfl Tryz.underlying74 injB rfl hst2H.out.m0 (by simp only[maxLen];omega) pa rfl o0H.out true rfl ?_);intro w3 hm3 hg3;have hm3H:=Lib.hid hm3;clear hm3);have R:ChRel l c w.heap.size (w.alloc (.cells #[.map none,.map none,.map none] 76)) (.int .i64 1) w3:=by
        have hm3:=hm3H.out;rw[upd_fL,← hs0H.out]at hm3;refine⟨0+1,_,c1,c2,hkl2H.out,by go_num,?_,?_,Nat.le_trans (ite_le_succ ((fL (oldL (List.take 0 l)) pa).isSome=true) c0) (by omega),by omega,by omega⟩
        ·rw[hpnH.out];exact hckH.out
        ·rw[hs1H.out,hs2H.out];exact hst2H.out.put0 hm3 hg3
       clear hg3 hm3H;have RH:=Lib.hid R;clear R;refine⟨?rel,?measure⟩
       case measure=>(simp[intOf];omega)
       case rel=>first | exact RH.out | exact⟨rfl,RH.out⟩
     ·obtain⟨j,rfl⟩:∃ j,k=j+1:=⟨k-1,by omega⟩;obtain⟨y0,hy0⟩:∃ y,l[j]? = some y:=⟨l[j]'(by have:=hllH.out;omega),List.getElem?_eq_getElem _⟩;obtain⟨d0,_⟩:=cells_TreeChange (hlH.out.below hbwH.out) hy0;have hpr:prevC l (j+1)=some y0.path:=by rw[prevC,if_neg (by omega),show j+1-1=j from rfl,hy0];rfl
      rw[hpr,Option.map_some]at hck;clear hpr;obtain⟨yt,hyt⟩:∃ t,y0.path=t:=⟨_,rfl⟩;rw[hyt]at d0 hck;obtain⟨hy0H,hytH⟩:=hq2 hy0 (Lib.hid hyt);clear hy0 hyt
      cases hle:sle pa yt
      ·have hle':(Op.bytesLess pa.toList yt.toList||pa.toList==yt.toList)=false:=hle;rw[hle,if_neg (by decide)]at hck;obtain⟨hckH,hleH⟩:=hq2 hck (Lib.hid hle);clear hck hle
       by_cases hkd:kd=1
       ·have hkd':(kd != 1)=false:=by simpa using hkd
        have hs0:=hs0H.out;have hs1:=hs1H.out;have hs2:=hs2H.out;rw[if_pos hkd]at hs0 hs1 hs2;clear hs0H hs1H hs2H hkd;obtain⟨hs0H,hs1H,hs2H⟩:=hq2 hs0 (hq2 hs1 (Lib.hid hs2));clear hs0 hs1 hs2
        go_quiet (fail)
        have hst2:=hst1H.out.below (bel_drewN (Below.refl _ _) nq);have hst2H:=Lib.hid hst2;clear hst2;go_wp2_with (at_mapUpdate;go_loud (refine wpList_tstore rfl (.tmp 60) (.tmp 62) (.const (.bool true)) 74 rfl Tryz.underlying74 injB rfl hst2H.out.m1 (by simp only[maxLen];omega) pa rfl o0H.out true rfl ?_);intro w3 hm3 hg3;have q3:=hg3.cell (show (w1.drewN nq).cell? ⟨wa.heap.size,0,none⟩=some (.string pa) from q0) (by simp;omega);have hm3H:=Lib.hid hm3;clear hm3);have hm3:=hm3H.out;rw[upd_fL]at hm3;have hi3:=ite_le_succ ((fL (newL (List.take (j+1) l)) pa).isSome=true) c1;obtain⟨c3,hc3⟩:∃ x,(if (fL (newL (List.take (j+1) l)) pa).isSome=true then c1 else c1+1)=x:=⟨_,rfl⟩;rw[hc3]at hm3 hi3;have hst3:=hst2H.out.put1 hm3 hg3;clear hm3 hm3H hg3 hc3;have hst3H:=Lib.hid hst3;clear hst3;refine(above_any pa _ (by have:=pathB_size hb1H.out;omega)).mono ?_;rintro e w4 ⟨A4,n4,c4,rfl,hs4,hn4,hw4⟩;have hn4:=pathB_size hb1H.out;have hst4:=hst3H.out.below hw4;have hl4:=hs4.1;clear hw4 q3;subst hl4;obtain⟨hst4H,hs4H⟩:=hq2 hst4 (Lib.hid hs4);clear hst4 hs4;go_wp2_with fail
        go_loopw [67] (fun i wr=>OvRel w.heap.size (w.alloc (.cells #[.map none,.map none,.map none] 76)) (oldL (l.take (j+1))) (newL (l.take (j+1)) ++ [pa]) (overL (l.take (j+1))) (aboveL pa) c0 c3 c2 A4 i wr) (fun i _=>(aboveL pa).length-(intOf i).toNat)
        case atStart=>exact⟨0,c2,Nat.zero_le _,rfl,by have:=hst4H.out;simp only[List.take_zero,List.append_nil]at this ⊢;exact this,Nat.le_refl _,hs4H.out⟩
        case round =>
         obtain⟨j2,cc,hj2,rfl,hst5,hcc,hs5⟩:=hrel;obtain⟨wb,rfl⟩:∃ W,W=wr:=⟨_,rfl⟩
         by_cases hlt5:j2<(aboveL pa).length
         ·obtain⟨b5,off5,hA5,_⟩:=hs5.2.1 (by omega);subst hA5;obtain⟨y,hy⟩:∃ y,(aboveL pa)[j2]? = some y:=⟨_,List.getElem?_eq_getElem hlt5⟩;have cy:=cell_Str hs5 hy;have hyz:y.size≤maxLen:=hs5.2.2 y (List.mem_of_getElem? hy);obtain⟨e0,e1,e2⟩:=hst5.cs;have htk5:(aboveL pa).take (j2+1)=(aboveL pa).take j2 ++ [y]:=by rw[List.take_add_one,hy];rfl
          obtain⟨hyH,hyzH,hst5H,hs5H,htk5H⟩:=hqb hy hyz hst5 hs5 (Lib.hid htk5);clear hy hyz hst5 hs5 htk5;go_wp2_with (at_mapUpdate;go_loud (refine wpList_tstore rfl (.tmp 72) (.tmp 73) (.const (.bool true)) 74 rfl Tryz.underlying74 injB rfl hst5H.out.m2 (by simp only[maxLen];omega) y rfl hyzH.out true rfl ?_);intro w6 hm6 hg6;have hm6H:=Lib.hid hm6;clear hm6);have R:OvRel w.heap.size (w.alloc (.cells #[.map none,.map none,.map none] 76)) (oldL (l.take (j+1))) (newL (l.take (j+1)) ++ [pa]) (overL (l.take (j+1))) (aboveL pa) c0 c3 c2 (some ⟨b5,off5,none⟩) (.int .i64 (j2+1)) w6:=by
           have hm6:=hm6H.out;rw[upd_fL,List.append_assoc,← htk5H.out]at hm6;refine⟨j2+1,_,hlt5,by go_num,hst5H.out.put2 hm6 hg6,Nat.le_trans (ite_le_succ _ cc) (by omega),SlAt.mapped hst5H.out.m2 hg6 hs5H.out⟩
          clear hg6 hm6H;have RH:=Lib.hid R;clear R;refine⟨?rel,?measure⟩
          case measure=>(simp[intOf];omega)
          case rel=>first | exact RH.out | exact⟨rfl,RH.out⟩
         ·obtain rfl:j2=(aboveL pa).length:=by omega
          rw[List.take_length]at hst5;have R:ChRel l c w.heap.size (w.alloc (.cells #[.map none,.map none,.map none] 76)) (.int .i64 (j+1+1)) wb:=by
           refine⟨(j+1)+1,c0,c3,cc,hkl2H.out,by go_num,?_,?_,by omega,by omega,by omega⟩
           ·rw[hpnH.out];exact hckH.out
           ·rw[hs0H.out,hs1H.out,hs2H.out];exact hst5
          clear hst5;have RH:=Lib.hid R;clear R;go_wp2;refine⟨?rel,?measure⟩
          case measure=>(simp[intOf];omega)
          case rel=>first | exact RH.out | exact⟨rfl,RH.out⟩
       ·have hkd':(kd != 1)=true:=by simpa using hkd
        have hs0:=hs0H.out;have hs1:=hs1H.out;have hs2:=hs2H.out;rw[if_neg hkd]at hs0 hs1 hs2;clear hs0H hs1H hs2H hkd;obtain⟨hs0H,hs1H,hs2H⟩:=hq2 hs0 (hq2 hs1 (Lib.hid hs2));clear hs0 hs1 hs2
        go_quiet (fail)
        have hst2:=hst1H.out.below (bel_drewN (Below.refl _ _) nq);have hst2H:=Lib.hid hst2;clear hst2;go_wp2_with (at_mapUpdate;go_loud (refine wpList_tstore rfl (.tmp 56) (.tmp 58) (.const (.bool true)) 74 rfl Tryz.underlying74 injB rfl hst2H.out.m0 (by simp only[maxLen];omega) pa rfl o0H.out true rfl ?_);intro w3 hm3 hg3;have hm3H:=Lib.hid hm3;clear hm3);have R:ChRel l c w.heap.size (w.alloc (.cells #[.map none,.map none,.map none] 76)) (.int .i64 (j+1+1)) w3:=by
         have hm3:=hm3H.out;rw[upd_fL,← hs0H.out]at hm3;refine⟨(j+1)+1,_,c1,c2,hkl2H.out,by go_num,?_,?_,Nat.le_trans (ite_le_succ ((fL (oldL (List.take (j+1) l)) pa).isSome=true) c0) (by omega),by omega,by omega⟩
         ·rw[hpnH.out];exact hckH.out
         ·rw[hs1H.out,hs2H.out];exact hst2H.out.put0 hm3 hg3
        clear hg3 hm3H;have RH:=Lib.hid R;clear R;refine⟨?rel,?measure⟩
        case measure=>(simp[intOf];omega)
        case rel=>first | exact RH.out | exact⟨rfl,RH.out⟩
      ·have hle':(Op.bytesLess pa.toList yt.toList||pa.toList==yt.toList)=true:=hle;rw[hle,if_pos rfl]at hck;subst hck;have hleH:=Lib.hid hle;clear hle
       go_quiet (fail)
       have hst2:=hst1H.out.below (bel_drewN (Below.refl _ _) nq);obtain⟨r0,r1,r2,f0,f1,f2⟩:=res3 (wr:=(w1.drewN nq)) (by rw[World.size_alloc];exact hst2.bel);obtain⟨t0,t1,t2⟩:=three_set (.map (some (w.heap.size+1))) (.map (some (w.heap.size+1+1))) (.map (some (w.heap.size+1+2))) r0 r1 r2;obtain⟨e0,e1,e2⟩:=hst2.cs;clear hst2;go_wp2;exact bodyPost_ret (v:=.tuple #[.agg #[.map (some (w.heap.size+1)),.map (some (w.heap.size+1+1)),.map (some (w.heap.size+1+2))],.int .i64 8]) (by simp[results,Tryz.results24,go_sem,t0,t1,t2]) rfl ⟨_,_,_,0,0,0,rfl,fun h=>(by cases h),((((bel_drewN hbwH.out _)).setCell (Nat.le_refl _) _).setCell (Nat.le_refl _) _).setCell (Nat.le_refl _) _⟩
  ·have e:l.drop k = []:=List.drop_eq_nil_of_le (by have:=hllH.out;omega);rw[e]at hck;have hc0:0=c:=by rw[← hck];unfold chErr;rfl
   subst hc0;rw[List.take_of_length_le (by have:=hllH.out;omega)]at hst;obtain⟨r0,r1,r2,f0,f1,f2⟩:=res3 (wr:=wa) (by rw[World.size_alloc];exact hst.bel);obtain⟨t0,t1,t2⟩:=three_set (.map (some (w.heap.size+1))) (.map (some (w.heap.size+1+1))) (.map (some (w.heap.size+1+2))) r0 r1 r2;obtain⟨e0,e1,e2⟩:=hst.cs;have hbig:=hst.big;clear hck;obtain⟨hbH,eH,hstH⟩:=hq2 hb (hq2 e (Lib.hid hst));clear hb e hst;go_wp2;exact bodyPost_ret (v:=.tuple #[.agg #[.map (some (w.heap.size+1)),.map (some (w.heap.size+1+1)),.map (some (w.heap.size+1+2))],.int .i64 0]) (by simp[results,Tryz.results24,go_sem,t0,t1,t2]) rfl ⟨_,_,_,c0,c1,c2,rfl,fun _=>⟨((hstH.out.m0.setCell (by simp) _).setCell (by simp) _).setCell (by simp) _,((hstH.out.m1.setCell (by simp) _).setCell (by simp) _).setCell (by simp) _,((hstH.out.m2.setCell (by simp) _).setCell (by simp) _).setCell (by simp) _⟩,(((hbH.out).setCell (Nat.le_refl _) _).setCell (Nat.le_refl _) _).setCell (Nat.le_refl _) _⟩
theorem chgOf_any (A:Option Addr) (len cap:Nat) (l:List TreeChange) (w:World) (hm:MaxLenAt w) (hl:SlAt RTreeChange w A len l) (c:Int) (hF:chF l=c) :
  Calls Tryz.prog 24 #[.slice A len cap] w (ChgAns l c w):=by
 unfold chF at hF;rw[hl.1]at hF
 by_cases h:len≤1000
 ·rw[if_pos h]at hF;exact chgOf_ok A len cap l w hm h hl c hF
 ·rw[if_neg h]at hF;subst hF;clear hl;have hmk:=@run_makeMap Tryz.prog;have hb:∀ o1 o2 o3 o4 o5,Below w.heap.size w (((((w.alloc o1).alloc o2).alloc o3).alloc o4).alloc o5):=fun o1 o2 o3 o4 o5=>by
   refine(((((Below.refl _ _).alloc (Nat.le_refl _) _).alloc ?_ _).alloc ?_ _).alloc ?_ _).alloc ?_ _ <;> simp <;> omega
  have hbH:=Lib.hid hb;clear hb;go_enter Tryz.func24,Tryz.ntmps24;go_wp2;exact bodyPost_ret (v:=.tuple #[.agg #[.map (some (w.heap.size+1)),.map (some (w.heap.size+1+1)),.map (some (w.heap.size+1+1+1))],.int .i64 2]) (by simp[results,Tryz.results24,go_sem]) rfl ⟨_,_,_,0,0,0,rfl,fun h=>(by cases h),hbH.out _ _ _ _ _⟩
end Go.Proofs.YtdiaabeollcjaaaGreatDoor.C10
namespace Go.Proofs.YtdiaabeollcjaaaGreatDoor.C10
open Go.RowKit
def PredL (g:Nat) (lb:Array Value) (p:ByteArray→Bool) (l:List ByteArray) (w:World):Prop :=
 ∀ (W:World) (x:ByteArray),x∈l→Below w.heap.size w W→Calls Tryz.prog g (#[.string x]++lb) W fun e w'=>e = .returned (.bool (p x))∧Below W.heap.size W w'
def AnyRel (p:ByteArray→Bool) (l:List ByteArray) (b:Bool) (w0:World) (i:Value) (wr:World):Prop:=∃ k:Nat,k≤l.length∧i = .int .i64 k∧(l.drop k).any p=b∧Below w0.heap.size w0 wr
theorem indexFunc_any (g:Nat) (lb:Array Value) (eg:∀ args w,(callFunc g args).run Tryz.prog w = .ok (.enter g args) w) (p:ByteArray→Bool) (A:Option Addr) (n c:Nat) (l:List ByteArray) (w:World)
  (hl:SlAt RStr w A n l) (hn:n≤9223372036854775807) (hp:PredL g lb p l w) (b:Bool) (hb:l.any p=b) :
  Calls Tryz.prog 56 #[.slice A n c,.func (.func g) #[] lb] w fun e w'=>∃ i:Int,e = .returned (.int .i64 i)∧(if b=true then 0≤i else i = -1)∧Below w.heap.size w w':=by
 have hll:=hl.1;obtain⟨hlH,hbH,hpH,hllH⟩:=hq2 hl (hq2 hb (hq2 hp (Lib.hid hll)));clear hl hb hp hll;go_enter Tryz.func56,Tryz.ntmps56;go_wp2
 go_loopw [5,8] (fun s5 i wr=>AnyRel p l b w i wr) (fun _ i _=>n-(intOf i).toNat)
 case atStart=>exact⟨0,Nat.zero_le _,rfl,hbH.out,Below.refl _ _⟩
 case round =>
  obtain⟨k,hk,rfl,hr,hbw⟩:=hrel;have hkl:k≤n:=by have:=hllH.out;omega
  by_cases hlt:k<n
  ·obtain⟨b0,off,hA,_⟩:=hlH.out.2.1 (by omega);subst hA;obtain⟨x,hx⟩:∃ x,l[k]? = some x:=⟨l[k]'(by have:=hllH.out;omega),List.getElem?_eq_getElem _⟩;have c0:=cell_Str (hlH.out.below hbw) hx;have hcall:=hpH.out wr x (List.mem_of_getElem? hx) hbw;rw[drop_cons hx,List.any_cons]at hr;have hkl2:k+1≤l.length:=by have:=hllH.out;omega
   cases hq:p x
   ·rw[hq]at hcall hr;rw[Bool.false_or]at hr;have R:∀ w',Below wr.heap.size wr w'→AnyRel p l b w (.int .i64 (k+1)) w':=fun w' h=>⟨k+1,hkl2,by go_num,hr,hbw.trans (h.mono hbw.size)⟩;clear hr;obtain⟨RH,hxH,hbwH,hqH,hcallH⟩:=hqb R hx hbw hq (Lib.hid hcall);clear R hx hbw hq hcall;go_wp2_with (go_at_fn g;refine hcallH.out.mono ?_;rintro e w' ⟨rfl,hb'⟩;have hb'H:=Lib.hid hb';clear hb');refine⟨?rel,?measure⟩
    case measure=>(simp[intOf];omega)
    case rel=>first | exact(RH.out _ hb'H.out) | exact⟨rfl,(RH.out _ hb'H.out)⟩
   ·rw[hq]at hcall hr;rw[Bool.true_or]at hr;subst hr;obtain⟨hxH,hbwH,hqH,hcallH⟩:=hq2 hx (hq2 hbw (hq2 hq (Lib.hid hcall)));clear hx hbw hq hcall;go_wp2_with (go_at_fn g;refine hcallH.out.mono ?_;rintro e w' ⟨rfl,hb'⟩;have hb'H:=Lib.hid hb';clear hb');go_ret;exact⟨k,rfl,by first | omega | (rw[if_pos rfl];omega),hbwH.out.trans (hb'H.out.mono hbwH.out.size)⟩
  ·have e:l.drop k = []:=List.drop_eq_nil_of_le (by have:=hllH.out;omega);rw[e]at hr;subst hr;obtain⟨hbwH,eH⟩:=hq2 hbw (Lib.hid e);clear hbw e;go_wp2;go_ret;exact⟨-1,rfl,by simp,hbwH.out⟩
theorem containsFunc_any (g:Nat) (lb:Array Value) (eg:∀ args w,(callFunc g args).run Tryz.prog w = .ok (.enter g args) w) (p:ByteArray→Bool) (A:Option Addr) (n c:Nat) (l:List ByteArray) (w:World)
  (hl:SlAt RStr w A n l) (hn:n≤9223372036854775807) (hp:PredL g lb p l w) (b:Bool) (hb:l.any p=b) :
  Calls Tryz.prog 30 #[.slice A n c,.func (.func g) #[] lb] w fun e w'=>e = .returned (.bool b)∧Below w.heap.size w w':=by
 obtain⟨hlH,hbH,hpH⟩:=hq2 hl (hq2 hb (Lib.hid hp));clear hl hb hp;go_enter Tryz.func30,Tryz.ntmps30;go_wp2_with fail;refine(indexFunc_any g lb eg p A n c l _ hlH.out hn hpH.out b hbH.out).mono ?_;rintro e w1 ⟨i,rfl,hi,hw1⟩;have hw1H:=Lib.hid hw1;clear hw1
 cases b
 ·rw[if_neg (by simp)]at hi;subst hi;go_wp2;go_ret;exact⟨rfl,hw1H.out⟩
 ·rw[if_pos rfl]at hi;go_wp2;go_ret;exact⟨rfl,hw1H.out⟩
end Go.Proofs.YtdiaabeollcjaaaGreatDoor.C10
namespace Go.Proofs.YtdiaabeollcjaaaGreatDoor.C10
open Go.RowKit Go.Maps
def farB (N V:List ByteArray) (p:ByteArray):Bool:=inL N p||inL V p||(aboveL p).any (inL N)
def affB (O N V P Q:List ByteArray):Bool:=P.any (inL O)||Q.any (farB N V)
theorem zeroBool (w:World):(zeroValue 4).run Tryz.prog w = .ok (valB false) w:=by kernel_rfl
theorem look_b {w:World} {b c:Nat} {L:List ByteArray} (h:TMap KB valB w b (fL L) c) {x:ByteArray} (hx:x.size≤maxLen) (v:Bool) (hv:inL L x=v) :
  (Instr.lookup 74 (.map (some b)) (.string x) false).run Tryz.prog w = .ok (.bool v) w:=by
 have:=(h.look (t:=74) Tryz.underlying74 (zeroBool w) injB (x:=x) hx).1;rw[fL_get,hv]at this;exact this
theorem old_fn (W:World) (n b c:Nat) (L:List ByteArray) (x:ByteArray) (hc:W.cell? ⟨n,0,none⟩=some (.map (some b))) (hm:TMap KB valB W b (fL L) c) (hx:x.size≤maxLen) (v:Bool) (hv:inL L x=v) :
  Calls Tryz.prog 46 #[.string x,.pointer (some ⟨n,0,none⟩)] W fun e w'=>e = .returned (.bool v)∧Below W.heap.size W w':=by
 have hlk:=look_b hm hx v hv;clear hm hv;go_enter Tryz.func46,Tryz.ntmps46;go_wp2;go_ret;exact⟨rfl,Below.refl _ _⟩
theorem new_fn (W:World) (n b c:Nat) (L:List ByteArray) (x:ByteArray) (hc:W.cell? ⟨n,1,none⟩=some (.map (some b))) (hm:TMap KB valB W b (fL L) c) (hx:x.size≤maxLen) (v:Bool) (hv:inL L x=v) :
  Calls Tryz.prog 48 #[.string x,.pointer (some ⟨n,0,none⟩)] W fun e w'=>e = .returned (.bool v)∧Below W.heap.size W w':=by
 have hlk:=look_b hm hx v hv;clear hm hv;go_enter Tryz.func48,Tryz.ntmps48;go_wp2;go_ret;exact⟨rfl,Below.refl _ _⟩
theorem far_fn (W:World) (n b1 b2 c1 c2:Nat) (N V:List ByteArray) (x:ByteArray) (h1:W.cell? ⟨n,1,none⟩=some (.map (some b1))) (h2:W.cell? ⟨n,2,none⟩=some (.map (some b2))) (hm1:TMap KB valB W b1 (fL N) c1) (hm2:TMap KB valB W b2 (fL V) c2) (hx:x.size≤900000) (v:Bool) (hv:farB N V x=v) :
  Calls Tryz.prog 47 #[.string x,.pointer (some ⟨n,0,none⟩)] W fun e w'=>e = .returned (.bool v)∧Below W.heap.size W w':=by
 have hx2:x.size≤maxLen:=by unfold maxLen;omega
 obtain⟨a,ha⟩:∃ a,inL N x=a:=⟨_,rfl⟩;obtain⟨b,hb⟩:∃ a,inL V x=a:=⟨_,rfl⟩;obtain⟨g,hg⟩:∃ a,(aboveL x).any (inL N)=a:=⟨_,rfl⟩;have hlk1:=look_b hm1 hx2 a ha;have hlk2:=look_b hm2 hx2 b hb;unfold farB at hv;rw[ha,hb,hg]at hv;have h1c:=h1;clear ha hb;obtain⟨hm1H,hm2H,hgH,h1cH⟩:=hq2 hm1 (hq2 hm2 (hq2 hg (Lib.hid h1c)));clear hm1 hm2 hg h1c
 cases a
 ·cases b
  ·obtain rfl:g=v:=hv;go_enter Tryz.func47,Tryz.ntmps47;go_wp2_with fail;refine(above_any x _ hx).mono ?_;rintro e w4 ⟨A4,n4,c4,rfl,hs4,hn4,hw4⟩;obtain⟨hs4H,hw4H⟩:=hq2 hs4 (Lib.hid hw4);clear hs4 hw4;go_wp2_with fail;refine(containsFunc_any 48 #[.pointer (some ⟨n,0,none⟩)] (enters_of Tryz.func48 (by kernel_rfl) rfl) (inL N) A4 n4 c4 (aboveL x) _ hs4H.out (by omega)
    (fun W2 y hy hW=>new_fn W2 n b1 c1 N y ((hW.cell (cell?_lt ((hw4H.out.cell (cell?_lt h1cH.out)).trans h1cH.out))).trans ((hw4H.out.cell (cell?_lt h1cH.out)).trans h1cH.out)) ((hm1H.out.below hw4H.out hm1H.out.lt).below hW (hm1H.out.below hw4H.out hm1H.out.lt).lt) (hs4H.out.2.2 y hy) _ rfl) g hgH.out).mono ?_
   rintro e w5 ⟨rfl,hw5⟩;have hb:=hw4H.out.trans (hw5.mono hw4H.out.size);clear hw5;have hbH:=Lib.hid hb;clear hb;go_wp2;go_ret;exact⟨rfl,hbH.out⟩
  ·obtain rfl:true=v:=by rw[← hv];simp
   go_enter Tryz.func47,Tryz.ntmps47;go_wp2;go_ret;exact⟨rfl,Below.refl _ _⟩
 ·obtain rfl:true=v:=by rw[← hv];simp
  go_enter Tryz.func47,Tryz.ntmps47;go_wp2;go_ret;exact⟨rfl,Below.refl _ _⟩
theorem affects_any (te:ByteArray) (PA:Option Addr) (Pn Pc:Nat) (Pl:List ByteArray) (QA:Option Addr) (Qn Qc:Nat) (Ql:List ByteArray) (b0 b1 b2 c0 c1 c2:Nat) (O N V:List ByteArray) (w:World)
  (hm0:TMap KB valB w b0 (fL O) c0) (hm1:TMap KB valB w b1 (fL N) c1) (hm2:TMap KB valB w b2 (fL V) c2)
  (hP:SlAt RStr w PA Pn Pl) (hQ:SlAt RStr w QA Qn Ql) (hPn:Pn≤1000) (hQn:Qn≤1000) (hQz:∀ s∈Ql,s.size≤900000) (t:Bool) (ht:affB O N V Pl Ql=t) :
  Calls Tryz.prog 25 #[.agg #[.map (some b0),.map (some b1),.map (some b2)],.agg #[.string te,.slice PA Pn Pc,.slice QA Qn Qc]] w fun e w'=>e = .returned (.bool t)∧Below w.heap.size w w':=by
 obtain⟨d1,hd1⟩:∃ b,Pl.any (inL O)=b:=⟨_,rfl⟩;obtain⟨d2,hd2⟩:∃ b,Ql.any (farB N V)=b:=⟨_,rfl⟩;unfold affB at ht;rw[hd1,hd2]at ht;have hl0:=hm0.lt;have hl1:=hm1.lt;have hl2:=hm2.lt;obtain⟨W1,hW1⟩:∃ W,(w.alloc (.cells #[.map (some b0),.map (some b1),.map (some b2)] 76)).alloc (.cells #[.string te,.slice PA Pn Pc,.slice QA Qn Qc] 36)=W:=⟨_,rfl⟩;have hba:Below w.heap.size w W1:=by rw[← hW1];exact((Below.refl w.heap.size w).alloc (Nat.le_refl _) _).alloc (by simp) _
 have e0:W1.cell? ⟨w.heap.size,0,none⟩=some (.map (some b0)):=by rw[← hW1];exact(World.cell?_alloc_lt _ _ _ (by simp)).trans (by simp[go_sem])
 have e1:W1.cell? ⟨w.heap.size,1,none⟩=some (.map (some b1)):=by rw[← hW1];exact(World.cell?_alloc_lt _ _ _ (by simp)).trans (by simp[go_sem])
 have e2:W1.cell? ⟨w.heap.size,2,none⟩=some (.map (some b2)):=by rw[← hW1];exact(World.cell?_alloc_lt _ _ _ (by simp)).trans (by simp[go_sem])
 have r2:∀ w',Below W1.heap.size W1 w'→w'.cell? ⟨w.heap.size+1,2,none⟩=some (.slice QA Qn Qc):=fun w' h=>by
  have h3:W1.cell? ⟨w.heap.size+1,2,none⟩=some (.slice QA Qn Qc):=by
   rw[← hW1];have:=cell_new (w.alloc (.cells #[.map (some b0),.map (some b1),.map (some b2)] 76)) #[.string te,.slice PA Pn Pc,.slice QA Qn Qc] 36 2;rw[World.size_alloc]at this;exact this
  exact(h.cell (cell?_lt h3)).trans h3
 have hmb0:=hm0.below hba hl0;have hmb1:=hm1.below hba hl1;have hmb2:=hm2.below hba hl2;have hPb:=hP.below hba;have hQb:=hQ.below hba;have hPs:=hP.2.2;clear hP hQ hm0 hm1 hm2;obtain⟨hd1H,hd2H,hbaH,hmb0H,hmb1H,hmb2H,hPbH,hQbH,hPsH,e0H,e1H,e2H,hW1H,r2H,hQzH⟩:=hq2 hd1 (hq2 hd2 (hqb hba hmb0 hmb1 hmb2 (hqc hPb hQb hPs e0 e1 e2 hW1 r2 (Lib.hid hQz))));clear hd1 hd2 hba hmb0 hmb1 hmb2 hPb hQb hPs e0 e1 e2 hW1 r2 hQz;go_enter Tryz.func25,Tryz.ntmps25;go_wp2_with fail;rw[hW1H.out];refine(containsFunc_any 46 #[.pointer (some ⟨w.heap.size,0,none⟩)] (enters_of Tryz.func46 (by kernel_rfl) rfl) (inL O) PA Pn Pc Pl _ hPbH.out (by omega)
  (fun W2 y hy hW=>old_fn W2 w.heap.size b0 c0 O y ((hW.cell (cell?_lt e0H.out)).trans e0H.out) (hmb0H.out.below hW hmb0H.out.lt) (hPsH.out y hy) _ rfl) d1 hd1H.out).mono ?_
 rintro e w5 ⟨rfl,hw5⟩;have hb5:=hbaH.out.trans (hw5.mono hbaH.out.size);have q2:=r2H.out _ hw5
 cases d1
 ·obtain rfl:d2=t:=by rw[← ht];simp
  obtain⟨hw5H,hb5H⟩:=hq2 hw5 (Lib.hid hb5);clear hw5 hb5;go_wp2_with fail;refine(containsFunc_any 47 #[.pointer (some ⟨w.heap.size,0,none⟩)] (enters_of Tryz.func47 (by kernel_rfl) rfl) (farB N V) QA Qn Qc Ql _ (hQbH.out.below hw5H.out) (by omega)
   (fun W2 y hy hW=>far_fn W2 w.heap.size b1 b2 c1 c2 N V y
    ((hW.cell (cell?_lt ((hw5H.out.cell (cell?_lt e1H.out)).trans e1H.out))).trans ((hw5H.out.cell (cell?_lt e1H.out)).trans e1H.out))
    ((hW.cell (cell?_lt ((hw5H.out.cell (cell?_lt e2H.out)).trans e2H.out))).trans ((hw5H.out.cell (cell?_lt e2H.out)).trans e2H.out))
    ((hmb1H.out.below hw5H.out hmb1H.out.lt).below hW (hmb1H.out.below hw5H.out hmb1H.out.lt).lt)
    ((hmb2H.out.below hw5H.out hmb2H.out.lt).below hW (hmb2H.out.below hw5H.out hmb2H.out.lt).lt)
    (hQzH.out y hy) _ rfl) d2 hd2H.out).mono ?_
  rintro e w6 ⟨rfl,hw6⟩;have hb6:=hb5H.out.trans (hw6.mono hb5H.out.size);clear hw6;have hb6H:=Lib.hid hb6;clear hb6;go_wp2;go_ret;exact⟨rfl,hb6H.out⟩
 ·obtain rfl:true=t:=by rw[← ht];simp
  clear q2 hw5;have hb5H:=Lib.hid hb5;clear hb5;go_wp2;go_ret;exact⟨rfl,hb5H.out⟩
end Go.Proofs.YtdiaabeollcjaaaGreatDoor.C10