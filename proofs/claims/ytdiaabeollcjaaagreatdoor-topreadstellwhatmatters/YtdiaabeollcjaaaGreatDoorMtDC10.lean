/-
 Several texts of mine as one, without what is not wanted here: XExF, XExJ.
-/
import Derived.Test.YtdiaabeollcjaaaGreatDoorMtAC10
import Derived.Test.YtdiaabeollcjaaaGreatDoorMtGc
set_option linter.unusedVariables false
set_option linter.unusedSimpArgs false
set_option maxRecDepth 100000
set_option maxHeartbeats 8000000
namespace Go.Proofs.YtdiaabeollcjaaaGreatDoor.C10
open Go.ChangeShapes Go.WideShapes Go.Deep Go.RowKit Go.Maps
def FindAns (E:EP) (W0:World) (n T:Nat) (x:Action) (I:Inp) (p:ByteArray) (s:ES) (cl:Nat) (w:World) (e:Ending) (w':World):Prop :=
 ∃ v b cl',e = .returned (.tuple #[valF v,.bool b])∧(((findM E p I s).1=none∧b=false∧v=fv0)∨∃ y,(findM E p I s).1=some y∧b=true∧FileIn (TS n T) w' p v y)∧WA W0 n T x I (findM E p I s).2 cl' w'∧cl'≤cl+1∧Kp (WS n) w w'
theorem find_wr {E:EP} {I:Inp} {p:ByteArray} {s:ES} {y:PF} (h:s.wr p=some y):findM E p I s=(some y,s):=by unfold findM;rw[h]
theorem find_in {E:EP} {I:Inp} {p:ByteArray} {s:ES} (h:s.wr p=none) (h2:(s.lk p).isSome=true):findM E p I s=(I p,s):=by unfold findM;rw[h];dsimp only;rw[if_pos h2]
theorem find_new {E:EP} {I:Inp} {p:ByteArray} {s:ES} (h:s.wr p=none) (h2:(s.lk p).isSome=false):findM E p I s=(I p,{ s with lk:=updE s.lk p (lookP E p (I p)) }):=by
 unfold findM;rw[h];dsimp only;rw[if_neg (by rw[h2];decide)]
theorem lookF {W:World} {b c:Nat} {f:ByteArray→Option FV} (h:TMap KS valF W b f c) {p:ByteArray} (hp:p.size≤maxLen) (v:FV) (t:Bool) (hv:(t=true∧f p=some v)∨(t=false∧f p=none∧v=fv0)) :
  (Instr.lookup 52 (.map (some b)) (.string p) true).run Tryz.prog W = .ok (.tuple #[.agg #[.string v.path,.bool v.run,.slice v.A v.n v.cap],.bool t]) W ∧
  (Instr.lookup 52 (.map (some b)) (.string p) false).run Tryz.prog W = .ok (.agg #[.string v.path,.bool v.run,.slice v.A v.n v.cap]) W:=by
 have hh:=h.look (t:=52) Tryz.underlying52 (zeroF _) injF (x:=p) hp
 rcases hv with ⟨rfl,hv⟩ | ⟨rfl,hv,rfl⟩
 ·rw[hv]at hh;exact⟨hh.2,hh.1⟩
 ·rw[hv]at hh;exact⟨hh.2,hh.1⟩
theorem lookL {W:World} {b c:Nat} {f:ByteArray→Option Lk} (h:TMap KS valL W b f c) {p:ByteArray} (hp:p.size≤maxLen) (v:Lk) (t:Bool) (hv:(t=true∧f p=some v)∨(t=false∧f p=none∧v=lk0)) :
  (Instr.lookup 53 (.map (some b)) (.string p) true).run Tryz.prog W = .ok (.tuple #[.agg #[.string v.path,.string v.digest,.bool v.run],.bool t]) W ∧
  (Instr.lookup 53 (.map (some b)) (.string p) false).run Tryz.prog W = .ok (.agg #[.string v.path,.string v.digest,.bool v.run]) W:=by
 have hh:=h.look (t:=53) Tryz.underlying53 (zeroL _) injL (x:=p) hp
 rcases hv with ⟨rfl,hv⟩ | ⟨rfl,hv,rfl⟩
 ·rw[hv]at hh;exact⟨hh.2,hh.1⟩
 ·rw[hv]at hh;exact⟨hh.2,hh.1⟩
theorem find_any (E:EP) (hd:E.dg=digF) (W0:World) (n T:Nat) (x:Action) (I:Inp) (p:ByteArray) (hp:p.size≤maxLen) (s:ES) (cl:Nat) (hcl:cl≤1000000) (w:World) (hw:WA W0 n T x I s cl w) :
  Calls Tryz.prog 86 #[.pointer (some ⟨n+3,0,none⟩),.string p] w (FindAns E W0 n T x I p s cl w):=by
 obtain⟨Z,hZ⟩:∃ Z,FindAns E W0 n T x I p s cl w=Z:=⟨_,rfl⟩;have hZ':∀ e W,FindAns E W0 n T x I p s cl w e W→Z e W:=fun e W h=>by rw[← hZ];exact h
 rw[hZ];clear hZ;obtain⟨f,cf,hf,hf2⟩:=hw.fi;obtain⟨g,hg,hg2⟩:=hw.fo;have hbl:=hw.lt;have h1:=hw.below ((Below.refl _ _).alloc (Nat.le_refl _) (.cells #[.string ⟨#[]⟩,.bool false,.slice none 0 0] 58));have hg1:=hg.alloc (.cells #[.string ⟨#[]⟩,.bool false,.slice none 0 0] 58);obtain⟨_,_,_,_,q7,_,_,_⟩:=h1.cells;have B2:∀ o1 o2,Below w.heap.size w ((w.alloc o1).alloc o2):=fun o1 o2=>((Below.refl _ _).alloc (Nat.le_refl _) _).alloc (by simp) _
 rcases hg2 p with ⟨hg0,hs0⟩ | ⟨v,y,hgv,hsy,hfy⟩
 ·have hl1:=(lookF hg1 hp fv0 false (.inr ⟨rfl,hg0,rfl⟩)).1;simp only[fv0]at hl1;obtain⟨wB,hwB⟩:∃ Y,(w.alloc (.cells #[.string ⟨#[]⟩,.bool false,.slice none 0 0] 58)).alloc (.cells #[.string ⟨#[]⟩,.bool false,.slice none 0 0] 58)=Y:=⟨_,rfl⟩;have hbB:Below w.heap.size w wB:=by rw[← hwB];exact B2 _ _
  have hsB:wB.heap.size=w.heap.size+2:=by rw[← hwB];simp
  have h2:=hw.below hbB;obtain⟨_,_,_,q6,_,_,_,_⟩:=(hw.below (B2 (.cells #[.string ⟨#[]⟩,.bool false,.slice none 0 0] 58) (.cells #[.string ⟨#[]⟩,.bool false,.slice none 0 0] 58))).cells;obtain⟨v,t,hv,hv2⟩:∃ v t,((t=true∧f p=some v)∨(t=false∧f p=none∧v=fv0))∧((t=false∧I p=none∧v=fv0)∨∃ y,I p=some y∧t=true∧FileIn (TS n T) w p v y):=by
   rcases hf2 p with ⟨a,b⟩ | ⟨v,y,a,b,c⟩
   ·exact⟨fv0,false,.inr ⟨rfl,a,rfl⟩,.inl ⟨rfl,b,rfl⟩⟩
   ·exact⟨v,true,.inl ⟨rfl,a⟩,.inr ⟨y,b,rfl,c⟩⟩
  have hl2:=(lookF (hf.below hbB (by omega)) hp v t hv).1;obtain⟨vp,vr,vA,vn,vc⟩:=v;simp only at hl2;have hbC:Below w.heap.size w (wB.alloc (.cells #[.string vp,.bool vr,.slice vA vn vc] 58)):=hbB.alloc hbB.size _;have h3:=hw.below hbC;obtain⟨_,_,_,_,_,q8,_,_⟩:=h3.cells;obtain⟨lv,lt,hlv,hlt⟩:∃ v t,((t=true∧s.lk p=some v)∨(t=false∧s.lk p=none∧v=lk0))∧(s.lk p).isSome=t:=by
   cases e:s.lk p with
   | none=>exact⟨lk0,false,.inr ⟨rfl,rfl,rfl⟩,rfl⟩
   | some v=>exact⟨v,true,.inl ⟨rfl,rfl⟩,rfl⟩
  have hl3:=(lookL h3.fl hp lv lt hlv).1;obtain⟨la,lb,lc⟩:=lv;simp only at hl3;obtain⟨hZ'H,h1H,h2H,hfH,hf2H,hgH,hg2H,hwH,hg1H,hg0H,hs0H,B2H,hvH,hv2H,hwBH,hbBH,hsBH,hbCH,h3H,hlvH,hltH⟩:=hqb hZ' h1 h2 hf (hqc hf2 hg hg2 hw hg1 hg0 hs0 B2 (hqc hv hv2 hwB hbB hsB hbC h3 hlv (Lib.hid hlt)));clear hZ' h1 h2 hf hf2 hg hg2 hw hg1 hg0 hs0 B2 hv hv2 hwB hbB hsB hbC h3 hlv hlt;go_enter Tryz.func86,Tryz.ntmps86;go_wp2_with fail;rw[hwBH.out]
  cases lt
  ·obtain⟨wD,hwD⟩:∃ Y,((wB.alloc (.cells #[.string vp,.bool vr,.slice vA vn vc] 58)).alloc (.cells #[.string la,.string lb,.bool lc] 38)).alloc (.cells #[.string p,.string ⟨#[]⟩,.bool false] 38)=Y:=⟨_,rfl⟩;have hbD:Below wB.heap.size wB wD:=by rw[← hwD];exact(((Below.refl _ _).alloc (Nat.le_refl _) _).alloc (by simp) _).alloc (by simp <;> omega) _
   have hz:Blk wD w.heap.size [.string ⟨#[]⟩,.bool false,.slice none 0 0]:=by
    have h:Blk (w.alloc (.cells #[.string ⟨#[]⟩,.bool false,.slice none 0 0] 58)) w.heap.size [.string ⟨#[]⟩,.bool false,.slice none 0 0]:=blk_new w [.string ⟨#[]⟩,.bool false,.slice none 0 0] _;have h:=blk_below h (by simp) ((Below.refl _ _).alloc (Nat.le_refl _) (.cells #[.string ⟨#[]⟩,.bool false,.slice none 0 0] 58));rw[hwBH.out]at h;exact blk_below h (by simp) hbD
   have hy:Blk wD wB.heap.size [.string vp,.bool vr,.slice vA vn vc]:=by
    have h:Blk (wB.alloc (.cells #[.string vp,.bool vr,.slice vA vn vc] 58)) wB.heap.size [.string vp,.bool vr,.slice vA vn vc]:=blk_new wB [.string vp,.bool vr,.slice vA vn vc] _;have h:=blk_below (blk_below h (by simp) ((Below.refl _ _).alloc (Nat.le_refl _) (.cells #[.string la,.string lb,.bool lc] 38))) (by simp) ((Below.refl _ _).alloc (Nat.le_refl _) (.cells #[.string p,.string ⟨#[]⟩,.bool false] 38));rw[hwD]at h;exact h
   have hk:Blk wD (wB.heap.size+1+1) [.string p,.string ⟨#[]⟩,.bool false]:=by
    have h:Blk (((wB.alloc (.cells #[.string vp,.bool vr,.slice vA vn vc] 58)).alloc (.cells #[.string la,.string lb,.bool lc] 38)).alloc (.cells #[.string p,.string ⟨#[]⟩,.bool false] 38)) ((wB.alloc (.cells #[.string vp,.bool vr,.slice vA vn vc] 58)).alloc (.cells #[.string la,.string lb,.bool lc] 38)).heap.size [.string p,.string ⟨#[]⟩,.bool false]:=blk_new _ [.string p,.string ⟨#[]⟩,.bool false] _;rw[hwD]at h
    simpa using h
   have y0:=(hy 0 _ rfl).1;have y1:=(hy 1 _ rfl).1;have y2:=(hy 2 _ rfl).1;have k0:=(hk 0 _ rfl).1;have hbDw:=hbBH.out.trans (hbD.mono hbBH.out.size)
   cases t
   ·obtain⟨hi0,hv0⟩:I p=none∧(⟨vp,vr,vA,vn,vc⟩:FV)=fv0:=by
     rcases hv2H.out with ⟨_,b,c⟩ | ⟨y,_,b,_⟩
     ·exact⟨b,c⟩
     ·cases b
    have k1:=(hk 1 _ rfl).1;have k2:=(hk 2 _ rfl).1;obtain⟨hwDH,hbDH,hzH,hyH,hkH,hbDwH,hi0H,hv0H⟩:=hq2 hwD (hq2 hbD (hq2 hz (hqb hy hk hbDw hi0 (Lib.hid hv0))));clear hwD hbD hz hy hk hbDw hi0 hv0;go_wp2_with fail;rw[hwDH.out];have hbX:Below w.heap.size w wD:=hbDwH.out;have hsX:=hbX.size;have hzX:Blk wD w.heap.size [.string ⟨#[]⟩,.bool false,.slice none 0 0]:=hzH.out;obtain⟨_,_,_,_,_,q8,_,_⟩:=(hwH.out.below hbX).cells;have hd:Below wD.heap.size wD wD.drew:=⟨rfl,rfl,rfl,Nat.le_refl _,fun _ _=>rfl⟩;have hmX:=((hwH.out.below hbX).fl).below hd (by have:=hbX.size;omega);obtain⟨w6,hrun,hm6,ht6⟩:=hmX.store (t:=53) Tryz.underlying53 injL (by simp only[maxLen];omega) (x:=p) hp (⟨p,⟨#[]⟩,false⟩:Lk);have hrun:(Instr.mapUpdate 53 (.map (some (n+2))) (.string p) (.agg #[.string p,.string ⟨#[]⟩,.bool false])).run Tryz.prog wD.drew = .ok () w6:=hrun;have hg6:wD.grownBy w6 (some (n+2)):=World.grownBy.trans ⟨hd.os,hd.tape,hd.output,hd.size,fun k hk _=>hd.block k hk⟩ ht6.grown;have hz6:Blk w6 w.heap.size [.string ⟨#[]⟩,.bool false,.slice none 0 0]:=hzX.keep (hg6.block _ (hzX.lt (by simp)) (by simp;omega));obtain⟨c0,f0⟩:=hz6 0 _ rfl;obtain⟨c1,f1⟩:=hz6 1 _ rfl;obtain⟨c2,f2⟩:=hz6 2 _ rfl;have hz2:=((hz6.set (k:=0) (by simp) (.string vp)).set (k:=1) (by simp) (.bool vr)).set (k:=2) (by simp) (.slice vA vn vc);obtain⟨d0,_⟩:=hz2 0 _ rfl;obtain⟨d1,_⟩:=hz2 1 _ rfl;obtain⟨d2,_⟩:=hz2 2 _ rfl;have hsB9:=hsBH.out;have m0:=hg6.cell y0 (by simp <;> omega)
    have m1:=hg6.cell y1 (by simp <;> omega);have m2:=hg6.cell y2 (by simp <;> omega);have hgF:w.grownBy (((w6.setCell ⟨w.heap.size,0,none⟩ (.string vp)).setCell ⟨w.heap.size,1,none⟩ (.bool vr)).setCell ⟨w.heap.size,2,none⟩ (.slice vA vn vc)) (some (n+2)):=by
     have hk:Kp (fun k=>k=n+2) w w6:=(Kp.of_below hbX).old (Kp.of_grown (S:=fun k=>k=n+2) hg6 fun k hk=>by injection hk with hk;exact hk.symm) fun i _ h=>h;have hk:=((hk.setCell (a:=⟨w.heap.size,0,none⟩) (.inl (Nat.le_refl _)) (.string vp)).setCell (a:=⟨w.heap.size,1,none⟩) (.inl (Nat.le_refl _)) (.bool vr)).setCell (a:=⟨w.heap.size,2,none⟩) (.inl (Nat.le_refl _)) (.slice vA vn vc);exact⟨hk.os,hk.tape,hk.output,hk.size,fun k hk' hne=>hk.block k hk' fun e=>hne (by rw[e])⟩
    have hmF:=((hm6.setCell (a:=⟨w.heap.size,0,none⟩) (by simp;omega) (.string vp)).setCell (a:=⟨w.heap.size,1,none⟩) (by simp;omega) (.bool vr)).setCell (a:=⟨w.heap.size,2,none⟩) (by simp;omega) (.slice vA vn vc);have hWF:=hwH.out.look hmF hgF;have hkF:Kp (WS n) w _:=Kp.of_grown hgF fun k hk=>by injection hk with hk;subst hk;exact .inr (.inl rfl)
    have R:=hZ'H.out (.returned (.tuple #[.agg #[.string vp,.bool vr,.slice vA vn vc],.bool false])) _ (by
     have e:=find_new (E:=E) (I:=I) hs0H.out hltH.out;refine⟨⟨vp,vr,vA,vn,vc⟩,false,_,rfl,?_,by rw[e];exact(by have h:=hWF;rw[hi0H.out];exact h),ite_le_succ _ cl,hkF⟩;rw[e]
     rcases hv2H.out with ⟨a,b,c⟩ | ⟨y,a,b,c⟩
     ·exact .inl ⟨b,(by first | rfl | exact a | cases a),c⟩
     ·exact .inr ⟨y,a,(by first | rfl | exact b | cases b),c.kp (hkF.ts T)⟩)
    clear hsX hd ht6 hsB9;obtain⟨hbXH,hzXH,hmXH,hm6H,hg6H,hz6H,hz2H,hgFH,hmFH,hWFH,hkFH,RH⟩:=hq2 hbX (hq2 hzX (hq2 hmX (hqc hm6 hg6 hz6 hz2 hgF hmF hWF hkF (Lib.hid R))));clear hbX hzX hmX hm6 hg6 hz6 hz2 hgF hmF hWF hkF R
    go_region
    go_wp2_with fail;exact bodyPost_ret (v:=.tuple #[.agg #[.string vp,.bool vr,.slice vA vn vc],.bool false]) (by simp[results,Tryz.results86,go_sem,d0,d1,d2]) rfl RH.out
   ·obtain⟨y,hiy,_,hfy⟩:∃ y,I p=some y∧true=true∧FileIn (TS n T) w p ⟨vp,vr,vA,vn,vc⟩ y:=by
     rcases hv2H.out with ⟨a,_,_⟩ | ⟨y,a,_,c⟩
     ·cases a
     ·exact⟨y,a,rfl,c⟩
    have hvr:vr=y.run:=hfy.run;have hn9:vn≤1000000000000:=by
     have h1:=hfy.len;have h2:y.bs.length=vn:=hfy.bts.1.1.1;omega
    have hsl:SlAt RU8 wD vA vn y.bs:=(hfy.bts.1.1).below hbDw;obtain⟨hwDH,hbDH,hzH,hyH,hkH,hbDwH,hiyH,hfyH,hn9H,hslH,hvrH⟩:=hq2 hwD (hq2 hbD (hqc hz hy hk hbDw hiy hfy hn9 hsl (Lib.hid hvr)));clear hwD hbD hz hy hk hbDw hiy hfy hn9 hsl hvr;go_wp2_with fail;rw[hwDH.out];refine startR (R:=Rk (fun _=>True) (fun w'=>w'.cell? ⟨wB.heap.size,1,none⟩=some (.bool vr)∧w'.cell? ⟨wB.heap.size,2,none⟩=some (.slice vA vn vc)) 6 8) (by kernel_rfl) ?_;have hC:wD.drew.cell? ⟨wB.heap.size,1,none⟩=some (.bool vr)∧wD.drew.cell? ⟨wB.heap.size,2,none⟩=some (.slice vA vn vc):=⟨y1,y2⟩;refine takeC (i:=0) (d:=some 47) (v:=?_) rfl rfl (by kernel_rfl) (by kernel_rfl) (by kernel_rfl) (by kernel_rfl) (fun _ _ _ h=>h) (Or.inl ⟨by rfl,?_⟩) hC ?_
    rotate_left
    ·(intro w hSw;(try dsimp only at hSw);go_simp;(try with_reducible rfl))
    (try simp only[Act.put,List.setIfInBounds_toArray,List.set_cons_zero,List.set_cons_succ])
    refine takeC (i:=1) (d:=some 48) (v:=?_) rfl rfl (by kernel_rfl) (by kernel_rfl) (by kernel_rfl) (by kernel_rfl) (fun _ _ _ h=>h) (Or.inl ⟨by rfl,?_⟩) hC ?_
    rotate_left
    ·(intro w hSw;(try dsimp only at hSw);go_simp;(try with_reducible rfl))
    (try simp only[Act.put,List.setIfInBounds_toArray,List.set_cons_zero,List.set_cons_succ])
    refine takeC (i:=3) (d:=some 50) (v:=?_) rfl rfl (by kernel_rfl) (by kernel_rfl) (by kernel_rfl) (by kernel_rfl) (fun _ _ _ h=>h) (Or.inl ⟨by rfl,?_⟩) hC ?_
    rotate_left
    ·(intro w hSw;(try dsimp only at hSw);go_simp;(try with_reducible rfl))
    (try simp only[Act.put,List.setIfInBounds_toArray,List.set_cons_zero,List.set_cons_succ])
    refine takeC (i:=4) (d:=some 51) (v:=?_) rfl rfl (by kernel_rfl) (by kernel_rfl) (by kernel_rfl) (by kernel_rfl) (fun _ _ _ h=>h) (Or.inl ⟨by rfl,?_⟩) hC ?_
    rotate_left
    ·(intro w hSw;(try dsimp only at hSw);go_simp;(try with_reducible rfl))
    (try simp only[Act.put,List.setIfInBounds_toArray,List.set_cons_zero,List.set_cons_succ])
    refine oneR (i:=2) (by kernel_rfl) rfl (fun K hK=>?_);go_simp;go_at_call 19;refine(digest_any vA vn vc y.bs _ (hslH.out.below (Below.refl _ _).drew) hn9H.out).mono ?_;rintro e w7 ⟨rfl,hw7⟩;have hw7:Below wD.heap.size wD w7:=(Below.refl _ _).drew.trans hw7;have hk7:=blk_below hkH.out (by simp) hw7;have hC7:w7.cell? ⟨wB.heap.size,1,none⟩=some (.bool vr)∧w7.cell? ⟨wB.heap.size,2,none⟩=some (.slice vA vn vc):=⟨keepC hw7 y1,keepC hw7 y2⟩;have hk8:=hk7.set (k:=1) (by simp) (.string (digF y.bs));have hk9:=hk8.set (k:=2) (by simp) (.bool vr);obtain⟨k1,g1⟩:=hk7 1 _ rfl;obtain⟨k2,g2⟩:=hk8 2 _ rfl;have hC8:(w7.setCell ⟨wB.heap.size+1+1,1,none⟩ (.string (digF y.bs))).cell? ⟨wB.heap.size,1,none⟩=some (.bool vr)∧(w7.setCell ⟨wB.heap.size+1+1,1,none⟩ (.string (digF y.bs))).cell? ⟨wB.heap.size,2,none⟩=some (.slice vA vn vc) :=
     ⟨(World.cell?_setCell_other _ _ _ _ (by simp <;> omega)).trans hC7.1,(World.cell?_setCell_other _ _ _ _ (by simp <;> omega)).trans hC7.2⟩
    clear hC;obtain⟨dg,hdg⟩:∃ d,digF y.bs=d:=⟨_,rfl⟩;rw[hdg]at hk8 hk9 k2 g2 hC8 ⊢;obtain⟨hw7H,hk7H,hk8H,hk9H,hdgH⟩:=hqb hw7 hk7 hk8 hk9 (Lib.hid hdg);clear hw7 hk7 hk8 hk9 hdg;refine hK.out _ _ ⟨fun _ _ _=>trivial,fun _ _=>hC7⟩ ?_;clear hK K
    (try simp only[Act.put,List.setIfInBounds_toArray,List.set_cons_zero,List.set_cons_succ])
    have hC:=hC7;refine takeC (i:=5) (d:=some 52) (v:=?_) rfl rfl (by kernel_rfl) (by kernel_rfl) (by kernel_rfl) (by kernel_rfl) (fun _ _ _ h=>h) (Or.inl ⟨by rfl,?_⟩) hC ?_
    rotate_left
    ·(intro w hSw;(try dsimp only at hSw);go_simp;(try with_reducible rfl))
    (try simp only[Act.put,List.setIfInBounds_toArray,List.set_cons_zero,List.set_cons_succ])
    refine oneR (i:=6) (by kernel_rfl) rfl (fun K hK=>?_);go_simp;clear hC hC7;refine hK.out _ _ ⟨fun _ _ _=>trivial,fun _ _=>hC8⟩ ?_;clear hK K
    (try simp only[Act.put,List.setIfInBounds_toArray,List.set_cons_zero,List.set_cons_succ])
    have hC:=hC8;refine takeC (i:=7) (d:=some 53) (v:=?_) rfl rfl (by kernel_rfl) (by kernel_rfl) (by kernel_rfl) (by kernel_rfl) (fun _ _ _ h=>h) (Or.inl ⟨by rfl,?_⟩) hC ?_
    rotate_left
    ·(intro w hSw;(try dsimp only at hSw);go_simp;(try with_reducible rfl))
    (try simp only[Act.put,List.setIfInBounds_toArray,List.set_cons_zero,List.set_cons_succ])
    refine oneR (i:=8) (by kernel_rfl) rfl (fun K hK=>?_);go_simp;refine hK.out _ _ ⟨fun _ _ _=>trivial,fun h=>absurd rfl h⟩ ?_;clear hK K
    (try simp only[Act.put,List.setIfInBounds_toArray,List.set_cons_zero,List.set_cons_succ])
    refine doneR (by kernel_rfl) ?_ _;clear hC hC8 k1 g1 k2 g2 k0;obtain⟨X,hX⟩:∃ X,(w7.setCell ⟨wB.heap.size+1+1,1,none⟩ (.string dg)).setCell ⟨wB.heap.size+1+1,2,none⟩ (.bool vr)=X:=⟨_,rfl⟩;rw[hX];have hkX:Blk X (wB.heap.size+1+1) [.string p,.string dg,.bool vr]:=by rw[← hX];exact hk9H.out
    have hbDX:Below (w.heap.size+3) wD X:=by
     rw[← hX];have:=hw7H.out.size;have h9:=hsBH.out;have hlt:=hkH.out.lt (by simp);exact((hw7H.out.mono (by omega)).setCell (by show w.heap.size+3≤wB.heap.size+1+1;omega) _).setCell (by show w.heap.size+3≤wB.heap.size+1+1;omega) _
    have hbwX:Below w.heap.size w X:=hbDwH.out.trans (hbDX.mono (by omega));have hzX:Blk X w.heap.size [.string ⟨#[]⟩,.bool false,.slice none 0 0]:=hzH.out.keep (hbDX.block _ (by omega));have h9:=hsBH.out;have hyX:Blk X wB.heap.size [.string vp,.bool vr,.slice vA vn vc]:=hyH.out.keep (hbDX.block _ (by omega));clear y0 y1 y2;have y0:=(hyX 0 _ rfl).1;have y1:=(hyX 1 _ rfl).1;have y2:=(hyX 2 _ rfl).1;have k0:=(hkX 0 _ rfl).1;have k1:=(hkX 1 _ rfl).1;have k2:=(hkX 2 _ rfl).1;clear h9 hwDH hbDH hzH hyH hkH hw7H hk7H hk8H hk9H hyX;have hlook:lookP E p (I p)=(⟨p,dg,vr⟩:Lk):=by rw[hiyH.out,lookP,hd,hdgH.out,← hvrH.out]
    obtain⟨hXH,hkXH,hbDXH,hbwXH,hzXH,hlookH⟩:=hq2 hX (hqb hkX hbDX hbwX hzX (Lib.hid hlook));clear hX hkX hbDX hbwX hzX hlook;go_wp2_with fail;have hbX:Below w.heap.size w X:=hbwXH.out;have hsX:=hbX.size;have hzX:Blk X w.heap.size [.string ⟨#[]⟩,.bool false,.slice none 0 0]:=hzXH.out;obtain⟨_,_,_,_,_,q8,_,_⟩:=(hwH.out.below hbX).cells;have hd:Below X.heap.size X X.drew:=⟨rfl,rfl,rfl,Nat.le_refl _,fun _ _=>rfl⟩;have hmX:=((hwH.out.below hbX).fl).below hd (by have:=hbX.size;omega);obtain⟨w6,hrun,hm6,ht6⟩:=hmX.store (t:=53) Tryz.underlying53 injL (by simp only[maxLen];omega) (x:=p) hp (⟨p,dg,vr⟩:Lk);have hrun:(Instr.mapUpdate 53 (.map (some (n+2))) (.string p) (.agg #[.string p,.string dg,.bool vr])).run Tryz.prog X.drew = .ok () w6:=hrun;have hg6:X.grownBy w6 (some (n+2)):=World.grownBy.trans ⟨hd.os,hd.tape,hd.output,hd.size,fun k hk _=>hd.block k hk⟩ ht6.grown;have hz6:Blk w6 w.heap.size [.string ⟨#[]⟩,.bool false,.slice none 0 0]:=hzX.keep (hg6.block _ (hzX.lt (by simp)) (by simp;omega));obtain⟨c0,f0⟩:=hz6 0 _ rfl;obtain⟨c1,f1⟩:=hz6 1 _ rfl;obtain⟨c2,f2⟩:=hz6 2 _ rfl;have hz2:=((hz6.set (k:=0) (by simp) (.string vp)).set (k:=1) (by simp) (.bool vr)).set (k:=2) (by simp) (.slice vA vn vc);obtain⟨d0,_⟩:=hz2 0 _ rfl;obtain⟨d1,_⟩:=hz2 1 _ rfl;obtain⟨d2,_⟩:=hz2 2 _ rfl;have hsB9:=hsBH.out;have m0:=hg6.cell y0 (by simp <;> omega);have m1:=hg6.cell y1 (by simp <;> omega);have m2:=hg6.cell y2 (by simp <;> omega);have hgF:w.grownBy (((w6.setCell ⟨w.heap.size,0,none⟩ (.string vp)).setCell ⟨w.heap.size,1,none⟩ (.bool vr)).setCell ⟨w.heap.size,2,none⟩ (.slice vA vn vc)) (some (n+2)):=by
     have hk:Kp (fun k=>k=n+2) w w6:=(Kp.of_below hbX).old (Kp.of_grown (S:=fun k=>k=n+2) hg6 fun k hk=>by injection hk with hk;exact hk.symm) fun i _ h=>h;have hk:=((hk.setCell (a:=⟨w.heap.size,0,none⟩) (.inl (Nat.le_refl _)) (.string vp)).setCell (a:=⟨w.heap.size,1,none⟩) (.inl (Nat.le_refl _)) (.bool vr)).setCell (a:=⟨w.heap.size,2,none⟩) (.inl (Nat.le_refl _)) (.slice vA vn vc);exact⟨hk.os,hk.tape,hk.output,hk.size,fun k hk' hne=>hk.block k hk' fun e=>hne (by rw[e])⟩
    have hmF:=((hm6.setCell (a:=⟨w.heap.size,0,none⟩) (by simp;omega) (.string vp)).setCell (a:=⟨w.heap.size,1,none⟩) (by simp;omega) (.bool vr)).setCell (a:=⟨w.heap.size,2,none⟩) (by simp;omega) (.slice vA vn vc);have hWF:=hwH.out.look hmF hgF;have hkF:Kp (WS n) w _:=Kp.of_grown hgF fun k hk=>by injection hk with hk;subst hk;exact .inr (.inl rfl)
    have R:=hZ'H.out (.returned (.tuple #[.agg #[.string vp,.bool vr,.slice vA vn vc],.bool true])) _ (by
     have e:=find_new (E:=E) (I:=I) hs0H.out hltH.out;refine⟨⟨vp,vr,vA,vn,vc⟩,true,_,rfl,?_,by rw[e];exact(by have h:=hWF;rw[hlookH.out];exact h),ite_le_succ _ cl,hkF⟩;rw[e]
     rcases hv2H.out with ⟨a,b,c⟩ | ⟨y,a,b,c⟩
     ·exact .inl ⟨b,(by first | rfl | exact a | cases a),c⟩
     ·exact .inr ⟨y,a,(by first | rfl | exact b | cases b),c.kp (hkF.ts T)⟩)
    clear hsX hd ht6 hsB9;obtain⟨hbXH,hzXH,hmXH,hm6H,hg6H,hz6H,hz2H,hgFH,hmFH,hWFH,hkFH,RH⟩:=hq2 hbX (hq2 hzX (hq2 hmX (hqc hm6 hg6 hz6 hz2 hgF hmF hWF hkF (Lib.hid R))));clear hbX hzX hmX hm6 hg6 hz6 hz2 hgF hmF hWF hkF R
    go_region
    go_wp2_with fail;exact bodyPost_ret (v:=.tuple #[.agg #[.string vp,.bool vr,.slice vA vn vc],.bool true]) (by simp[results,Tryz.results86,go_sem,d0,d1,d2]) rfl RH.out
  ·obtain⟨wC,hwC⟩:∃ Y,(wB.alloc (.cells #[.string vp,.bool vr,.slice vA vn vc] 58)).alloc (.cells #[.string la,.string lb,.bool lc] 38)=Y:=⟨_,rfl⟩;have hbCC:Below wB.heap.size wB wC:=by rw[← hwC];exact((Below.refl _ _).alloc (Nat.le_refl _) _).alloc (by simp) _
   have hz:Blk wC w.heap.size [.string ⟨#[]⟩,.bool false,.slice none 0 0]:=by
    have h:Blk (w.alloc (.cells #[.string ⟨#[]⟩,.bool false,.slice none 0 0] 58)) w.heap.size [.string ⟨#[]⟩,.bool false,.slice none 0 0]:=blk_new w [.string ⟨#[]⟩,.bool false,.slice none 0 0] _;have h:=blk_below h (by simp) ((Below.refl _ _).alloc (Nat.le_refl _) (.cells #[.string ⟨#[]⟩,.bool false,.slice none 0 0] 58));rw[hwBH.out]at h;exact blk_below h (by simp) hbCC
   obtain⟨c0,f0⟩:=hz 0 _ rfl;obtain⟨c1,f1⟩:=hz 1 _ rfl;obtain⟨c2,f2⟩:=hz 2 _ rfl;have hz2:=((hz.set (k:=0) (by simp) (.string vp)).set (k:=1) (by simp) (.bool vr)).set (k:=2) (by simp) (.slice vA vn vc);obtain⟨d0,_⟩:=hz2 0 _ rfl;obtain⟨d1,_⟩:=hz2 1 _ rfl;obtain⟨d2,_⟩:=hz2 2 _ rfl;have y0:wC.cell? ⟨wB.heap.size,0,none⟩=some (.string vp):=by rw[← hwC];exact(World.cell?_alloc_lt _ _ _ (by simp)).trans (cell_new _ _ _ 0)
   have y1:wC.cell? ⟨wB.heap.size,1,none⟩=some (.bool vr):=by rw[← hwC];exact(World.cell?_alloc_lt _ _ _ (by simp)).trans (cell_new _ _ _ 1)
   have y2:wC.cell? ⟨wB.heap.size,2,none⟩=some (.slice vA vn vc):=by rw[← hwC];exact(World.cell?_alloc_lt _ _ _ (by simp)).trans (cell_new _ _ _ 2)
   have hbF:Below w.heap.size w (((wC.setCell ⟨w.heap.size,0,none⟩ (.string vp)).setCell ⟨w.heap.size,1,none⟩ (.bool vr)).setCell ⟨w.heap.size,2,none⟩ (.slice vA vn vc)) :=
    (((hbBH.out.trans (hbCC.mono hbBH.out.size)).setCell (Nat.le_refl _) _).setCell (Nat.le_refl _) _).setCell (Nat.le_refl _) _
   have R:=hZ'H.out (.returned (.tuple #[.agg #[.string vp,.bool vr,.slice vA vn vc],.bool t])) _ (by
    have e:=find_in (E:=E) (I:=I) hs0H.out hltH.out;refine⟨⟨vp,vr,vA,vn,vc⟩,t,cl,rfl,?_,by rw[e];exact hwH.out.below hbF,by omega,Kp.of_below hbF⟩;rw[e]
    rcases hv2H.out with ⟨a,b,c⟩ | ⟨y,a,b,c⟩
    ·exact .inl ⟨b,a,c⟩
    ·exact .inr ⟨y,a,b,c.kp (Kp.of_below hbF)⟩)
   subst hwC;obtain⟨hbCCH,hzH,hz2H,hbFH,RH⟩:=hqb hbCC hz hz2 hbF (Lib.hid R);clear hbCC hz hz2 hbF R;go_wp2_with fail;exact bodyPost_ret (v:=.tuple #[.agg #[.string vp,.bool vr,.slice vA vn vc],.bool t]) (by simp[results,Tryz.results86,go_sem,d0,d1,d2]) rfl RH.out
 ·have hl1:=(lookF hg1 hp v true (.inl ⟨rfl,hgv⟩)).1;obtain⟨vp,vr,vA,vn,vc⟩:=v;simp only at hl1;have R:∀ o1 o2,Z (.returned (.tuple #[.agg #[.string vp,.bool vr,.slice vA vn vc],.bool true])) ((w.alloc o1).alloc o2):=fun o1 o2=>hZ' _ _ ⟨⟨vp,vr,vA,vn,vc⟩,true,cl,rfl,.inr ⟨y,by rw[find_wr hsy],rfl,hfy.kp (Kp.of_below (B2 o1 o2))⟩,by rw[find_wr hsy];exact hw.below (B2 o1 o2),by omega,Kp.of_below (B2 o1 o2)⟩;obtain⟨hZ'H,h1H,hfH,hf2H,hgH,hg2H,hwH,hgvH,hsyH,hfyH,hg1H,RH,B2H⟩:=hqb hZ' h1 hf hf2 (hqc hg hg2 hw hgv hsy hfy hg1 R (Lib.hid B2));clear hZ' h1 hf hf2 hg hg2 hw hgv hsy hfy hg1 R B2;go_enter Tryz.func86,Tryz.ntmps86;go_wp2_with fail;exact bodyPost_ret (v:=.tuple #[.agg #[.string vp,.bool vr,.slice vA vn vc],.bool true]) (by simp[results,Tryz.results86,go_sem]) rfl (RH.out _ _)
def ReadAns (E:EP) (W0:World) (n T:Nat) (x:Action) (I:Inp) (p:ByteArray) (s:ES) (cl:Nat) (w:World) (e:Ending) (w':World):Prop :=
 ∃ A m c cl',e = .returned (.tuple #[.slice A m c,.int .i64 (readM E p I s).1.2])∧Bts (TS n T) w' A m c (readM E p I s).1.1∧(readM E p I s).1.1.length≤100000∧((readM E p I s).1.2=0∨(readM E p I s).1.2=2) ∧
  WA W0 n T x I (readM E p I s).2 cl' w'∧cl'≤cl+1∧Kp (WS n) w w'
theorem read_any (E:EP) (hd:E.dg=digF) (W0:World) (n T:Nat) (x:Action) (I:Inp) (p:ByteArray) (hp:p.size≤maxLen) (s:ES) (cl:Nat) (hcl:cl≤1000000) (w:World) (hw:WA W0 n T x I s cl w) :
  Calls Tryz.prog 59 #[.pointer (some ⟨n+3,0,none⟩),.string p] w (ReadAns E W0 n T x I p s cl w):=by
 obtain⟨Z,hZ⟩:∃ Z,ReadAns E W0 n T x I p s cl w=Z:=⟨_,rfl⟩;have hZ':∀ e W,ReadAns E W0 n T x I p s cl w e W→Z e W:=fun e W h=>by rw[← hZ];exact h
 rw[hZ];clear hZ;obtain⟨hZ'H,hwH⟩:=hq2 hZ' (Lib.hid hw);clear hZ' hw;go_enter Tryz.func59,Tryz.ntmps59;go_wp2_with fail;refine(find_any E hd W0 n T x I p hp s cl hcl w hwH.out).mono ?_;rintro e w1 ⟨⟨vp,vr,vA,vn,vc⟩,b,cl',rfl,hr,hA,hcl',hk⟩;have hbF:=(Below.refl w1.heap.size w1).alloc (Nat.le_refl _) (.cells #[.string vp,.bool vr,.slice vA vn vc] 58);have hA2:=hA.below hbF;have hk2:=hk.trans (Kp.of_below (S:=WS n) hbF);unfold valF
 rcases hr with ⟨h1,rfl,h3⟩ | ⟨y,h1,rfl,h3⟩
 ·have e1:readM E p I s=(([],2),(findM E p I s).2):=by unfold readM EM.bind;rw[h1];rfl
  have R:=hZ'H.out (.returned (.tuple #[.slice none 0 0,.int .i64 2])) _ ⟨none,0,0,cl',by rw[e1],by rw[e1];exact Bts.nil _ _,by rw[e1];exact Nat.zero_le _,by rw[e1];exact .inr rfl,by rw[e1];exact hA2,hcl',hk2⟩;clear h1 h3 e1;obtain⟨hAH,hkH,hbFH,hA2H,hk2H,RH⟩:=hq2 hA (hqb hk hbF hA2 hk2 (Lib.hid R));clear hA hk hbF hA2 hk2 R;go_wp2_with fail;exact RH.out
 ·have e1:readM E p I s=((y.bs,0),(findM E p I s).2):=by unfold readM EM.bind;rw[h1];rfl
  have R:=hZ'H.out (.returned (.tuple #[.slice vA vn vc,.int .i64 0])) _ ⟨vA,vn,vc,cl',by rw[e1],by rw[e1];exact h3.bts.kp (Kp.of_below hbF),by rw[e1];exact h3.len,by rw[e1];exact .inl rfl,by rw[e1];exact hA2,hcl',hk2⟩;clear h1 h3 e1;obtain⟨hAH,hkH,hbFH,hA2H,hk2H,RH⟩:=hq2 hA (hqb hk hbF hA2 hk2 (Lib.hid R));clear hA hk hbF hA2 hk2 R;go_wp2_with fail;exact RH.out
theorem elem_U8:Elem Tryz.prog 5 RU8.size 1:=elem_of (z:=.int .u8 0) (by kernel_rfl) (by decide)
theorem own_capx {α:Type} {R:Rd α} {e:TypeId} {w:World} {base:Nat} {l:List α} {A:Option Addr} {n cap:Nat} (h:Own R e w base (.slice A n cap) l):(A=none→cap=0)∧cap≤maxLen∧∀ ad,A=some ad→base≤ad.block:=by
 rcases h.1.2 with ⟨hv,_⟩ | ⟨g,cap',cur,hv,hb,_,_,hm,_⟩
 ·injection hv with h1 h2 h3;subst h1;subst h3;exact⟨fun _=>rfl,Nat.zero_le _,fun ad h=>(by cases h)⟩
 ·injection hv with h1 h2 h3;subst h1;subst h3;exact⟨fun h=>(by cases h),hm,fun ad h=>(by injection h with h;subst h;exact hb)⟩
theorem own_bts {e:TypeId} {w:World} {base:Nat} {l:List UInt8} {A:Option Addr} {n cap:Nat} {S:Nat→Prop} (h:Own RU8 e w base (.slice A n cap) l) (hS:∀ k,S k→k<base):Bts S w A n cap l :=
 ⟨⟨h.slAt,h.cap_le,(own_capx h).2.1,(own_capx h).1⟩,fun _ ad hA hs=>by have:=(own_capx h).2.2 ad hA;have:=hS _ hs;omega⟩
theorem WA.strs {W0:World} {n T:Nat} {x:Action} {I:Inp} {s:ES} {cl:Nat} {w:World} (h:WA W0 n T x I s cl w) {A:Option Addr} {m:Nat} {L:List ByteArray} (hL:SlAt RStr W0 A m L):SlAt RStr w A m L:=hL.below h.bel
def BcAns (W0:World) (n T:Nat) (x:Action) (I:Inp) (r:(List UInt8 × Int) × ES) (M D cl:Nat) (w:World) (e:Ending) (w':World):Prop :=
 ∃ A m c cl',e = .returned (.tuple #[.slice A m c,.int .i64 r.1.2])∧Bts (WS n) w' A m c r.1.1∧r.1.1.length≤M∧(0≤r.1.2∧r.1.2≤999999)∧WA W0 n T x I r.2 cl' w'∧cl'≤cl+D∧Kp (WS n) w w'
def JoinRel (E:EP) (W0:World) (n T:Nat) (x:Action) (I:Inp) (L:List ByteArray) (r:(List UInt8 × Int) × ES) (cl:Nat) (w:World) (v i:Value) (wr:World):Prop :=
 ∃ (k:Nat) (out:List UInt8) (s':ES) (cl':Nat) (A:Option Addr) (m c:Nat),k≤L.length∧i = .int .i64 k∧v = .slice A m c∧Own RU8 5 wr w.heap.size v out∧out.length≤100000*k∧joinedM E (L.drop k) out I s'=r ∧
  WA W0 n T x I s' cl' wr∧cl'≤cl+k∧Kp (WS n) w wr
theorem joined_any (E:EP) (hd:E.dg=digF) (W0:World) (n T:Nat) (x:Action) (I:Inp) (AL:Option Addr) (mL cL:Nat) (L:List ByteArray) (hL:SlAt RStr W0 AL mL L) (hmL:mL≤50) (s:ES) (cl:Nat) (hcl:cl≤900000) (w:World) (hw:WA W0 n T x I s cl w) (r:(List UInt8 × Int) × ES) (hr0:joinedM E L [] I s=r) :
  Calls Tryz.prog 89 #[.pointer (some ⟨n+3,0,none⟩),.slice AL mL cL] w (BcAns W0 n T x I r (100000*L.length) L.length cl w):=by
 obtain⟨Z,hZ⟩:∃ Z,BcAns W0 n T x I r (100000*L.length) L.length cl w=Z:=⟨_,rfl⟩;have hZ':∀ e W,BcAns W0 n T x I r (100000*L.length) L.length cl w e W→Z e W:=fun e W h=>by rw[← hZ];exact h
 rw[hZ];clear hZ;have hlL:=hL.1;have hst:JoinRel E W0 n T x I L r cl w (.slice none 0 0) (.int .i64 0) w:=⟨0,[],s,cl,none,0,0,Nat.zero_le _,rfl,rfl,Own.nil _ _,Nat.zero_le _,hr0,hw,by omega,Kp.refl _ _⟩;have hwl:=hw.lt;clear hr0;obtain⟨hZ'H,hwH,hLH,hlLH,hstH⟩:=hqb hZ' hw hL hlL (Lib.hid hst);clear hZ' hw hL hlL hst;go_enter Tryz.func89,Tryz.ntmps89;go_wp2_with fail
 go_loopw [6,13] (fun v i wr=>JoinRel E W0 n T x I L r cl w v i wr) (fun _ i _=>mL-(intOf i).toNat)
 case atStart=>exact hstH.out
 case round =>
  clear hstH;obtain⟨k,out,s',cl',A,m,c,hk,rfl,rfl,hown,hol,heq,hA,hcl',hkp⟩:=hrel;have hkm:k≤mL:=by have:=hlLH.out;omega
  have hksz:=hkp.size
  by_cases hlt:k<mL
  ·obtain⟨y,hy⟩:∃ y,L[k]? = some y:=⟨L[k]'(by have:=hlLH.out;omega),List.getElem?_eq_getElem _⟩;have hsl:=hA.strs hLH.out;obtain⟨bl,ol,hAL,_⟩:=hsl.2.1 (by omega);subst hAL;have cy:=cell_Str hsl hy;have hyz:y.size≤maxLen:=hsl.2.2 y (List.mem_of_getElem? hy);rw[drop_cons hy]at heq;have hkl2:k+1≤L.length:=by have:=hlLH.out;omega
   clear hsl;obtain⟨hyH,hyzH,heqH,hownH,hAH,hkpH,hkl2H⟩:=hq2 hy (hq2 hyz (hqb heq hown hA hkp (Lib.hid hkl2)));clear hy hyz heq hown hA hkp hkl2;go_wp2_with fail;refine(read_any E hd W0 n T x I y hyzH.out s' cl' (by omega) wr hAH.out).mono ?_;rintro e w1 ⟨A1,m1,c1,cl1,rfl,hb1,hlen1,hcode,hA1,hcl1,hk1⟩;have heq:=heqH.out;unfold joinedM EM.bind at heq;obtain⟨q,hr⟩:∃ q,readM E y I s'=q:=⟨_,rfl⟩;rw[hr]at heq hb1 hlen1 hcode hA1 ⊢;obtain⟨⟨b,code⟩,s1⟩:=q;simp only at heq hb1 hlen1 hcode hA1 ⊢;have hkw:=hkpH.out.trans hk1;clear heqH
   rcases hcode with rfl | rfl
   ·rw[if_neg (by decide)]at heq;have hown1:=hk1.own hownH.out (fun b hb=>by
     have h1:=(own_capx hownH.out).2.2
     cases A with
     | none=>cases hb
     | some ad =>
      have h2:=h1 ad rfl;injection hb with hb;intro hs;have:=wS_ge hs
      rcases hs with h | h | h <;> omega) (fun _ h=>h)
    have hl0:=hown1.len;have hm1:b.length=m1:=hb1.1.1.1;obtain⟨heqH,hb1H,hA1H,hkwH,hown1H,hk1H,hrH⟩:=hq2 heq (hq2 hb1 (hqb hA1 hkw hown1 hk1 (Lib.hid hr)));clear heq hb1 hA1 hkw hown1 hk1 hr;go_wp2_with (at_builtin;go_loud (refine wpList_app rfl (.tmp 26) (.tmp 27) 56 rfl Tryz.underlying56 elem_U8 (by decide) rfl hown1H.out A1 m1 c1 b rfl hb1H.out.1.1 ?nn ?ok ?c1 ?c2 ?c3 (m+m1) ?c4 ?_))
    case nn=>exact fun _=>hb1H.out.1.2.2.2
    case ok=>exact fun _ _ _ _ h=>h
    case c1=>unfold maxLen;omega
    case c2=>omega
    case c3=>have:=hk1H.out.size;omega
    case c4=>omega
    intro A' c' w8 hown8 hg8 hat8 hb8;have hk8:Kp (fun k=>w.heap.size≤k) w1 w8:=Kp.of_grown hg8 fun q hq=>by
     cases A with
     | none=>cases hq
     | some ad=>injection hq with hq;subst hq;exact(own_capx hown1H.out).2.2 ad rfl
    have hT8:=hwH.out.top;have R:JoinRel E W0 n T x I L r cl w (.slice A' (m+m1) c') (.int .i64 (k+1)) w8 :=
     ⟨k+1,out++b,s1,cl1,A',m+m1,c',hkl2H.out,by go_num,rfl,hown8,by rw[List.length_append];omega,heqH.out,hA1H.out.far hk8 fun k _ hk=>⟨Nat.le_trans hwl hk,Nat.le_trans hT8 hk⟩,by omega,hkwH.out.old hk8 fun i hi hs=>(by omega)⟩
    clear hg8 hat8 hb8 hown8 hk8;have RH:=Lib.hid R;clear R;go_wp2;refine⟨?rel,?measure⟩
    case measure=>(simp[intOf];omega)
    case rel=>first | exact RH.out | exact⟨rfl,RH.out⟩
   ·rw[if_pos (by decide)]at heq;have R:=hZ'H.out (.returned (.tuple #[.slice none 0 0,.int .i64 2])) w1 (by
     refine⟨none,0,0,cl1,?_,?_,?_,?_,?_,by have:=hlLH.out;omega,hkw⟩
     ·rw[← heq];rfl
     ·rw[← heq];exact Bts.nil _ _
     ·rw[← heq];exact Nat.zero_le _
     ·rw[← heq];show (0:Int)≤2∧(2:Int)≤999999;omega
     ·rw[← heq];exact hA1)
    clear heq hb1;obtain⟨hA1H,hkwH,hk1H,hrH,RH⟩:=hqb hA1 hkw hk1 hr (Lib.hid R);clear hA1 hkw hk1 hr R;go_wp2_with fail;exact RH.out
  ·obtain rfl:k=mL:=by omega
   have e:L.drop k = []:=List.drop_eq_nil_of_le (by have:=hlLH.out;omega);rw[e]at heq;unfold joinedM EM.pure at heq;have R:=hZ'H.out (.returned (.tuple #[.slice A m c,.int .i64 0])) wr (by
    refine⟨A,m,c,cl',?_,?_,?_,?_,?_,by have:=hlLH.out;omega,hkp⟩
    ·rw[← heq]
    ·rw[← heq];exact own_bts hown fun q hq=>by have:=hwl;rcases hq with h | h | h <;> omega
    ·rw[← heq];have:=hlLH.out;show out.length≤_;omega
    ·rw[← heq];show (0:Int)≤0∧(0:Int)≤999999;omega
    ·rw[← heq];exact hA)
   clear heq e;obtain⟨hownH,hAH,hkpH,RH⟩:=hq2 hown (hq2 hA (hq2 hkp (Lib.hid R)));clear hown hA hkp R;go_wp2_with fail;exact RH.out
def PickRel (E:EP) (W0:World) (n T:Nat) (x:Action) (I:Inp) (L:List ByteArray) (r:(List UInt8 × Int) × ES) (cl:Nat) (w:World) (i:Value) (wr:World):Prop :=
 ∃ (k:Nat) (s':ES) (cl':Nat),k≤L.length∧i = .int .i64 k∧pickM E (L.drop k) I s'=r∧WA W0 n T x I s' cl' wr∧cl'≤cl+k∧Kp (WS n) w wr
theorem pick_any (E:EP) (hd:E.dg=digF) (W0:World) (n T:Nat) (x:Action) (I:Inp) (AL:Option Addr) (mL cL:Nat) (L:List ByteArray) (hL:SlAt RStr W0 AL mL L) (hmL:mL≤50) (s:ES) (cl:Nat) (hcl:cl≤900000) (w:World) (hw:WA W0 n T x I s cl w) (r:(List UInt8 × Int) × ES) (hr0:pickM E L I s=r) :
  Calls Tryz.prog 91 #[.pointer (some ⟨n+3,0,none⟩),.slice AL mL cL] w (BcAns W0 n T x I r 100000 L.length cl w):=by
 obtain⟨Z,hZ⟩:∃ Z,BcAns W0 n T x I r 100000 L.length cl w=Z:=⟨_,rfl⟩;have hZ':∀ e W,BcAns W0 n T x I r 100000 L.length cl w e W→Z e W:=fun e W h=>by rw[← hZ];exact h
 rw[hZ];clear hZ;have hlL:=hL.1;have hst:PickRel E W0 n T x I L r cl w (.int .i64 0) w:=⟨0,s,cl,Nat.zero_le _,rfl,hr0,hw,by omega,Kp.refl _ _⟩;clear hr0;obtain⟨hZ'H,hwH,hLH,hlLH,hstH⟩:=hqb hZ' hw hL hlL (Lib.hid hst);clear hZ' hw hL hlL hst;go_enter Tryz.func91,Tryz.ntmps91;go_wp2_with fail
 go_loopw [12] (fun i wr=>PickRel E W0 n T x I L r cl w i wr) (fun i _=>mL-(intOf i).toNat)
 case atStart=>exact hstH.out
 case round =>
  clear hstH;obtain⟨k,s',cl',hk,rfl,heq,hA,hcl',hkp⟩:=hrel;have hkm:k≤mL:=by have:=hlLH.out;omega
  by_cases hlt:k<mL
  ·obtain⟨y,hy⟩:∃ y,L[k]? = some y:=⟨L[k]'(by have:=hlLH.out;omega),List.getElem?_eq_getElem _⟩;have hsl:=hA.strs hLH.out;obtain⟨bl,ol,hAL,_⟩:=hsl.2.1 (by omega);subst hAL;have cy:=cell_Str hsl hy;have hyz:y.size≤maxLen:=hsl.2.2 y (List.mem_of_getElem? hy);rw[drop_cons hy]at heq;have hkl2:k+1≤L.length:=by have:=hlLH.out;omega
   clear hsl;obtain⟨hyH,hyzH,heqH,hAH,hkpH,hkl2H⟩:=hq2 hy (hqb hyz heq hA hkp (Lib.hid hkl2));clear hy hyz heq hA hkp hkl2;go_wp2_with fail;refine(find_any E hd W0 n T x I y hyzH.out s' cl' (by omega) wr hAH.out).mono ?_;rintro e w1 ⟨⟨vp,vr,vA,vn,vc⟩,t,cl1,rfl,hr1,hA1,hcl1,hk1⟩;have heq:=heqH.out;unfold pickM EM.bind at heq;have hbF:=(Below.refl w1.heap.size w1).alloc (Nat.le_refl _) (.cells #[.string vp,.bool vr,.slice vA vn vc] 58);have hA2:=hA1.below hbF;have hkw:=(hkpH.out.trans hk1).trans (Kp.of_below (S:=WS n) hbF);unfold valF;clear heqH
   rcases hr1 with ⟨h1,rfl,h3⟩ | ⟨z,h1,rfl,h3⟩
   ·rw[h1]at heq;have R:PickRel E W0 n T x I L r cl w (.int .i64 (k+1)) (w1.alloc (.cells #[.string vp,.bool vr,.slice vA vn vc] 58)) :=
     ⟨k+1,_,cl1,hkl2H.out,by go_num,heq,hA2,by omega,hkw⟩
    clear h1 h3 heq;obtain⟨hA1H,hk1H,hbFH,hA2H,hkwH,RH⟩:=hq2 hA1 (hqb hk1 hbF hA2 hkw (Lib.hid R));clear hA1 hk1 hbF hA2 hkw R;go_wp2;refine⟨?rel,?measure⟩
    case measure=>(simp[intOf];omega)
    case rel=>first | exact RH.out | exact⟨rfl,RH.out⟩
   ·rw[h1]at heq;have R:=hZ'H.out (.returned (.tuple #[.slice vA vn vc,.int .i64 0])) _ (by
     refine⟨vA,vn,vc,cl1,?_,?_,?_,?_,?_,by have:=hlLH.out;omega,hkw⟩
     ·rw[← heq];rfl
     ·rw[← heq];exact(h3.bts.kp (Kp.of_below hbF)).ws
     ·rw[← heq];exact h3.len
     ·rw[← heq];show (0:Int)≤0∧(0:Int)≤999999;omega
     ·rw[← heq];exact hA2)
    clear h1 h3 heq;obtain⟨hA1H,hk1H,hbFH,hA2H,hkwH,RH⟩:=hq2 hA1 (hqb hk1 hbF hA2 hkw (Lib.hid R));clear hA1 hk1 hbF hA2 hkw R;go_wp2_with fail;exact RH.out
  ·obtain rfl:k=mL:=by omega
   have e:L.drop k = []:=List.drop_eq_nil_of_le (by have:=hlLH.out;omega);rw[e]at heq;unfold pickM EM.pure at heq;have R:=hZ'H.out (.returned (.tuple #[.slice none 0 0,.int .i64 2])) wr (by
    refine⟨none,0,0,cl',?_,?_,?_,?_,?_,by have:=hlLH.out;omega,hkp⟩
    ·rw[← heq]
    ·rw[← heq];exact Bts.nil _ _
    ·rw[← heq];exact Nat.zero_le _
    ·rw[← heq];show (0:Int)≤2∧(2:Int)≤999999;omega
    ·rw[← heq];exact hA)
   clear heq e;obtain⟨hAH,hkpH,RH⟩:=hq2 hA (hq2 hkp (Lib.hid R));clear hA hkp R;go_wp2_with fail;exact RH.out
end Go.Proofs.YtdiaabeollcjaaaGreatDoor.C10