/-
 Several texts of mine as one, without what is not wanted here: XTtW, XTtOpen, XTtRow.
-/
import Derived.Test.YtpdjjjiknijpkaaGreatDoorTvYC10
import Derived.Test.YtpdjjjiknijpkaaGreatDoorCards
import Derived.Test.YtpdjjjiknijpkaaGreatDoorTie
import Derived.OpenShut
import Derived.ShutString
import Derived.ChangeOld
import Derived.Deep.DeepHandedRow
import Derived.Lib.LaidTab
import Derived.Lib.LaidU8
import Derived.JoinedCond
import Derived.Deep.CondSized
set_option linter.unusedVariables false
set_option linter.unusedSimpArgs false
set_option maxRecDepth 100000
set_option maxHeartbeats 8000000
namespace Go.Proofs.YtpdjjjiknijpkaaGreatDoor.C10
open Go.ChangeShapes Go.WideShapes Go.Deep Go.RowKit Go.Lib
theorem law_trees (files:SlD File) (most:Int) (br:SlD Int) (w:World) (hf:(RSl RFile).ok w files) (hi:RInt.ok w most) (hbr:(RSl RInt).ok w br) (hmx:MaxLenAt w) :
  Calls Tryz.prog 3 #[.slice files.A files.n files.cap,.int .i64 most,.slice br.A br.n br.cap] w (LwAns w):=by
 obtain⟨Z,hZ⟩:∃ Z,LwAns w=Z:=⟨_,rfl⟩;have hZ':∀ e W,LwAns w e W→Z e W:=fun e W h=>by rw[← hZ];exact h
 rw[hZ];clear hZ;obtain⟨fA,fn,fc,fl⟩:=files;obtain⟨bA,bn,bc,bl⟩:=br;simp only at hf hbr ⊢;have htr:=treeOf_any fA fn fc fl w hmx hf;obtain⟨hZ'H,hfH,hbrH,hmxH,htrH,hiH⟩:=hq2 hZ' (hqb hf hbr hmx htr (Lib.hid hi));clear hZ' hf hbr hmx htr hi;go_enter Tryz.func3,Tryz.ntmps3;go_wp2_with fail;refine htrH.out.mono ?_;rintro e w1 ⟨hb1,⟨kf,hkf,rfl⟩ | ⟨hX,OA,On,Oc,O,hOn,rfl,hO,hob⟩⟩
 ·have e1:(kf==0)=false:=by simp[hkf]
  have hal:=alive_any w1;obtain⟨hb1H,halH⟩:=hq2 hb1 (Lib.hid hal);clear hb1 hal;go_wp2_with fail;refine halH.out.mono ?_;rintro e w2 ⟨rfl,hb2⟩;have R:=hZ'H.out (.returned (.bool true)) w2 ⟨rfl,hb1H.out.trans (hb2.mono hb1H.out.size)⟩;obtain⟨hb2H,RH⟩:=hq2 hb2 (Lib.hid R);clear hb2 R;go_wp2_with fail;exact RH.out
 have hft:=faithfulTree_any fA fn fc fl w1 (hmxH.out.below hb1) ((RSl RFile).mono _ _ _ hb1 hfH.out) hX;obtain⟨rt,hrt⟩:∃ r,tRoot fl=r:=⟨_,rfl⟩;rw[hrt];have hOl:O.length=On:=hO.1;obtain⟨hb1H,hXH,hOH,hobH,hftH,hrtH,hOlH⟩:=hq2 hb1 (hq2 hX (hqb hO hob hft hrt (Lib.hid hOl)));clear hb1 hX hO hob hft hrt hOl;go_wp2_with fail;refine hftH.out.mono ?_;rintro e w2 ⟨bf,rfl,hb2,hfa⟩;have hb02:Below w.heap.size w w2:=hb1H.out.trans (hb2.mono hb1H.out.size)
 cases bf
 ·have hal:=alive_any w2;clear hfa;obtain⟨hb2H,hb02H,halH⟩:=hq2 hb2 (hq2 hb02 (Lib.hid hal));clear hb2 hb02 hal;go_wp2_with fail;refine halH.out.mono ?_;rintro e w3 ⟨rfl,hb3⟩;have R:=hZ'H.out (.returned (.bool true)) w3 ⟨rfl,hb02H.out.trans (hb3.mono hb02H.out.size)⟩;obtain⟨hb3H,RH⟩:=hq2 hb3 (Lib.hid R);clear hb3 R;go_wp2_with fail;exact RH.out
 have hF:Faith (Cs 200 (fl.map tfOf)):=hfa rfl;obtain⟨W3,hW3⟩:∃ W,w2.alloc (.cells #[.slice none 0 0,.slice none 0 0] 32)=W:=⟨_,rfl⟩;have hb23:Below w2.heap.size w2 W3:=by rw[← hW3];exact(Below.refl _ _).alloc (Nat.le_refl _) _
 have hgt:Got (fl.map tfOf) w2.heap.size w2 none none 0 0 [] W3:=by
  refine⟨⟨?_,?_⟩,⟨⟨rfl,fun h=>absurd h (Nat.lt_irrefl _),fun x hx=>by cases hx⟩,.nil,by decide,(fun x hx=>by cases hx),(fun x hx=>by cases hx)⟩,(fun x hx=>by cases hx),fun _=>rfl,fun _=>rfl,hb23⟩
  ·rw[← hW3];exact blk_new w2 _ _
  ·rw[← hW3];exact heap_alloc_new w2 _
 obtain⟨rb,hrb⟩:∃ r,w2.heap.size=r:=⟨_,rfl⟩;rw[hrb]at hgt;have hO2:=hOH.out.below hb2;have hst0:∀ v,LtRel (fl.map tfOf) rb w2 v W3:=fun v=>⟨none,none,0,0,[],hgt⟩;clear hfa hgt;obtain⟨hb2H,hb02H,hFH,hb23H,hO2H,hst0H⟩:=hq2 hb2 (hqb hb02 hF hb23 hO2 (Lib.hid hst0));clear hb2 hb02 hF hb23 hO2 hst0;go_wp2_with fail
 try rw[hW3]
 clear hW3
 go_loopw [12] (fun v wr=>LtRel (fl.map tfOf) rb w2 v wr) (fun _ wr=>4001-lenAt rb wr)
 case atStart=>exact hst0H.out _
 case round =>
  clear hst0H hb23H;obtain⟨AD,AP,cD,cP,D,hG⟩:=hrel;obtain⟨r0,-⟩:=hG.rcv.1 0 _ rfl;have hb0:Below w.heap.size w wr:=hb02H.out.trans (hG.bel.mono hb02H.out.size);have hms:=missing_any (fl.map tfOf) (treeOk hXH.out) hFH.out AD D.length cD D wr (hmxH.out.below hb0) hG.st hG.good;rw[show digF (TD 200 (fl.map tfOf))=rt from hrtH.out]at hms;obtain⟨hGH,hb0H,hmsH⟩:=hq2 hG (hq2 hb0 (Lib.hid hms));clear hG hb0 hms;go_wp2_with fail;refine hmsH.out.mono ?_;rintro e w4 ⟨hb4,AG,cG,G,rfl,hsG,hGm,hGc,hGn,hnd⟩;have hb04:=hb0H.out.trans (hb4.mono hb0H.out.size);have hG4:=hGH.out.below hb4;clear r0;obtain⟨r0,-⟩:=hG4.rcv.1 0 _ rfl
  by_cases hg0:G.length=0
  ·have hco:=hGc (List.eq_nil_of_length_eq_zero hg0);have hfo:=filesOf_any fl hXH.out hFH.out D hG4.good hco AD D.length cD w4 (hmxH.out.below hb04) hG4.st;rw[show digF (TD 200 (fl.map tfOf))=rt from hrtH.out]at hfo;have e1:((G.length:Int)==0)=true:=by rw[hg0];rfl
   have e2:(G.length:Int)=0:=by rw[hg0];rfl
   clear hGm hGc hco hnd;obtain⟨hb4H,hsGH,hb04H,hG4H,hfoH⟩:=hqb hb4 hsG hb04 hG4 (Lib.hid hfo);clear hb4 hsG hb04 hG4 hfo;go_wp2_with fail;refine hfoH.out.mono ?_;rintro e w5 ⟨hb5,FA,Fc,F,rfl,hsF,hFl⟩;have hb05:=hb04H.out.trans (hb5.mono hb04H.out.size);have hfln:fl.length=fn:=hfH.out.1.1;have hFn:F.length=fn:=by rw[← hfln];exact tfOf_len hFl
   rw[hFn]at hsF ⊢;have hsa:=sameFiles12_any fA FA fn fc Fc fl F w5 (hfH.out.1.below hb05) hsF (by rw[← hfln];exact hXH.out.len) hFl (fun x hx=>by
    obtain⟨j,hj,rfl⟩:=List.getElem_of_mem hx;have:=(hXH.out.row j _ (List.getElem?_eq_getElem hj)).2;omega)
   obtain⟨hb5H,hsFH,hFlH,hb05H,hsaH⟩:=hqb hb5 hsF hFl hb05 (Lib.hid hsa);clear hb5 hsF hFl hb05 hsa;go_wp2_with fail;refine hsaH.out.mono ?_;rintro e w6 ⟨rfl,hb6⟩;have hb06:=hb05H.out.trans (hb6.mono hb05H.out.size);have hal:=alive_any w6;obtain⟨hb6H,hb06H,halH⟩:=hq2 hb6 (hq2 hb06 (Lib.hid hal));clear hb6 hb06 hal;go_wp2_with fail;refine halH.out.mono ?_;rintro e w7 ⟨rfl,hb7⟩;have R:=hZ'H.out (.returned (.bool true)) w7 ⟨rfl,hb06H.out.trans (hb7.mono hb06H.out.size)⟩;obtain⟨hb7H,RH⟩:=hq2 hb7 (Lib.hid R);clear hb7 R;go_wp2_with fail;exact RH.out
  ·have e1:((G.length:Int)==0)=false:=beq_eq_false_iff_ne.2 (by omega);obtain⟨bg,og,hAG,hgc⟩:=hsG.2.1 (by omega);subst hAG;clear hgc;have hmu0:lenAt rb wr=D.length:=lenAt_of hGH.out.rcv;have hst1:InRel (fl.map tfOf) rb w2 (some ⟨bg,og,none⟩) G D.length (.int .i64 0) w4:=⟨0,AD,AP,cD,cP,D,Nat.zero_le _,rfl,hG4,hsG,rfl,fun j d _ hj=>(hGm d (List.mem_of_getElem? hj)).1⟩;clear hGc r0;obtain⟨hb4H,hsGH,hb04H,hG4H,hGmH,hndH,hst1H,hmu0H⟩:=hq2 hb4 (hq2 hsG (hq2 hb04 (hqb hG4 hGm hnd hst1 (Lib.hid hmu0))));clear hb4 hsG hb04 hG4 hGm hnd hst1 hmu0;go_wp2_with fail;obtain⟨wo,hwo⟩:∃ wo:World,wo=wr:=⟨_,rfl⟩
   go_loopw [54] (fun i wr=>InRel (fl.map tfOf) rb w2 (some ⟨bg,og,none⟩) G D.length i wr) (fun i _=>G.length-(intOf i).toNat)
   case atStart=>exact hst1H.out
   case round =>
    clear hst1H;obtain⟨k,AD1,AP1,cD1,cP1,D1,hk,rfl,hG1,hsG1,hDn,hno⟩:=hrel
    by_cases hlt:k<G.length
    ·obtain⟨d,hd⟩:∃ d,G[k]? = some d:=⟨_,List.getElem?_eq_getElem hlt⟩;obtain⟨b',off',hA',hcs⟩:=hsG1.2.1 (by omega);obtain⟨rfl,rfl⟩:bg=b'∧og=off':=by simpa using hA'
     have c0:=hcs k d hd 0 _ rfl;have c0:wr.cell? ⟨bg,og+k,none⟩=some (.string d):=by simpa[RStr]using c0
     clear hcs hA';obtain⟨-,bt,hbt,hdb⟩:=hGmH.out d (List.mem_of_getElem? hd);obtain⟨o1,ho1,ho2⟩:=hobH.out.has hFH.out hbt;rw[← hdb]at ho2;have hnd1:¬ InS D1 d:=hno k d (Nat.le_refl _) hd;have hroom:=room hobH.out hFH.out hG1.good hG1.st.ord hnd1 hbt hdb;have hOr:=hO2H.out.below hG1.bel;have hoo:=objectOf_any OA On Oc O d wr hOr (by omega) ⟨o1,ho1,ho2⟩;have hOn0:0<On:=by have:=List.length_pos_of_mem ho1;have:=hOlH.out;omega
     obtain⟨bo,oo,hOA,_⟩:=hOr.2.1 hOn0;subst hOA;have hk0:(0:Int)≤(k:Int):=by omega
     have hdB:digB d=true:=by rw[hdb];exact digB_digT _
     clear ho1 ho2;obtain⟨hG1H,hsG1H,hnoH,hdH,hbtH,hdbH,hnd1H,hroomH,hOrH,hooH,hdBH,hDnH⟩:=hq2 hG1 (hq2 hsG1 (hq2 hno (hqc hd hbt hdb hnd1 hroom hOr hoo hdB (Lib.hid hDn))));clear hG1 hsG1 hno hd hbt hdb hnd1 hroom hOr hoo hdB hDn;go_wp2_with fail;refine hooH.out.mono ?_;rintro e w5 ⟨hb5,q,x,rfl,hx,hxd⟩;have hqO:q<On:=by have:=(List.getElem?_eq_some_iff.1 hx).1;have:=hOlH.out;omega
     have hq0:¬ (q:Int)<0:=by omega
     have hq1:(0:Int)≤(q:Int):=by omega
     have hG5:=hG1H.out.below hb5;have hsG5:=hsG1H.out.below hb5;have hOr5:=hOrH.out.below hb5;obtain⟨-,x1⟩:=cells_ObT (ob_v hOr5) hx;have hxok:=hOr5.2.2 x (List.mem_of_getElem? hx);have hxg:=hobH.out.good (List.mem_of_getElem? hx);obtain⟨xd,⟨xA,xn,xc,xl⟩⟩:=x;simp only at hxd x1 hxok hxg;subst hxd;have hxok:(RSl RU8).ok w5 ⟨xA,xn,xc,xl⟩:=hxok;obtain⟨r0,-⟩:=hG5.rcv.1 0 _ rfl;obtain⟨r1,-⟩:=hG5.rcv.1 1 _ rfl;have hbd5:Below w5.heap.size w5 w5.drew:=(Below.refl _ _).drew;have hb05:Below w.heap.size w w5:=hb02H.out.trans (hG5.bel.mono hb02H.out.size);have hbr5:=((RSl RInt).mono _ _ _ (hb05.trans (hbd5.mono hb05.size)) hbrH.out);have hdv:=deliver_any AD1 AP1 xA bA cD1 cP1 xn xc bn bc D1 xd hdBH.out xl hxok.1.1 hxg.2.symm most bl (by have:=hroomH.out;have:=hOlH.out;omega) (fun y hy e=>hnd1H.out ⟨y,hy,e⟩) w5.drew (hG5.st.below hbd5) hG5.c1 hG5.c2 ((RSl RU8).mono _ _ _ hbd5 hxok) hbr5.1 hbr5.2.2.2;clear c0;obtain⟨hb5H,hG5H,hsG5H,hOr5H,hxH,hxokH,hxgH,hbd5H,hb05H,hbr5H,hdvH⟩:=hq2 hb5 (hq2 hG5 (hqc hsG5 hOr5 hx hxok hxg hbd5 hb05 hbr5 (Lib.hid hdv)));clear hb5 hG5 hsG5 hOr5 hx hxok hxg hbd5 hb05 hbr5 hdv;go_wp2_with fail;refine startR (R:=Rk (fun V=>V.cell? ⟨rb,0,none⟩=some (.slice AD1 D1.length cD1)∧V.cell? ⟨rb,1,none⟩=some (.slice AP1 0 cP1)∧V.cell? ⟨bo,oo+q*2+1,none⟩=some (.slice xA xn xc)) (fun V=>True) 15 99) (by kernel_rfl) ?_;have hF:w5.drew.cell? ⟨rb,0,none⟩=some (.slice AD1 D1.length cD1)∧w5.drew.cell? ⟨rb,1,none⟩=some (.slice AP1 0 cP1)∧w5.drew.cell? ⟨bo,oo+q*2+1,none⟩=some (.slice xA xn xc):=⟨r0,r1,x1⟩
     have hC:True:=trivial;refine tfS [(0,64)] ?_;(iterate 1 (refine tfL (v:=?_) (hy:=Or.inl ⟨by rfl,?_⟩) (hS:=hF) (h:=?_);rotate_left;(· (intro w hSw;(try dsimp only at hSw);go_simp;(try with_reducible rfl)));(try simp only[Act.put,List.setIfInBounds_toArray,List.set_cons_zero,List.set_cons_succ])));refine tfE ?_;refine takeC (i:=1) (d:=some 65) (v:=?_) rfl rfl (by kernel_rfl) (by kernel_rfl) (by kernel_rfl) (by kernel_rfl) (fun _ _ _ h=>h) (Or.inl ⟨by rfl,?_⟩) hC ?_
     rotate_left
     ·(intro w hSw;(try dsimp only at hSw);go_simp;(try with_reducible rfl))
     (try simp only[Act.put,List.setIfInBounds_toArray,List.set_cons_zero,List.set_cons_succ])
     refine takeC (i:=2) (d:=some 66) (v:=?_) rfl rfl (by kernel_rfl) (by kernel_rfl) (by kernel_rfl) (by kernel_rfl) (fun _ _ _ h=>h) (Or.inl ⟨by rfl,?_⟩) hC ?_
     rotate_left
     ·(intro w hSw;(try dsimp only at hSw);go_simp;(try with_reducible rfl))
     (try simp only[Act.put,List.setIfInBounds_toArray,List.set_cons_zero,List.set_cons_succ])
     refine takeC (i:=3) (d:=some 67) (v:=?_) rfl rfl (by kernel_rfl) (by kernel_rfl) (by kernel_rfl) (by kernel_rfl) (fun _ _ _ h=>h) (Or.inl ⟨by rfl,?_⟩) hC ?_
     rotate_left
     ·(intro w hSw;(try dsimp only at hSw);go_simp;(try with_reducible rfl))
     (try simp only[Act.put,List.setIfInBounds_toArray,List.set_cons_zero,List.set_cons_succ])
     refine takeC (i:=4) (d:=some 68) (v:=?_) rfl rfl (by kernel_rfl) (by kernel_rfl) (by kernel_rfl) (by kernel_rfl) (fun _ _ _ h=>h) (Or.inl ⟨by rfl,?_⟩) hC ?_
     rotate_left
     ·(intro w hSw;(try dsimp only at hSw);go_simp;(try with_reducible rfl))
     (try simp only[Act.put,List.setIfInBounds_toArray,List.set_cons_zero,List.set_cons_succ])
     refine takeC (i:=5) (d:=some 69) (v:=?_) rfl rfl (by kernel_rfl) (by kernel_rfl) (by kernel_rfl) (by kernel_rfl) (fun _ _ _ h=>h) (Or.inl ⟨by rfl,?_⟩) hC ?_
     rotate_left
     ·(intro w hSw;(try dsimp only at hSw);go_simp;(try with_reducible rfl))
     (try simp only[Act.put,List.setIfInBounds_toArray,List.set_cons_zero,List.set_cons_succ])
     refine tfS [(6,70)] ?_;(iterate 1 (refine tfL (v:=?_) (hy:=Or.inl ⟨by rfl,?_⟩) (hS:=hF) (h:=?_);rotate_left;(· (intro w hSw;(try dsimp only at hSw);go_simp;(try with_reducible rfl)));(try simp only[Act.put,List.setIfInBounds_toArray,List.set_cons_zero,List.set_cons_succ])));refine tfE ?_;refine takeC (i:=7) (d:=some 71) (v:=?_) rfl rfl (by kernel_rfl) (by kernel_rfl) (by kernel_rfl) (by kernel_rfl) (fun _ _ _ h=>h) (Or.inl ⟨by rfl,?_⟩) hC ?_
     rotate_left
     ·(intro w hSw;(try dsimp only at hSw);go_simp;(try with_reducible rfl))
     (try simp only[Act.put,List.setIfInBounds_toArray,List.set_cons_zero,List.set_cons_succ])
     refine takeC (i:=8) (d:=some 72) (v:=?_) rfl rfl (by kernel_rfl) (by kernel_rfl) (by kernel_rfl) (by kernel_rfl) (fun _ _ _ h=>h) (Or.inl ⟨by rfl,?_⟩) hC ?_
     rotate_left
     ·(intro w hSw;(try dsimp only at hSw);go_simp;(try with_reducible rfl))
     (try simp only[Act.put,List.setIfInBounds_toArray,List.set_cons_zero,List.set_cons_succ])
     refine oneR (i:=9) (by kernel_rfl) rfl (fun K hK=>?_);go_simp;go_at_call 9;refine hdvH.out.mono ?_;rintro e w6 ⟨hb6,hans⟩;have hb56:Below w5.heap.size w5 w6:=hbd5H.out.trans hb6;have hF6:w6.cell? ⟨rb,0,none⟩=some (.slice AD1 D1.length cD1)∧w6.cell? ⟨rb,1,none⟩=some (.slice AP1 0 cP1)∧w6.cell? ⟨bo,oo+q*2+1,none⟩=some (.slice xA xn xc):=⟨keepC hb56 r0,keepC hb56 r1,keepC hb56 x1⟩;have hG6:=hG5H.out.below hb56;have hsG6:=hsG5H.out.below hb56;have hz6:=hG6.rcv.1;clear r0 r1 x1
     rcases hans with ⟨kf,hkf,rfl⟩ | ⟨AD2,AP2,cD2,cP2,sent,D0,D2,y,rfl,hsame,hput,hyd,hyl,hst2,hc1,hc2⟩
     ·obtain⟨W7,hW7⟩:∃ W,((w6.setCell ⟨rb,0,none⟩ (.slice none 0 0)).setCell ⟨rb,1,none⟩ (.slice none 0 0))=W:=⟨_,rfl⟩;have hb07:Below w.heap.size w W7:=by
       have h1:=hb02H.out.size;rw[← hW7];exact((hb05H.out.trans (hb56.mono hb05H.out.size)).setCell (p:=⟨rb,0,none⟩) (by show w.heap.size≤rb;omega) _).setCell (p:=⟨rb,1,none⟩) (by show w.heap.size≤rb;omega) _
      have hal:=alive_any W7;obtain⟨hb6H,hb56H,hG6H,hsG6H,hz6H,hb07H,halH⟩:=hq2 hb6 (hq2 hb56 (hqb hG6 hsG6 hz6 hb07 (Lib.hid hal)));clear hb6 hb56 hG6 hsG6 hz6 hb07 hal;refine hK.out _ _ ⟨fun _ _ _=>hF6,fun _ _=>trivial⟩ ?_;clear hK K
      (try simp only[Act.put,List.setIfInBounds_toArray,List.set_cons_zero,List.set_cons_succ])
      refine takeC (i:=10) (d:=some 63) (v:=?_) rfl rfl (by kernel_rfl) (by kernel_rfl) (by kernel_rfl) (by kernel_rfl) (fun _ _ _ h=>h) (Or.inl ⟨by rfl,?_⟩) hC ?_
      rotate_left
      ·(intro w hSw;(try dsimp only at hSw);go_simp;(try with_reducible rfl))
      (try simp only[Act.put,List.setIfInBounds_toArray,List.set_cons_zero,List.set_cons_succ])
      refine takeC (i:=11) (d:=some 74) (v:=?_) rfl rfl (by kernel_rfl) (by kernel_rfl) (by kernel_rfl) (by kernel_rfl) (fun _ _ _ h=>h) (Or.inl ⟨by rfl,?_⟩) hC ?_
      rotate_left
      ·(intro w hSw;(try dsimp only at hSw);go_simp;(try with_reducible rfl))
      (try simp only[Act.put,List.setIfInBounds_toArray,List.set_cons_zero,List.set_cons_succ])
      refine takeC (i:=12) (d:=some 75) (v:=?_) rfl rfl (by kernel_rfl) (by kernel_rfl) (by kernel_rfl) (by kernel_rfl) (fun _ _ _ h=>h) (Or.inl ⟨by rfl,?_⟩) hC ?_
      rotate_left
      ·(intro w hSw;(try dsimp only at hSw);go_simp;(try with_reducible rfl))
      (try simp only[Act.put,List.setIfInBounds_toArray,List.set_cons_zero,List.set_cons_succ])
      refine takeC (i:=13) (d:=some 76) (v:=?_) rfl rfl (by kernel_rfl) (by kernel_rfl) (by kernel_rfl) (by kernel_rfl) (fun _ _ _ h=>h) (Or.inl ⟨by rfl,?_⟩) hC ?_
      rotate_left
      ·(intro w hSw;(try dsimp only at hSw);go_simp;(try with_reducible rfl))
      (try simp only[Act.put,List.setIfInBounds_toArray,List.set_cons_zero,List.set_cons_succ])
      refine takeC (i:=14) (d:=some 77) (v:=?_) rfl rfl (by kernel_rfl) (by kernel_rfl) (by kernel_rfl) (by kernel_rfl) (fun _ _ _ h=>h) (Or.inl ⟨by rfl,?_⟩) hC ?_
      rotate_left
      ·(intro w hSw;(try dsimp only at hSw);go_simp;(try with_reducible rfl))
      (try simp only[Act.put,List.setIfInBounds_toArray,List.set_cons_zero,List.set_cons_succ])
      refine oneR (i:=15) (by kernel_rfl) rfl (fun K hK=>?_);refine step_two hz6H.out rfl (.tmp 10) (.tmp 74) rfl rfl (.slice none 0 0) (.slice none 0 0) rfl rfl rfl ?_;rw[hW7];refine hK.out _ _ ⟨fun _ h=>absurd rfl h,fun _ _=>trivial⟩ ?_;clear hK K
      (try simp only[Act.put,List.setIfInBounds_toArray,List.set_cons_zero,List.set_cons_succ])
      refine takeC (i:=16) (d:=some 16) (v:=?_) rfl rfl (by kernel_rfl) (by kernel_rfl) (by kernel_rfl) (by kernel_rfl) (fun _ _ _ h=>h) (Or.inl ⟨by rfl,?_⟩) hC ?_
      rotate_left
      ·(intro w hSw;(try dsimp only at hSw);go_simp;(try with_reducible rfl))
      (try simp only[Act.put,List.setIfInBounds_toArray,List.set_cons_zero,List.set_cons_succ])
      refine takeC (i:=17) (d:=some 12) (v:=?_) rfl rfl (by kernel_rfl) (by kernel_rfl) (by kernel_rfl) (by kernel_rfl) (fun _ _ _ h=>h) (Or.inl ⟨by rfl,?_⟩) hC ?_
      rotate_left
      ·(intro w hSw;(try dsimp only at hSw);go_simp;(try with_reducible rfl))
      (try simp only[Act.put,List.setIfInBounds_toArray,List.set_cons_zero,List.set_cons_succ])
      refine doneR (by kernel_rfl) ?_ _;clear hC hF hF6 hW7
      rcases hkf with rfl | rfl
      all_goals
       go_wp2_with fail;refine halH.out.mono ?_;rintro e w8 ⟨rfl,hb8⟩;have R:=hZ'H.out (.returned (.bool true)) w8 ⟨rfl,hb07H.out.trans (hb8.mono hb07H.out.size)⟩;obtain⟨hb8H,RH⟩:=hq2 hb8 (Lib.hid R);clear hb8 R;go_wp2_with fail;exact RH.out
     ·obtain⟨W7,hW7⟩:∃ W,((w6.setCell ⟨rb,0,none⟩ (.slice AD2 D2.length cD2)).setCell ⟨rb,1,none⟩ (.slice AP2 0 cP2))=W:=⟨_,rfl⟩;have hg2:Good (fl.map tfOf) D2:=hput.good (hsame.good hG6.good) (by rw[hyd,hyl];exact hxgH.out);have hG7:=hG6.set (by omega) hst2 hg2 hc1 hc2;have hsG7:=slAt_grown hsG6 (two_grown w6 rb (.slice AD2 D2.length cD2) (.slice AP2 0 cP2)) (str_apart hG6.rcv.2 hsG6) (fun _ _ h=>h);rw[hW7]at hG7 hsG7;have hl2:=hput.len;have hl0:=hsame.1;have R:InRel (fl.map tfOf) rb w2 (some ⟨bg,og,none⟩) G D.length (.int .i64 ((k:Int)+1)) W7:=⟨k+1,AD2,AP2,cD2,cP2,D2,by omega,by go_num,hG7,hsG7,by have:=hDnH.out;omega,fun j e hj he hin=>by
       rcases hput.ins hin with h1 | h1
       ·exact hnoH.out j e (by omega) he (hsame.ins.1 h1)
       ·rw[hyd]at h1;subst h1;have hj2:=(List.getElem?_eq_some_iff.1 he).1;have h9:=List.pairwise_iff_getElem.1 hndH.out k j hlt hj2 (by omega);rw[(List.getElem?_eq_some_iff.1 hdH.out).2,(List.getElem?_eq_some_iff.1 he).2]at h9;exact h9 rfl⟩
      clear hG7 hsG7 hput hsame hst2 hc1 hc2 hg2 hl2 hl0;obtain⟨hb6H,hb56H,hG6H,hsG6H,hz6H,RH⟩:=hq2 hb6 (hqb hb56 hG6 hsG6 hz6 (Lib.hid R));clear hb6 hb56 hG6 hsG6 hz6 R;refine hK.out _ _ ⟨fun _ _ _=>hF6,fun _ _=>trivial⟩ ?_;clear hK K
      (try simp only[Act.put,List.setIfInBounds_toArray,List.set_cons_zero,List.set_cons_succ])
      refine takeC (i:=10) (d:=some 63) (v:=?_) rfl rfl (by kernel_rfl) (by kernel_rfl) (by kernel_rfl) (by kernel_rfl) (fun _ _ _ h=>h) (Or.inl ⟨by rfl,?_⟩) hC ?_
      rotate_left
      ·(intro w hSw;(try dsimp only at hSw);go_simp;(try with_reducible rfl))
      (try simp only[Act.put,List.setIfInBounds_toArray,List.set_cons_zero,List.set_cons_succ])
      refine takeC (i:=11) (d:=some 74) (v:=?_) rfl rfl (by kernel_rfl) (by kernel_rfl) (by kernel_rfl) (by kernel_rfl) (fun _ _ _ h=>h) (Or.inl ⟨by rfl,?_⟩) hC ?_
      rotate_left
      ·(intro w hSw;(try dsimp only at hSw);go_simp;(try with_reducible rfl))
      (try simp only[Act.put,List.setIfInBounds_toArray,List.set_cons_zero,List.set_cons_succ])
      refine takeC (i:=12) (d:=some 75) (v:=?_) rfl rfl (by kernel_rfl) (by kernel_rfl) (by kernel_rfl) (by kernel_rfl) (fun _ _ _ h=>h) (Or.inl ⟨by rfl,?_⟩) hC ?_
      rotate_left
      ·(intro w hSw;(try dsimp only at hSw);go_simp;(try with_reducible rfl))
      (try simp only[Act.put,List.setIfInBounds_toArray,List.set_cons_zero,List.set_cons_succ])
      refine takeC (i:=13) (d:=some 76) (v:=?_) rfl rfl (by kernel_rfl) (by kernel_rfl) (by kernel_rfl) (by kernel_rfl) (fun _ _ _ h=>h) (Or.inl ⟨by rfl,?_⟩) hC ?_
      rotate_left
      ·(intro w hSw;(try dsimp only at hSw);go_simp;(try with_reducible rfl))
      (try simp only[Act.put,List.setIfInBounds_toArray,List.set_cons_zero,List.set_cons_succ])
      refine takeC (i:=14) (d:=some 77) (v:=?_) rfl rfl (by kernel_rfl) (by kernel_rfl) (by kernel_rfl) (by kernel_rfl) (fun _ _ _ h=>h) (Or.inl ⟨by rfl,?_⟩) hC ?_
      rotate_left
      ·(intro w hSw;(try dsimp only at hSw);go_simp;(try with_reducible rfl))
      (try simp only[Act.put,List.setIfInBounds_toArray,List.set_cons_zero,List.set_cons_succ])
      refine oneR (i:=15) (by kernel_rfl) rfl (fun K hK=>?_);refine step_two hz6H.out rfl (.tmp 10) (.tmp 74) rfl rfl (.slice AD2 D2.length cD2) (.slice AP2 0 cP2) rfl rfl rfl ?_;rw[hW7];refine hK.out _ _ ⟨fun _ h=>absurd rfl h,fun _ _=>trivial⟩ ?_;clear hK K
      (try simp only[Act.put,List.setIfInBounds_toArray,List.set_cons_zero,List.set_cons_succ])
      refine takeC (i:=16) (d:=some 16) (v:=?_) rfl rfl (by kernel_rfl) (by kernel_rfl) (by kernel_rfl) (by kernel_rfl) (fun _ _ _ h=>h) (Or.inl ⟨by rfl,?_⟩) hC ?_
      rotate_left
      ·(intro w hSw;(try dsimp only at hSw);go_simp;(try with_reducible rfl))
      (try simp only[Act.put,List.setIfInBounds_toArray,List.set_cons_zero,List.set_cons_succ])
      refine takeC (i:=17) (d:=some 12) (v:=?_) rfl rfl (by kernel_rfl) (by kernel_rfl) (by kernel_rfl) (by kernel_rfl) (fun _ _ _ h=>h) (Or.inl ⟨by rfl,?_⟩) hC ?_
      rotate_left
      ·(intro w hSw;(try dsimp only at hSw);go_simp;(try with_reducible rfl))
      (try simp only[Act.put,List.setIfInBounds_toArray,List.set_cons_zero,List.set_cons_succ])
      refine doneR (by kernel_rfl) ?_ _;clear hC hF hF6 hW7;go_wp2_with fail;exact⟨RH.out,by simp[intOf];omega⟩
    ·obtain rfl:k=G.length:=by omega
     have hl1:lenAt rb wr=D1.length:=lenAt_of hG1.rcv;have R:∀ v,LtRel (fl.map tfOf) rb w2 v wr:=fun v=>⟨AD1,AP1,cD1,cP1,D1,hG1⟩;have hn4:=hG1.st.n4;have hmu:4001-lenAt rb wr<4001-lenAt rb wo:=by rw[hwo,hmu0H.out,hl1];omega
     clear hno hl1;obtain⟨hG1H,hsG1H,RH,hDnH,hmuH⟩:=hqb hG1 hsG1 R hDn (Lib.hid hmu);clear hG1 hsG1 R hDn hmu;go_wp2_with fail;exact⟨RH.out _,by rw[← hwo];exact hmuH.out⟩
end Go.Proofs.YtpdjjjiknijpkaaGreatDoor.C10
namespace Go.Proofs.YtpdjjjiknijpkaaGreatDoor.C10
open Go.ChangeShapes Go.WideShapes Go.Deep Go.RowKit
theorem opens_sl_IntT:Opens Tryz.prog 23 (RSl RInt):=opens_slice Tryz.underlying23 (by kernel_rfl) (by decide) (opens_int Tryz.underlying3 (by kernel_rfl))
theorem law_treesL (files:SlD File) (most:Int) (br:SlD Int) (w:World) (hf:(RSl RFile).ok w files) (hi:RInt.ok w most) (hbr:(RSl RInt).ok w br) (hmx:MaxLenAt w) :
  Calls Tryz.prog 3 #[.slice files.A files.n files.cap,.int .i64 most,.slice br.A br.n br.cap] w fun e w'=>e = .returned (.bool true)∧Below w.heap.size w w' :=
 law_trees files most br w hf hi hbr hmx
end Go.Proofs.YtpdjjjiknijpkaaGreatDoor.C10
namespace Go.Proofs.YtpdjjjiknijpkaaGreatDoor.topTreesTravel
open Go.Proofs.YtpdjjjiknijpkaaGreatDoor.C10
open Go.ChangeShapes Go.WideShapes Go.ChangeAt Go.RowKit
open Go.ChangeMaps (open_string shut_string)
theorem own:ownKnob Tryz.prog.godebug=none:=by kernel_rfl
theorem laidOut:laidOutB Tryz.prog=true:=by kernel_rfl
theorem contract (H:Type) (enc:TypeId × Value→H) (W:World) (base:Nat) (args:Array Value) (ds gs:List (DataW H)) (before:List MemPlace)
  (hval0:∀ (j:Nat) t v,Tryz.f3.params[j]? = some t→args[j]? = some v→Value.okWide Tryz.prog W .any base t v)
  (hW:DataW.Whole enc Tryz.prog Tryz.f3.params.toList Rows.topTreesTravelSpec.vars false W args.toList ds gs before) (hmx:MaxLenAt W) :
  Calls Tryz.prog 3 args W fun e W'=>∃ v,e = .returned v∧Rows.topTreesTravelSpec.post enc Tryz.prog Tryz.f3 false true false false W args v W':=by
 have hval:=hval0;have hW':=hW;obtain⟨p,q,hA0,hV,rfl,hfz,hnd⟩:=hW;have hA:DataW.TrodAll enc Tryz.prog W 0 (fun _=>true) true Tryz.f3.params.toList args.toList ds p:=hA0;rw[Tryz.params3]at hA hval;obtain⟨v0,vs0,d0,ds0,p0,q0,hargs,rfl,rfl,h0,r0⟩:=trodAll_cons hA;obtain⟨v1,vs1,d1,ds1,p1,q1,rfl,rfl,rfl,h1,r1⟩:=trodAll_cons r0;obtain⟨v2,vs2,d2,ds2,p2,q2,rfl,rfl,rfl,h2,r2⟩:=trodAll_cons r1;obtain⟨rfl,rfl,rfl⟩:=trodAll_nil r2;obtain rfl:args = #[v0,v1,v2]:=by cases args;simp_all
 obtain⟨rfl,rfl⟩:=trodVars_none hV;have m0:=h0;have lt0:∀ x∈p0,x.block<W.heap.size:=by obtain⟨m,hm⟩:=m0;exact DataW.trod_lt m _ _ _ hm
 obtain⟨a0,rfl,k0,b0⟩:=param_slice Tryz.underlying22 opens_t_sl_File (hval 0 22 v0 rfl rfl) h0;obtain⟨a1,rfl,rfl,rfl,w1⟩:=open_int Tryz.underlying3 (hval 1 3 v1 rfl rfl) h1;have k1:RInt.ok W a1:=by show I64 a1;simpa[I64,Lit.wf,IntKind.min,IntKind.max,IntKind.signed,IntKind.bits]using w1
 have m2:=h2;have lt2:∀ x∈p2,x.block<W.heap.size:=by obtain⟨m,hm⟩:=m2;exact DataW.trod_lt m _ _ _ hm
 obtain⟨a2,rfl,k2,b2⟩:=param_slice Tryz.underlying23 opens_sl_IntT (hval 2 23 v2 rfl rfl) h2;clear hA0 hval0;refine(law_treesL a0 a1 a2 W k0 k1 k2 hmx).mono fun e W' ⟨he,bel⟩=>?_;subst he;exact⟨_,rfl,_,_,_,[],_,[],hW',trodAll_mk1 (shut_bool Tryz.underlying4 _),(trodAll_cons_mk (Below.trod laidOut (by kernel_rfl) (of_decide_eq_true (by kernel_rfl)) m0 bel lt0) (trodAll_cons_mk (shut_int Tryz.underlying3 w1) (trodAll_cons_mk (Below.trod laidOut (by kernel_rfl) (of_decide_eq_true (by kernel_rfl)) m2 bel lt2) trodAll_mk0))),rfl,bel.frame _,fun h=>by cases h⟩
noncomputable def laidWorld (os:Os):World :=
 let put (h:Array Obj) (g:Nat) (cs:Array Value):Array Obj:=h.modify g fun
  | .cells _ t frozen=>.cells cs t frozen
  | o=>o
 { World.holding Tryz.prog os ⟨#[],#[],[]⟩ with heap:=put (put (World.holding Tryz.prog os ⟨#[],#[],[]⟩).heap 1 (Lib.firstTab.map fun z=>Value.int .u8 z).toArray) 2 ((List.range 16).flatMap fun i=>[Value.int .u8 (Lib.accLo i),Value.int .u8 (Lib.accHi i)]).toArray }
theorem laid_met (os:Os):laidMet Tryz.prog Rows.topTreesTravelRow.laid ((laidWorld os).forCall (fun _ _=>0) ⟨#[],#[.slice none 0 0,.int .i64 0,.slice none 0 0],[]⟩).memory :=
 laidMet_of_run' 8 (by kernel_rfl) (by kernel_rfl)
theorem reads (os:Os) {H:Type} (enc:TypeId × Value→H):∃ places,DataW.whole enc Tryz.prog ((laidWorld os).forCall (fun _ _=>0) ⟨#[],#[.slice none 0 0,.int .i64 0,.slice none 0 0],[]⟩).memory Tryz.f3.params.toList Rows.topTreesTravelSpec.vars false (#[.slice none 0 0,.int .i64 0,.slice none 0 0]:Array Value).toList 8=some ([.nil,.lit (.int .i64 0),.nil],[],places) :=
 ⟨[],by kernel_rfl⟩
theorem lifted (os:Os) (started:os.Started) (H:Type) (enc:TypeId × Value→H) (F:Stop.Interp) :
  ReturnsInHanded {} Tryz.checked os 3 .any ((OpenSpec.ofChange Rows.topTreesTravelSpec).preRow enc Tryz.prog Tryz.f3 Rows.topTreesTravelRow.domain false Rows.topTreesTravelRow.laid) (((OpenSpec.ofChange Rows.topTreesTravelSpec).at F).post enc Tryz.prog Tryz.f3 false true false false):=by
 obtain⟨places,hx⟩:=reads os enc;refine returnsInHanded_of_row (C:=Tryz.checked) (s:=(OpenSpec.ofChange Rows.topTreesTravelSpec)) own started (by kernel_rfl) Tryz.func3
  (witness_row_at (enc:=enc) (C:=Tryz.checked) false (laidWorld os) #[.slice none 0 0,.int .i64 0,.slice none 0 0] rfl (by kernel_rfl) (by kernel_rfl) (by kernel_rfl)
   (OpenSpec.preRow_of_cond 8 hx (by kernel_rfl) (fun k hk=>by cases hk) (by kernel_rfl) (laid_met os))) ?_
 intro W base args ds gs before hval hW _ hcond hsz hlaid hsh _;exact contract H enc W base args ds gs before hval hW (Tryz.laysM146.s1_3 W hsh)
theorem said:Rows.TopTreesTravelSaid :=
 OpenClaim.holds_of_cond 3 Tryz.f3 rfl rfl rfl rfl rfl rfl rfl ⟨rfl,rfl,rfl,rfl,rfl⟩ rfl rfl rfl rfl rfl (by kernel_rfl) Tryz.func3 (by kernel_rfl)
  (of_decide_eq_true (by kernel_rfl)) (by unfold Func.isWrapper;first | (rw[if_pos (by decide +kernel)];kernel_rfl) | (rw[if_neg (by decide +kernel)];exact⟨rfl,rfl⟩))
  (fun os started H enc _ F=>by rw[OpenClaim.pre_eq_preRow];exact lifted os started H enc F)
theorem plain (f : FuncId) (fn : Func) (hf : Tryz.pinned.checked.prog.funcNamed "smithyard/smithyardtop.TopTreesTravel" = some f) (hfn : Tryz.pinned.checked.prog.funcs[f]? = some fn) :
  false = Tryz.pinned.checked.prog.looks []∧∀ (j:Nat) t,fn.params[j]? = some t→Tryz.pinned.checked.prog.wantsStandIn t=false:=by
 obtain rfl : f = 3 := Option.some.inj ((show Tryz.prog.funcNamed "smithyard/smithyardtop.TopTreesTravel" = some 3 by kernel_rfl).symm.trans hf) |>.symm;obtain rfl:fn = Tryz.f3:=(Option.some.inj (Tryz.func3.symm.trans hfn)).symm;refine⟨by kernel_rfl,fun j t ht=>?_⟩;rw[Tryz.params3]at ht;have hm:t = 22∨t = 3∨t = 23:=by have:=Array.mem_of_getElem? ht;simpa using this
 rcases hm with rfl | rfl | rfl
 ·exact(show Tryz.prog.wantsStandIn 22 = false by kernel_rfl)
 ·exact(show Tryz.prog.wantsStandIn 3 = false by kernel_rfl)
 ·exact(show Tryz.prog.wantsStandIn 23 = false by kernel_rfl)
theorem card:Rows.TopTreesTravelCardSaid :=
 Claim7.holds_tied_plain_at .later [] _ _ _ _ said (fun _ h=>by cases h) (by kernel_rfl) (fun _ h=>by cases h) topTreesTravel_row_tie rfl ⟨rfl,rfl⟩ (by kernel_rfl) rfl plain (by kernel_rfl)
end Go.Proofs.YtpdjjjiknijpkaaGreatDoor.topTreesTravel