/-
 Several texts of mine as one, without what is not wanted here: XRnP.
-/
import Derived.Test.YtcdpdaloceengaaGreatDoorKrHC10
import Derived.Laws.EntriesVeiled
set_option linter.unusedVariables false
set_option linter.unusedSimpArgs false
set_option maxRecDepth 100000
set_option maxHeartbeats 8000000
namespace Go.Proofs.YtcdpdaloceengaaGreatDoor.C10
open Go.ChangeShapes Go.WideShapes Go.Deep Go.RowKit Go.Shelf Go.Maps
attribute [local go_sem] Oper.semAt_some
theorem ranked_any (A An:Option Addr) (len cap nn nc:Nat) (l:List TestRun) (names:List ByteArray) (last:Int) (w:World) (hm:MaxLenAt w) (hl:SlAt RTestRun w A len l) (hn:SlAt RStr w An nn names) (hszN:∀ s∈names,s.size<4294967281) (hnn:nn≤9223372036854775807) (c:Int) (hF:rankF l names last=c) :
  Calls Tryz.prog 4 #[.slice A len cap,.slice An nn nc,.int .i64 last] w (RankOut l names last c w):=by
 have hll:=hl.1;have hnl:=hn.1;obtain⟨Z,hZ⟩:∃ Z,RankOut l names last c w=Z:=⟨_,rfl⟩;rw[hZ];unfold rankF at hF;obtain⟨h0,hh⟩:∃ h0,histF l=h0:=⟨_,rfl⟩;rw[hh]at hF;have hba:Below w.heap.size w (w.alloc (.cells #[.int .i64 last] 3)):=(Below.refl _ _).alloc (Nat.le_refl _) _;have c5:(w.alloc (.cells #[.int .i64 last] 3)).cell? ⟨w.heap.size,0,none⟩=some (.int .i64 last):=cell_new _ _ _ 0;obtain⟨w0,hw0⟩:∃ W,w.alloc (.cells #[.int .i64 last] 3)=W:=⟨_,rfl⟩;rw[hw0]at hba c5;obtain⟨hmH,hlH,hllH,hnH,hnlH,hszNH,hZH,hFH,hhH,hbaH,c5H⟩:=hq2 hm (hq2 hl (hqc hll hn hnl hszN hZ hF hh hba (Lib.hid c5)));clear hm hl hll hn hnl hszN hZ hF hh hba c5;refine(callsIn_wide (n:=9)).1 ?_;refine callsIn_of_wp_marks Tryz.func4 rfl trivial ?_ rfl;simp only[Tryz.ntmps4,List.size_toArray,List.length_cons,List.length_nil,Nat.reduceAdd,Nat.reduceSub,Array.replicate_succ,Array.replicate_zero,List.push_toArray,List.append_toArray,List.nil_append,List.cons_append]
 gi_wp2_with fail
 refine⟨trivial,callsIn_wide.2 ?_⟩;clear hw0;refine(hist_any A len cap l _ (hmH.out.below hbaH.out) (hlH.out.below hbaH.out) h0 hhH.out).mono ?_;rintro e w1 ⟨rfl,hw1a⟩;have c5:=keepC hw1a c5H.out;have hw1:=hbaH.out.trans (hw1a.mono hbaH.out.size);clear hbaH hw1a c5H
 by_cases e0:h0=0
 ·subst e0;have hF:=hFH.out;clear hFH;rw[if_pos rfl]at hF
  by_cases hn3:nn≤300
  ·have hg3:decide ((nn:Int)>300)=false:=decide_eq_false (by omega);rw[if_pos (by have:=hnlH.out;omega)]at hF;obtain⟨d,hd⟩:∃ d,nmErr none names=d:=⟨_,rfl⟩;rw[hd]at hF;have RF:d≠0→∀ W,Below w1.heap.size w1 W→Z (.returned (.tuple #[.slice none 0 0,.int .i64 d])) W:=fun hd0 W h=>by
    rw[if_neg hd0]at hF;rw[← hZH.out,← hF];exact rank_nil _ _ _ _ _ _ hd0 (hw1.trans (h.mono hw1.size))
   have hn0:=hnH.out;have hn:=hnH.out.below hw1;have hl:=hlH.out.below hw1;have hm:=hmH.out.below hw1;clear hnH hlH hmH;have hlb:w.heap.size<w1.heap.size:=cell?_lt c5;obtain⟨hw1H,hdH,RFH,hFH,c5H,hnH,hlH,hmH,hn0H⟩:=hqc hw1 hd RF hF c5 hn hl hm (Lib.hid hn0);clear hw1 hd RF hF c5 hn hl hm hn0
   gi_wp2_with fail
   gi_loopw [27] (fun i wr=>NmRel names d w1 i wr) (fun i _=>nn-(intOf i).toNat)
   case atStart=>exact⟨0,Nat.zero_le _,rfl,hdH.out,Below.refl _ _⟩
   case round =>
    obtain⟨k,hk,rfl,hck,hb⟩:=hrel;have hkl:k≤nn:=by have:=hnlH.out;omega
    have hbs:=hb.size
    by_cases hlt:k<nn
    ·obtain⟨b,off,hA,_⟩:=hnH.out.2.1 (by omega);have hsn:=hnH.out.below hb;rw[hA]at hsn ⊢;obtain⟨x,hx⟩:∃ x,names[k]? = some x:=⟨names[k]'(by have:=hnlH.out;omega),List.getElem?_eq_getElem _⟩;have c0:=cell_Str hsn hx;have hkl2:k+1≤names.length:=by have:=hnlH.out;omega
     have hpn:prevN names (k+1)=some x:=by rw[prevN,if_neg (by omega),show k+1-1=k from rfl,hx]
     have hxz:=hszNH.out x (List.mem_of_getElem? hx);rw[drop_cons hx,nmErr]at hck;obtain⟨b1,hb1⟩:∃ b,pathB x=b:=⟨_,rfl⟩;rw[hb1]at hck;obtain⟨hxH,hbH,hb1H,hpnH,hckH,hkl2H,hxzH,hsnH,hAH⟩:=hqc hx hb hb1 hpn hck hkl2 hxz hsn (Lib.hid hA);clear hx hb hb1 hpn hck hkl2 hxz hsn hA
     gi_wp2_with fail
     refine⟨trivial,callsIn_wide.2 ?_⟩;refine(isPath_any x _ (hmH.out.below hbH.out) b1 hb1H.out).mono ?_;rintro e w2 ⟨rfl,hw2⟩;have hbw1:=hbH.out.trans (hw2.mono hbs);obtain⟨hw2H,hbw1H⟩:=hq2 hw2 (Lib.hid hbw1);clear hw2 hbw1;have hck:=hckH.out;clear hckH
     cases b1
     ·rw[if_neg (by simp)]at hck;have hcd:d=5:=hck.symm;subst hcd;have R:=RFH.out (by decide) _ hbw1H.out;clear hck;have RH:=Lib.hid R;clear R
      gi_wp2
      exact⟨.tuple #[.slice none 0 0,.int .i64 5],by simp[results,Tryz.f4,go_sem],RH.out⟩
     ·rw[if_pos rfl]at hck
      by_cases hk0:k=0
      ·subst hk0;rw[show prevN names 0=none from rfl,Option.map_none,if_neg (by decide)]at hck;have R:NmRel names d w1 (.int .i64 1) w2:=⟨1,hkl2H.out,by go_num,by rw[show prevN names 1=_ from hpnH.out];exact hck,hbw1H.out⟩;obtain⟨RH,hckH⟩:=hq2 R (Lib.hid hck);clear R hck
       gi_wp2
       refine⟨?rel,?measure⟩
       case measure=>(simp[intOf];omega)
       case rel=>first | exact RH.out | exact⟨rfl,RH.out⟩
      ·obtain⟨j,rfl⟩:∃ j,k=j+1:=⟨k-1,by omega⟩;obtain⟨y,hy⟩:∃ y,names[j]? = some y:=⟨names[j]'(by have:=hnlH.out;omega),List.getElem?_eq_getElem _⟩;have hsn2:=hnH.out.below hbw1H.out;rw[hAH.out]at hsn2;have d0:=cell_Str hsn2 hy;have hpr:prevN names (j+1)=some y:=by rw[prevN,if_neg (by omega),show j+1-1=j from rfl,hy]
       rw[hpr,Option.map_some]at hck;clear hpr
       cases hle:sle x y
       ·have hle':(Op.bytesLess x.toList y.toList||x.toList==y.toList)=false:=hle;rw[hle,if_neg (by decide)]at hck;have R:NmRel names d w1 (.int .i64 (j+1+1)) w2:=⟨j+1+1,hkl2H.out,by go_num,by rw[hpnH.out];exact hck,hbw1H.out⟩;obtain⟨RH,hleH,hckH,hyH,hsn2H⟩:=hqb R hle hck hy (Lib.hid hsn2);clear R hle hck hy hsn2
        gi_wp2
        refine⟨?rel,?measure⟩
        case measure=>(simp[intOf];omega)
        case rel=>first | exact RH.out | exact⟨rfl,RH.out⟩
       ·have hle':(Op.bytesLess x.toList y.toList||x.toList==y.toList)=true:=hle;rw[hle,if_pos rfl]at hck;have hcd:d=8:=hck.symm;subst hcd;have R:=RFH.out (by decide) _ hbw1H.out;clear hck;obtain⟨RH,hleH,hyH,hsn2H⟩:=hq2 R (hq2 hle (hq2 hy (Lib.hid hsn2)));clear R hle hy hsn2
        gi_wp2
        exact⟨.tuple #[.slice none 0 0,.int .i64 8],by simp[results,Tryz.f4,go_sem],RH.out⟩
    ·obtain rfl:k=nn:=by omega
     have e:names.drop k = []:=List.drop_eq_nil_of_le (by have:=hnlH.out;omega);rw[e]at hck;have hc0:d=0:=by rw[← hck];unfold nmErr;rfl
     subst hc0;clear hck e;have hF:=hFH.out;rw[if_pos rfl]at hF;have c5:wr.cell? ⟨w.heap.size,0,none⟩=some (.int .i64 last):=keepC hb c5H.out
     by_cases hi:inR 1 3000 last=true
     ·rw[if_pos hi]at hF;subst hF;have hj:=inR_true hi;obtain⟨hl3,_⟩:=histF_ok hhH.out;have hsec:=histF_secs hhH.out;obtain⟨g,hg⟩:∃ g,recOf last l=g:=⟨_,rfl⟩;have hgo:∀ s,RecOk 3000 (g s):=fun s=>by rw[← hg];exact recOf_ok hhH.out last s
      have hrise:=(nmErr_rise names none hdH.out).2;have hlr:=hlH.out.below hb;have hnr:=hnH.out.below hb;have hbw:=hw1H.out.trans (hb.mono hw1H.out.size);have hba:Below wr.heap.size wr (((wr.alloc (.map #[] 0)).alloc (.cells #[.map (some wr.heap.size)] 34)).alloc (.cells #[.slice A len cap] 22)):=(((Below.refl _ _).alloc (Nat.le_refl _) _).alloc (by simp) _).alloc (by simp;omega) _;have hmm:=((TMap.made wr KB valN).alloc (.cells #[.map (some wr.heap.size)] 34)).alloc (.cells #[.slice A len cap] 22);have xmp:=(Boxed.new (wr.alloc (.map #[] 0)) 34 (.map (some wr.heap.size))).alloc (.cells #[.slice A len cap] 22);have xsl:=Boxed.new ((wr.alloc (.map #[] 0)).alloc (.cells #[.map (some wr.heap.size)] 34)) 22 (.slice A len cap);simp only[World.size_alloc]at xmp xsl;obtain⟨wS,hwS⟩:∃ W,W=(((wr.alloc (.map #[] 0)).alloc (.cells #[.map (some wr.heap.size)] 34)).alloc (.cells #[.slice A len cap] 22)):=⟨_,rfl⟩;have hszS:wS.heap.size=wr.heap.size+1+1+1:=by rw[hwS];simp
      rw[← hwS]at hba hmm xmp xsl;have hlw:w.heap.size<wr.heap.size:=cell?_lt c5;have zS:RkS w.heap.size (wr.heap.size+1) wr.heap.size last wS.heap.size w (fun _=>none) 0 wS:=⟨keepC hba c5,xmp.cell,hmm,hbw.trans (hba.mono hbw.size),Nat.le_refl _⟩;have hlS:=hlr.below hba;have hnS:=hnr.below hba;clear xmp hmm hlr hnr;obtain⟨wq,rfl⟩:∃ W,W=wr:=⟨_,rfl⟩;obtain⟨hbH,hsecH,hgH,hgoH,hriseH,hbaH,xslH,zSH,hlSH,hnSH,hbwH⟩:=hq2 hb (hq2 hsec (hqc hg hgo hrise hba xsl zS hlS hnS (Lib.hid hbw)));clear hb hsec hg hgo hrise hba xsl zS hlS hnS hbw;have hmk:=@run_makeMap Tryz.prog
      gi_wp2_with fail
      refine⟨trivial,callsIn_wide.2 ?_⟩;refine(within_p last 1 3000 _).mono ?_;rintro e wz ⟨rfl,rfl⟩;rw[hi]
      gi_wp2_with fail
      refine⟨trivial,callsIn_wide.2 ?_⟩;refine(back_any A len cap _).mono ?_;rintro e w2 ⟨rfl,rfl⟩
      gi_wp2_with fail
      try simp only[World.size_alloc]
      rw[← hwS];clear hwS c5 hmk;refine rk_law (l:=l) (A:=A) (len:=len) (cap:=cap) (w:=w) (Bs:=wz.heap.size+1+1) (lb:=w.heap.size) (pb:=wz.heap.size+1) (mb:=wz.heap.size) (last:=last) rfl (by have:=hllH.out;omega) ?hA (by omega) (by omega) xslH.out.cell hlSH.out (by omega) (by omega) (by omega) (by omega) zSH.out ?assign ?body ?done
      case hA =>
       intro h0;obtain⟨b7,off7,hA7,hc7⟩:=(hlH.out.below hbH.out).2.1 h0;have hx7:l[0]? = some (l[0]'(by have:=hllH.out;omega)):=List.getElem?_eq_getElem _;have h8:b7<wz.heap.size:=cell?_lt (hc7 0 _ hx7 0 (.string (l[0]'(by have:=hllH.out;omega)).test) rfl);exact⟨b7,off7,hA7,by omega,by omega⟩
      case assign =>
       rintro lp pre x W K ⟨c,hc,hI⟩ hK
       dsimp only[encT,trV]
       gi_wp2
       have hal:=(Below.refl W.heap.size W).alloc (Nat.le_refl _) (.cells #[.string l[x].test,.string l[x].key,.int .i64 l[x].at_,.bool l[x].pass,.int .i64 l[x].seconds] 39);refine hK _ _ ((KeepsOthers.alloc _ _).from _) (BelBut.of (hal.mono hI.le)) ⟨c,hc,hI.below hal⟩ ⟨W.heap.size,hI.le,Tr5.new W l[x],?_⟩;simp[encT,trV]
      case body =>
       rintro lp pre ⟨p,hp⟩ a' W hlp hrec ⟨c,hc,hI⟩ ⟨Bx,hBx,hcc,ha'⟩ hlt;clear hrec hlp;have hx:l[p]? = some l[p]:=List.getElem?_eq_getElem hp;have hcc:Tr5 Bx l[p] W:=hcc;simp[encT,trV]at ha';obtain⟨x,hxe⟩:∃ x,x=l[p]:=⟨_,rfl⟩;rw[← hxe]at hx hcc ha';obtain⟨L,hL⟩:∃ L,runsL l pre=L:=⟨_,rfl⟩;rw[hL]at hI;have hLn:runsL l (pre ++ [(⟨p,hp⟩:Fin l.length)])=x::L:=by rw[runsL_snoc,hL,hxe];rfl
       have hLl:L.length=pre.length:=by rw[← hL];simp[runsL]
       have hLs:∀ r∈L,0≤r.seconds∧r.seconds≤100000:=fun r hr=>by
        rw[← hL]at hr;unfold runsL at hr;rw[List.mem_reverse]at hr;obtain⟨i,_,rfl⟩:=List.mem_map.1 hr;exact hsecH.out _ (List.getElem_mem _)
       obtain⟨r,hr⟩:∃ r,recF last x.test L=r:=⟨_,rfl⟩;have hok:=recF_ok last x.test L hLs;rw[hr]at hok;have hgd:=fM_getD last L x.test;rw[hr]at hgd;obtain⟨se0,se1⟩:=hsecH.out x (List.mem_of_getElem? hx);have hgood:x.test.size≤maxLen:=(hlSH.out.2.2 x (List.mem_of_getElem? hx)).1;have hcl:c≤3000:=by omega
       have hstep:∀ W' c',c'≤(pre ++ [(⟨p,hp⟩:Fin l.length)]).length→RkS w.heap.size (wz.heap.size+1) wz.heap.size last wS.heap.size w (fM last (x::L)) c' W'→IrN l last w.heap.size (wz.heap.size+1) wz.heap.size wS.heap.size w (pre ++ [⟨p,hp⟩]) W':=fun W' c' h1 h2=>⟨c',h1,by rw[hLn];exact h2⟩;obtain⟨⟨ba,tk,al⟩,hre⟩:∃ y:Rec,y=r:=⟨r,rfl⟩;subst hre;obtain⟨⟨o1,o2⟩,⟨o3,o4⟩,o5,o6⟩:=hok;simp only at o1 o2 o3 o4 o5 o6;have p1:0≤ba∧ba≤3000:=by omega
       have p2:0≤tk∧tk≤300000000:=by omega
       have p3:0≤al∧al≤3000:=by omega
       clear o1 o2 o3 o4 o5 o6;have q5:=hI.c5;have qp:=hI.cp;have hmap:=hI.map;obtain⟨c0,c1,c2,c3,c4⟩:=hcc;obtain⟨te,ke,ta,ps,se⟩:=x;simp only at c0 c1 c2 c3 c4 se0 se1 hgood hr hgd;subst ha';have hbx:Bx<W.heap.size:=cell?_lt c0;have hlW:w.heap.size<W.heap.size:=cell?_lt q5;have hpW:wz.heap.size+1<W.heap.size:=cell?_lt qp;obtain⟨W1,hW1⟩:∃ X,W.alloc (.cells #[.string ByteArray.empty,.int .i64 ba,.int .i64 tk,.int .i64 al] 41)=X:=⟨_,rfl⟩;have hb1:Below W.heap.size W W1:=by rw[← hW1];exact(Below.refl _ _).alloc (Nat.le_refl _) _
       by_cases hall:al=last
       ·have he:(al==last)=true:=by simpa using hall
        rw[hall]at hW1;have R:KeepsFrom wS.heap.size W W1∧BelBut wz.heap.size wS.heap.size W W1∧IrN l last w.heap.size (wz.heap.size+1) wz.heap.size wS.heap.size w (pre ++ [⟨p,hp⟩]) W1:=by
         refine⟨keepsN_below hb1,BelBut.of (hb1.mono hI.le),hstep W1 c (by rw[List.length_append];omega) ?_⟩;rw[fM_full (by rw[hr];exact hall)];exact hI.below hb1
        obtain⟨hIH,hxH,hxeH,hLH,hLnH,hLlH,hLsH,hrH,hgdH,hgoodH,hstepH,hmapH,hb1H,hW1H,RH⟩:=hq2 hI (hq2 hx (hqb hxe hL hLn hLl (hqc hLs hr hgd hgood hstep hmap hb1 hW1 (Lib.hid R))));clear hI hx hxe hL hLn hLl hLs hr hgd hgood hstep hmap hb1 hW1 R
        gi_wp2_with (gi_at_lookup;go_loud (refine wpListIn_tlook rfl (.tmp 55) (.tmp 57) 34 rfl Tryz.underlying34 rec0 (zeroN _) injN rfl hmapH.out te rfl hgoodH.out ?_);rw[hgdH.out];simp only[valN])
        try rw[hW1H.out]
        exact RH.out
       ·have he:(al==last)=false:=by simpa using hall
        have hst:=fM_step (L:=L) (x:=⟨te,ke,ta,ps,se⟩) (by omega:0≤last) (by rw[hr];exact hall) hr;simp only at hst;obtain⟨hIH,hxH,hxeH,hLH,hLnH,hLlH,hLsH,hrH,hgdH,hgoodH,hstepH,hmapH,hb1H,hW1H,hstH⟩:=hq2 hI (hq2 hx (hqb hxe hL hLn hLl (hqc hLs hr hgd hgood hstep hmap hb1 hW1 (Lib.hid hst))));clear hI hx hxe hL hLn hLl hLs hr hgd hgood hstep hmap hb1 hW1 hst
        gi_wp2_with (gi_at_lookup;go_loud (refine wpListIn_tlook rfl (.tmp 55) (.tmp 57) 34 rfl Tryz.underlying34 rec0 (zeroN _) injN rfl hmapH.out te rfl hgoodH.out ?_);rw[hgdH.out];simp only[valN])
        have n1:IntKind.i64.wrap (al+1)=al+1:=IntWalk.i64_in _ (by omega);have n2:IntKind.i64.wrap (tk+se)=tk+se:=IntWalk.i64_in _ (by omega);have n3:IntKind.i64.wrap (ba+1)=ba+1:=IntWalk.i64_in _ (by omega);have hS0:∀ cs:Array Value,(W.alloc (.cells cs 41)).drew.cell? ⟨Bx,4,none⟩=some (.int .i64 se):=fun cs=>(World.cell?_alloc_lt _ _ _ (by show Bx<_;omega)).trans c4;refine region_held_in (S:=fun V:World=>V.cell? ⟨Bx,4,none⟩=some (.int .i64 se)) (by kernel_rfl) (by kernel_rfl) (hS0 _) (fun hHeld=>?_);refine tkS [(0,63)] ?_;(iterate 1 (refine tkL ?_ ?_ ?_;rotate_left;(· intro w hSw;(try dsimp only at hSw);go_simp;(try with_reducible rfl));(try simp only[Act.put,tkA,tkB,tkC])));refine tkE ?_;refine tkS [(3,66)] ?_;(iterate 1 (refine tkL ?_ ?_ ?_;rotate_left;(· intro w hSw;(try dsimp only at hSw);go_simp;(try with_reducible rfl));(try simp only[Act.put,tkA,tkB,tkC])));refine tkE ?_;refine tkS [(5,68)] ?_;(iterate 1 (refine tkL ?_ ?_ ?_;rotate_left;(· intro w hSw;(try dsimp only at hSw);go_simp;(try with_reducible rfl));(try simp only[Act.put,tkA,tkB,tkC])));refine tkE ?_;refine tkS [(6,69)] ?_;(iterate 1 (refine tkL ?_ ?_ ?_;rotate_left;(· intro w hSw;(try dsimp only at hSw);go_simp;(try with_reducible rfl));(try simp only[Act.put,tkA,tkB,tkC])));refine tkE ?_;refine wpAnyH_ready (rs:=[1,4]) (by kernel_rfl) (by simp) ?_;refine AllReadyH.cons (i:=1) rfl (fun K hK=>?_) (AllReadyH.cons (i:=4) rfl (fun K hK=>?_) AllReadyH.nil)
        ·go_simp;refine hK.out _ _ hHeld (fun hHeld=>?_);clear hK K
         (try simp only[Act.put,tkA,tkB,tkC])
         refine tkS [(2,65)] ?_;(iterate 1 (refine tkL ?_ ?_ ?_;rotate_left;(· intro w hSw;(try dsimp only at hSw);go_simp;(try with_reducible rfl));(try simp only[Act.put,tkA,tkB,tkC])));refine tkE ?_;refine wpAnyH_ready (rs:=[4]) (by kernel_rfl) (by simp) ?_;refine AllReadyH.cons (i:=4) rfl (fun K hK=>?_) AllReadyH.nil;go_simp;refine hK.out _ _ hHeld (fun hHeld=>?_);clear hK K
         (try simp only[Act.put,tkA,tkB,tkC])
         refine tkS [(7,70)] ?_;(iterate 1 (refine tkL ?_ ?_ ?_;rotate_left;(· intro w hSw;(try dsimp only at hSw);go_simp;(try with_reducible rfl));(try simp only[Act.put,tkA,tkB,tkC])));refine tkE ?_;refine tkS [(8,71)] ?_;(iterate 1 (refine tkL ?_ ?_ ?_;rotate_left;(· intro w hSw;(try dsimp only at hSw);go_simp;(try with_reducible rfl));(try simp only[Act.put,tkA,tkB,tkC])));refine tkE ?_;refine wpAnyH_ready (rs:=[9]) (by kernel_rfl) (by simp) ?_;refine AllReadyH.cons (i:=9) rfl (fun K hK=>?_) AllReadyH.nil;go_simp;have hHeld:=hS0 (#[.string ByteArray.empty,.int .i64 ba,.int .i64 tk,.int .i64 (al+1)]);refine hK.out _ _ hHeld (fun hHeld=>?_);clear hK K
         (try simp only[Act.put,tkA,tkB,tkC])
         refine tkS [(10,72)] ?_;(iterate 1 (refine tkL ?_ ?_ ?_;rotate_left;(· intro w hSw;(try dsimp only at hSw);go_simp;(try with_reducible rfl));(try simp only[Act.put,tkA,tkB,tkC])));refine tkE ?_;refine wpAnyH_ready (rs:=[11]) (by kernel_rfl) (by simp) ?_;refine AllReadyH.cons (i:=11) rfl (fun K hK=>?_) AllReadyH.nil;go_simp;have hHeld:=hS0 (#[.string ByteArray.empty,.int .i64 ba,.int .i64 (tk+se),.int .i64 (al+1)]);refine hK.out _ _ hHeld (fun hHeld=>?_);clear hK K
         (try simp only[Act.put,tkA,tkB,tkC])
         refine wpAnyH_done (by kernel_rfl) ?_ _;clear hHeld n1 n2 hS0;unfold noOut;have hmV:∀ cs:Array Value,TMap KB valN (W.alloc (.cells cs 41)).drew wz.heap.size (fM last L) c:=fun cs=>tmap_heap (hmapH.out.alloc _) rfl;have hst:=hstH.out;clear hstH
         cases ps
         ·rw[if_neg (by decide)]at hst
          gi_wp2_with (gi_at_mapUpdate;go_loud (refine wpListIn_tstore rfl (.tmp 80) (.tmp 82) (.tmp 83) 34 rfl Tryz.underlying34 injN rfl (hmV _) (by simp only[maxLen];omega) te rfl hgoodH.out (⟨ba+1,tk+se,al+1⟩:Rec) rfl ?_);intro w2 hm2 hg2;have hm2H:=Lib.hid hm2;clear hm2;have hg2H:=Lib.hid hg2;clear hg2)
          have R:KeepsFrom wS.heap.size W w2∧BelBut wz.heap.size wS.heap.size W w2∧IrN l last w.heap.size (wz.heap.size+1) wz.heap.size wS.heap.size w (pre ++ [⟨p,hp⟩]) w2:=by
           obtain⟨r1,r2,r3⟩:=rk_round hIH.out _ _ hm2H.out hg2H.out (by omega) (by omega) (by omega) (by omega);refine⟨r1,r2,hstepH.out w2 _ ?_ (by rw[hst];exact r3)⟩;rw[List.length_append,List.length_singleton]
           split <;> omega
          exact R
         ·rw[if_pos rfl]at hst
          gi_wp2_with (gi_at_mapUpdate;go_loud (refine wpListIn_tstore rfl (.tmp 80) (.tmp 82) (.tmp 83) 34 rfl Tryz.underlying34 injN rfl (hmV _) (by simp only[maxLen];omega) te rfl hgoodH.out (⟨ba,tk+se,al+1⟩:Rec) rfl ?_);intro w2 hm2 hg2;have hm2H:=Lib.hid hm2;clear hm2;have hg2H:=Lib.hid hg2;clear hg2)
          have R:KeepsFrom wS.heap.size W w2∧BelBut wz.heap.size wS.heap.size W w2∧IrN l last w.heap.size (wz.heap.size+1) wz.heap.size wS.heap.size w (pre ++ [⟨p,hp⟩]) w2:=by
           obtain⟨r1,r2,r3⟩:=rk_round hIH.out _ _ hm2H.out hg2H.out (by omega) (by omega) (by omega) (by omega);refine⟨r1,r2,hstepH.out w2 _ ?_ (by rw[hst];exact r3)⟩;rw[List.length_append,List.length_singleton]
           split <;> omega
          exact R
        ·go_simp;refine hK.out _ _ hHeld (fun hHeld=>?_);clear hK K
         (try simp only[Act.put,tkA,tkB,tkC])
         refine tkS [(7,70)] ?_;(iterate 1 (refine tkL ?_ ?_ ?_;rotate_left;(· intro w hSw;(try dsimp only at hSw);go_simp;(try with_reducible rfl));(try simp only[Act.put,tkA,tkB,tkC])));refine tkE ?_;refine wpAnyH_ready (rs:=[1]) (by kernel_rfl) (by simp) ?_;refine AllReadyH.cons (i:=1) rfl (fun K hK=>?_) AllReadyH.nil;go_simp;refine hK.out _ _ hHeld (fun hHeld=>?_);clear hK K
         (try simp only[Act.put,tkA,tkB,tkC])
         refine tkS [(2,65)] ?_;(iterate 1 (refine tkL ?_ ?_ ?_;rotate_left;(· intro w hSw;(try dsimp only at hSw);go_simp;(try with_reducible rfl));(try simp only[Act.put,tkA,tkB,tkC])));refine tkE ?_;refine tkS [(8,71)] ?_;(iterate 1 (refine tkL ?_ ?_ ?_;rotate_left;(· intro w hSw;(try dsimp only at hSw);go_simp;(try with_reducible rfl));(try simp only[Act.put,tkA,tkB,tkC])));refine tkE ?_;refine wpAnyH_ready (rs:=[9]) (by kernel_rfl) (by simp) ?_;refine AllReadyH.cons (i:=9) rfl (fun K hK=>?_) AllReadyH.nil;go_simp;have hHeld:=hS0 (#[.string ByteArray.empty,.int .i64 ba,.int .i64 tk,.int .i64 (al+1)]);refine hK.out _ _ hHeld (fun hHeld=>?_);clear hK K
         (try simp only[Act.put,tkA,tkB,tkC])
         refine tkS [(10,72)] ?_;(iterate 1 (refine tkL ?_ ?_ ?_;rotate_left;(· intro w hSw;(try dsimp only at hSw);go_simp;(try with_reducible rfl));(try simp only[Act.put,tkA,tkB,tkC])));refine tkE ?_;refine wpAnyH_ready (rs:=[11]) (by kernel_rfl) (by simp) ?_;refine AllReadyH.cons (i:=11) rfl (fun K hK=>?_) AllReadyH.nil;go_simp;have hHeld:=hS0 (#[.string ByteArray.empty,.int .i64 ba,.int .i64 (tk+se),.int .i64 (al+1)]);refine hK.out _ _ hHeld (fun hHeld=>?_);clear hK K
         (try simp only[Act.put,tkA,tkB,tkC])
         refine wpAnyH_done (by kernel_rfl) ?_ _;clear hHeld n1 n2 hS0;unfold noOut;have hmV:∀ cs:Array Value,TMap KB valN (W.alloc (.cells cs 41)).drew wz.heap.size (fM last L) c:=fun cs=>tmap_heap (hmapH.out.alloc _) rfl;have hst:=hstH.out;clear hstH
         cases ps
         ·rw[if_neg (by decide)]at hst
          gi_wp2_with (gi_at_mapUpdate;go_loud (refine wpListIn_tstore rfl (.tmp 80) (.tmp 82) (.tmp 83) 34 rfl Tryz.underlying34 injN rfl (hmV _) (by simp only[maxLen];omega) te rfl hgoodH.out (⟨ba+1,tk+se,al+1⟩:Rec) rfl ?_);intro w2 hm2 hg2;have hm2H:=Lib.hid hm2;clear hm2;have hg2H:=Lib.hid hg2;clear hg2)
          have R:KeepsFrom wS.heap.size W w2∧BelBut wz.heap.size wS.heap.size W w2∧IrN l last w.heap.size (wz.heap.size+1) wz.heap.size wS.heap.size w (pre ++ [⟨p,hp⟩]) w2:=by
           obtain⟨r1,r2,r3⟩:=rk_round hIH.out _ _ hm2H.out hg2H.out (by omega) (by omega) (by omega) (by omega);refine⟨r1,r2,hstepH.out w2 _ ?_ (by rw[hst];exact r3)⟩;rw[List.length_append,List.length_singleton]
           split <;> omega
          exact R
         ·rw[if_pos rfl]at hst
          gi_wp2_with (gi_at_mapUpdate;go_loud (refine wpListIn_tstore rfl (.tmp 80) (.tmp 82) (.tmp 83) 34 rfl Tryz.underlying34 injN rfl (hmV _) (by simp only[maxLen];omega) te rfl hgoodH.out (⟨ba,tk+se,al+1⟩:Rec) rfl ?_);intro w2 hm2 hg2;have hm2H:=Lib.hid hm2;clear hm2;have hg2H:=Lib.hid hg2;clear hg2)
          have R:KeepsFrom wS.heap.size W w2∧BelBut wz.heap.size wS.heap.size W w2∧IrN l last w.heap.size (wz.heap.size+1) wz.heap.size wS.heap.size w (pre ++ [⟨p,hp⟩]) w2:=by
           obtain⟨r1,r2,r3⟩:=rk_round hIH.out _ _ hm2H.out hg2H.out (by omega) (by omega) (by omega) (by omega);refine⟨r1,r2,hstepH.out w2 _ ?_ (by rw[hst];exact r3)⟩;rw[List.length_append,List.length_singleton]
           split <;> omega
          exact R
      case done =>
       rintro D ys W hD rfl ⟨c,hc,hI⟩ hK;rw[runsL_all]at hI;have hDl:D<W.heap.size:=(Array.getElem?_eq_some_iff.1 hK).1;have hWl:=hI.le;have hgd:∀ s,(fM last l s).getD rec0=g s:=fun s=>by rw[fM_getD,← hgH.out];rfl
       have hnW:=hn0H.out.below hI.bel;have hkl3:names.length=k:=hnlH.out;obtain⟨hIH,hKH,hgdH,hnWH⟩:=hq2 hI (hq2 hK (hq2 hgd (Lib.hid hnW)));clear hI hK hgd hnW
       gi_wp2_with fail
       refine⟨trivial,callsIn_wide.2 ?_⟩;refine(clone_strN An k nc names W hnWH.out (by omega)).mono ?_;rintro e w5 ⟨A5,c5',rfl,hown,hb5⟩;have hb5s:=hb5.size;have hI5:=hIH.out.below hb5;have hown6:=hown.alloc (.cells #[.func (.func 15) #[] #[.pointer (some ⟨wz.heap.size+1,0,none⟩)]] 43);have hb6:Below w5.heap.size w5 (w5.alloc (.cells #[.func (.func 15) #[] #[.pointer (some ⟨wz.heap.size+1,0,none⟩)]] 43)):=(Below.refl _ _).alloc (Nat.le_refl _) _;have hI6:=hI5.below hb6;have xof:=Boxed.new w5 43 (.func (.func 15) #[] #[.pointer (some ⟨wz.heap.size+1,0,none⟩)]);obtain⟨w6,hw6⟩:∃ X,X=w5.alloc (.cells #[.func (.func 15) #[] #[.pointer (some ⟨wz.heap.size+1,0,none⟩)]] 43):=⟨_,rfl⟩;have hK6:w6.heap[D]? = some (.deferred (some [])):=by
        rw[hw6];exact(hb6.block D (by omega)).trans ((hb5.block D hDl).trans hKH.out)
       have hob:∀ b,(Value.slice A5 k c5').ownBlock=some b→W.heap.size≤b∧b<w5.heap.size:=fun b hb=>hown.1.lt b hb;have hs6:w6.heap.size=w5.heap.size+1:=by rw[hw6];simp
       rw[← hw6]at hown6 hb6 hI6 xof;clear hb5 hI5 hown hb6;obtain⟨hown6H,hI6H,xofH,hK6H,hobH⟩:=hqb hown6 hI6 xof hK6 (Lib.hid hob);clear hown6 hI6 xof hK6 hob
       gi_wp2_with fail
       refine⟨trivial,callsIn_wide.2 ?_⟩;rw[← hw6];clear hw6;refine(sortN_any A5 k c5' names w6 W.heap.size hown6H.out (by omega) (fun s hs=>(hnWH.out.2.2 s hs)) w5.heap.size (wz.heap.size+1) wz.heap.size c (fM last l) g xofH.out.cell hI6H.out.cp hI6H.out.map (fun b hb=>by have:=hobH.out b hb;omega) hgdH.out hgoH.out).mono ?_;rintro e w7 ⟨rfl,P,hp1,hp2,hs7,hg7⟩;have hK7:w7.heap[D]? = some (.deferred (some [])):=(hg7.block D (by omega) (fun e=>by have:=hobH.out D e.symm;omega)).trans hK6H.out;have hb7:Below w.heap.size w w7:=hI6H.out.bel.grown hg7 hI6H.out.bel.size (fun b hb=>by have:=hobH.out b hb;omega);have R:Z (.returned (.tuple #[.slice A5 k c5',.int .i64 0])) (w7.putObj D (.deferred none)):=by
        rw[← hZH.out];refine⟨A5,k,c5',P,rfl,slAt_putObj hs7 hK7,?_,by omega,hb7.trans (belowK_b (w:=w) (Nat.le_refl _) w7 D _ _ (by omega) hK7 rfl rfl)⟩;unfold RankAns;rw[if_pos rfl,hgH.out];exact insN_of_sort (fun s=>(hgoH.out s).p) hp1 hp2 hriseH.out
       clear hp1 hp2 hs7 hg7 hb7;obtain⟨RH,hK7H⟩:=hq2 R (Lib.hid hK7);clear R hK7
       gi_wp2
       refine⟨by simp,.inl ⟨_,_,rfl,run_takeDeferred hK7H.out,?_⟩⟩;exact⟨.tuple #[.slice A5 k c5',.int .i64 0],by simp[results,Tryz.f4,go_sem],RH.out⟩
     ·have hi2:inR 1 3000 last=false:=by simpa using hi
      rw[if_neg hi]at hF;subst hF;have R:Z (.returned (.tuple #[.slice none 0 0,.int .i64 1])) wr:=by rw[← hZH.out];exact rank_nil _ _ _ _ _ _ (by decide) (hw1H.out.trans (hb.mono hw1H.out.size))
      clear hi;obtain⟨RH,hbH⟩:=hq2 R (Lib.hid hb);clear R hb
      gi_wp2_with fail
      refine⟨trivial,callsIn_wide.2 ?_⟩;refine(within_p last 1 3000 _).mono ?_;rintro e wz ⟨rfl,rfl⟩;rw[hi2]
      gi_wp2
      exact⟨.tuple #[.slice none 0 0,.int .i64 1],by simp[results,Tryz.f4,go_sem],RH.out⟩
  ·have hg3:decide ((nn:Int)>300)=true:=decide_eq_true (by omega);rw[if_neg (by have:=hnlH.out;omega)]at hF;subst hF;have R:Z (.returned (.tuple #[.slice none 0 0,.int .i64 2])) w1:=by rw[← hZH.out];exact rank_nil _ _ _ _ _ _ (by decide) hw1
   obtain⟨RH,hw1H⟩:=hq2 R (Lib.hid hw1);clear R hw1
   gi_wp2
   exact⟨.tuple #[.slice none 0 0,.int .i64 2],by simp[results,Tryz.f4,go_sem],RH.out⟩
 ·have hF:=hFH.out;rw[if_neg e0]at hF;subst hF;have h1':(h0 != 0)=true:=by simpa using e0
  have R:Z (.returned (.tuple #[.slice none 0 0,.int .i64 h0])) w1:=by rw[← hZH.out];exact rank_nil _ _ _ _ _ _ e0 hw1
  clear e0 hFH;obtain⟨RH,hw1H⟩:=hq2 R (Lib.hid hw1);clear R hw1
  gi_wp2
  exact⟨.tuple #[.slice none 0 0,.int .i64 h0],by simp[results,Tryz.f4,go_sem],RH.out⟩
end Go.Proofs.YtcdpdaloceengaaGreatDoor.C10