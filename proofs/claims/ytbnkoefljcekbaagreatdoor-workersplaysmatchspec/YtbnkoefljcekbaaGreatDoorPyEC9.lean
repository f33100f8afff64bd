/-
 Several texts of mine as one, without what is not wanted here: XCWorks, XCrR.
-/
import Derived.Test.YtbnkoefljcekbaaGreatDoorPyDC9
import Derived.Lib.Slices
set_option linter.unusedVariables false
set_option linter.unusedSimpArgs false
set_option maxRecDepth 100000
set_option maxHeartbeats 8000000
namespace Go.Proofs.YtbnkoefljcekbaaGreatDoor.C9
open Go.RowKit
def W1Rel (l:List Work) (e0:Int) (w0:World) (i:Value) (wr:World):Prop :=
 ∃ k:Nat,k≤l.length∧i = .int .i64 k∧worksErr (prevId l k) (l.drop k)=e0∧Below w0.heap.size w0 wr
def W2Rel (l:List Work) (w0:World) (i:Value) (wr:World):Prop :=
 ∃ k:Nat,k≤l.length∧i = .int .i64 k∧allThere l k=true∧Below w0.heap.size w0 wr
def W3Rel (l:List Work) (al:List ByteArray) (w0:World) (i:Value) (wr:World):Prop :=
 ∃ j:Nat,j≤al.length∧i = .int .i64 j∧(∀ (t:Nat) (s:ByteArray),al[t]? = some s→t<j→hasId l s=true)∧Below w0.heap.size w0 wr
def W4Rel (l:List Work) (w0:World) (i:Value) (wr:World):Prop :=
 ∃ k:Nat,k≤l.length∧i = .int .i64 k∧(∀ t,t<k→¬ Way (gOf l) t t)∧Below w0.heap.size w0 wr
theorem loopB_true {l:List Work}:loopB l=true↔Cyc (gOf l) l.length:=by unfold loopB;simp
noncomputable def worksR (l:List Work):Int:=if worksErr none l=0 then (if allThere l l.length=true then (if loopB l=true then 17 else 0) else 9) else worksErr none l
theorem works_ok (A:Option Addr) (len cap:Nat) (l:List Work) (w:World) (hlen:len≤200) (hl:SlAt RWork w A len l) (c:Int) (hF:worksR l=c) :
  Calls Tryz.prog 37 #[.slice A len cap] w fun e w'=>e = .returned (.int .i64 c)∧Below w.heap.size w w':=by
 have hll:=hl.1;obtain⟨e0,he0⟩:∃ e0,worksErr none l=e0:=⟨_,rfl⟩;obtain⟨hllH,hFH,hlH,he0H⟩:=hq2 hll (hq2 hF (hq2 hl (Lib.hid he0)));clear hll hF hl he0;go_enter Tryz.func37,Tryz.ntmps37;go_wp2
 go_loopw [19] (fun i wr=>W1Rel l e0 w i wr) (fun i _=>len-(intOf i).toNat)
 case atStart=>exact⟨0,Nat.zero_le _,rfl,he0H.out,Below.refl _ _⟩
 case round =>
  obtain⟨k,hk,rfl,hck,hb⟩:=hrel;have hkl:k≤len:=by have:=hllH.out;omega
  have hbs:=hb.size
  by_cases hlt:k<len
  ·obtain⟨b,off,hA,_⟩:=hlH.out.2.1 (by omega);subst hA;obtain⟨x,hx⟩:∃ x,l[k]? = some x:=⟨l[k]'(by have:=hllH.out;omega),List.getElem?_eq_getElem _⟩;obtain⟨c0,c1,c2,c3⟩:=cells_Work (hlH.out.below hb) hx;have hok:=hlH.out.2.2 x (List.mem_of_getElem? hx);rw[drop_cons hx,worksErr]at hck;have hkl2:k+1≤l.length:=by have:=hllH.out;omega
   have hpn:prevId l (k+1)=some x.id_:=by rw[prevId,if_neg (by omega),show k+1-1=k from rfl,hx];rfl
   obtain⟨f,hf⟩:∃ f,workF x=f:=⟨_,rfl⟩;rw[hf]at hck;obtain⟨id,nd,sz,af⟩:=x;simp only at c0 c1 c2 c3 hck hpn;have hba:=hb.alloc hbs (.cells #[.string id,.slice nd.A nd.n nd.cap,.int .i64 sz,.slice af.A af.n af.cap] 86);have hbas:=hba.size;obtain⟨hxH,hckH,hbH,hbaH,hbasH,hokH,hfH,hpnH,hkl2H⟩:=hqc hx hck hb hba hbas hok hf hpn (Lib.hid hkl2);clear hx hck hb hba hbas hok hf hpn hkl2;go_wp2_with fail;refine(work_any ⟨id,nd,sz,af⟩ _ (RWork.mono _ _ _ hbaH.out hokH.out) f hfH.out).mono ?_;rintro e w1 ⟨rfl,hw1⟩;have q0:w1.cell? ⟨wr.heap.size,0,none⟩=some (.string id):=(hw1.cell (by simp)).trans (cell_new _ _ _ 0);have hbw1:=hbaH.out.trans (hw1.mono hbasH.out);clear c0 c1 c2 c3;obtain⟨hw1H,hbw1H⟩:=hq2 hw1 (Lib.hid hbw1);clear hw1 hbw1;have hck:=hckH.out;clear hckH
   by_cases hf0:f=0
   ·subst hf0;rw[if_pos rfl]at hck
    by_cases hk0:k=0
    ·subst hk0;have R:∀ nq,W1Rel l e0 w (.int .i64 1) (w1.drewN nq):=by
      refine fun nq=>⟨1,hkl2H.out,by go_num,?_,bel_drewN hbw1H.out nq⟩;rw[prevId,if_pos rfl,Option.map_none,if_neg (by decide)]at hck;rw[hpnH.out];exact hck
     clear hck;have RH:=Lib.hid R;clear R;go_wp2_with fail
     go_quiet (fail)
     go_wp2;refine⟨?rel,?measure⟩
     case measure=>(simp[intOf];omega)
     case rel=>first | exact(RH.out _) | exact⟨rfl,(RH.out _)⟩
    ·obtain⟨j,rfl⟩:∃ j,k=j+1:=⟨k-1,by omega⟩;obtain⟨y,hy⟩:∃ y,l[j]? = some y:=⟨l[j]'(by have:=hllH.out;omega),List.getElem?_eq_getElem _⟩;obtain⟨d0,_⟩:=cells_Work (hlH.out.below hbw1H.out) hy;have hpr:prevId l (j+1)=some y.id_:=by rw[prevId,if_neg (by omega),show j+1-1=j from rfl,hy];rfl
     rw[hpr,Option.map_some]at hck;clear hpr;obtain⟨yn,yr⟩:∃ yn,y.id_=yn:=⟨_,rfl⟩;rw[yr]at d0 hck
     cases hle:sle id yn
     ·have hle':(Op.bytesLess id.toList yn.toList||id.toList==yn.toList)=false:=hle;rw[hle,if_neg (by decide)]at hck;have R:∀ nq,W1Rel l e0 w (.int .i64 (j+1+1)) (w1.drewN nq):=by
       refine fun nq=>⟨j+1+1,hkl2H.out,by go_num,?_,bel_drewN hbw1H.out nq⟩;rw[hpnH.out];exact hck
      clear hck;obtain⟨hleH,hyH,yrH,RH⟩:=hq2 hle (hq2 hy (hq2 yr (Lib.hid R)));clear hle hy yr R;go_wp2_with fail
      go_quiet (fail)
      go_wp2;refine⟨?rel,?measure⟩
      case measure=>(simp[intOf];omega)
      case rel=>first | exact(RH.out _) | exact⟨rfl,(RH.out _)⟩
     ·have hle':(Op.bytesLess id.toList yn.toList||id.toList==yn.toList)=true:=hle;rw[hle,if_pos rfl]at hck;have hc8:8=c:=by
       have h1:=hFH.out;rw[worksR,he0H.out,← hck,if_neg (by decide)]at h1;exact h1
      clear hck;obtain⟨hleH,hyH,yrH,hc8H⟩:=hq2 hle (hq2 hy (hq2 yr (Lib.hid hc8)));clear hle hy yr hc8;go_wp2_with fail
      go_quiet (fail)
      go_wp2;go_ret;exact⟨ret1_int hc8H.out,bel_drewN hbw1H.out _⟩
   ·rw[if_neg hf0]at hck;have hcf:f=c:=by
     have h1:=hFH.out;rw[worksR,he0H.out,← hck,if_neg hf0]at h1;exact h1
    have hf1:(f != 0)=true:=by simpa using hf0
    clear q0;obtain⟨hckH,hf0H,hcfH⟩:=hq2 hck (hq2 hf0 (Lib.hid hcf));clear hck hf0 hcf;go_wp2;go_ret;exact⟨ret1_int hcfH.out,hbw1H.out⟩
  ·have e:l.drop k = []:=List.drop_eq_nil_of_le (by have:=hllH.out;omega);rw[e,worksErr]at hck;have hF2:=hFH.out;rw[worksR,he0H.out,← hck,if_pos rfl]at hF2;have hz:worksErr none l=0:=by rw[he0H.out,hck]
   have hr:=(works_rise l none hz).1;clear hFH e hck;obtain⟨w2,rfl⟩:∃ W,W=wr:=⟨_,rfl⟩;obtain⟨hbH,hzH,hrH,hF2H⟩:=hq2 hb (hq2 hz (hq2 hr (Lib.hid hF2)));clear hb hz hr hF2;go_wp2_with fail
   go_loopw [45] (fun i wr=>W2Rel l w i wr) (fun i _=>len-(intOf i).toNat)
   case atStart=>exact⟨0,Nat.zero_le _,rfl,rfl,hbH.out⟩
   case round =>
    obtain⟨k,hk,rfl,hat,hb⟩:=hrel;obtain⟨w3,rfl⟩:∃ W,W=wr:=⟨_,rfl⟩;have hkl:k≤len:=by have:=hllH.out;omega
    have hbs:=hb.size
    by_cases hlt:k<len
    ·obtain⟨b,off,hA,_⟩:=hlH.out.2.1 (by omega);subst hA;obtain⟨x,hx⟩:∃ x,l[k]? = some x:=⟨l[k]'(by have:=hllH.out;omega),List.getElem?_eq_getElem _⟩;obtain⟨c0,c1,c2,c3⟩:=cells_Work (hlH.out.below hb) hx;have hok:=(hlH.out.2.2 x (List.mem_of_getElem? hx)).2.2.2;have hsn:=allThere_snoc hx;rw[hat,Bool.true_and]at hsn;have hxl:=hok.1.1;have hxn:x.after.n≤9223372036854775807:=Nat.le_trans hok.2.1 hok.2.2.1;have hba:=hb.alloc hbs (.cells #[.string x.id_,.slice x.needs.A x.needs.n x.needs.cap,.int .i64 x.size,.slice x.after.A x.after.n x.after.cap] 86);have hkl2:k+1≤l.length:=by have:=hllH.out;omega
     clear hk;obtain⟨hxH,hatH,hbH,hbaH,hokH,hsnH,hxlH,hkl2H⟩:=hq2 hx (hq2 hat (hq2 hb (hqb hba hok hsn hxl (Lib.hid hkl2))));clear hx hat hb hba hok hsn hxl hkl2;go_wp2_with fail
     go_loopw [52] (fun i wr=>W3Rel l x.after.l w i wr) (fun i _=>x.after.n-(intOf i).toNat)
     case atStart=>exact⟨0,Nat.zero_le _,rfl,fun _ _ _ h=>by omega,hbaH.out⟩
     case round =>
      obtain⟨j,hj,rfl,hin,hb3⟩:=hrel;have hjx:j≤x.after.n:=by have:=hxlH.out;omega
      have hb3s:=hb3.size;clear c0 c1 c2 c3
      by_cases hlt2:j<x.after.n
      ·obtain⟨ba,oa,hAa,_⟩:=hokH.out.1.2.1 (by omega);obtain⟨s,hs⟩:∃ s,x.after.l[j]? = some s:=⟨x.after.l[j]'(by have:=hxlH.out;omega),List.getElem?_eq_getElem _⟩;have hsl:=hokH.out.1;rw[hAa]at hsl;have c0:=cell_StrW (hsl.below hb3) hs;have hj2:j+1≤x.after.l.length:=by have:=hxlH.out;omega
       obtain⟨t,ht⟩:∃ t,hasId l s=t:=⟨_,rfl⟩;obtain⟨hAaH,hsH,hslH,hinH,hb3H,hj2H,htH⟩:=hq2 hAa (hq2 hs (hqb hsl hin hb3 hj2 (Lib.hid ht)));clear hAa hs hsl hin hb3 hj2 ht;rw[hAaH.out];go_wp2_with fail;refine(workAt_any _ len cap l s _ (by omega) (hlH.out.below hb3H.out) hrH.out).mono ?_;rintro e w5 ⟨i5,rfl,_,hw5⟩;rw[htH.out];have hb5:=hb3H.out.trans (hw5.mono hb3s);clear hw5;clear c0
       cases t
       ·have hc9:9=c:=by
         have h1:=hF2H.out;have h2:x.after.l.all (hasId l)=false:=by
          rw[List.all_eq_false];exact⟨s,List.mem_of_getElem? hsH.out,by rw[htH.out];decide⟩
         have h3:=allThere_le (hsnH.out.trans h2) l.length hkl2H.out;rw[h3,if_neg (by decide)]at h1;exact h1
        obtain⟨hb5H,hc9H⟩:=hq2 hb5 (Lib.hid hc9);clear hb5 hc9;go_wp2;go_ret;exact⟨ret1_int hc9H.out,hb5H.out⟩
       ·have R:W3Rel l x.after.l w (.int .i64 (j+1)) w5:=⟨j+1,hj2H.out,by go_num,fun t u hu htj=>by
         by_cases e:t=j
         ·subst e;rw[hsH.out]at hu;injection hu with hu;rw[← hu];exact htH.out
         ·exact hinH.out t u hu (by omega),hb5⟩
        obtain⟨hb5H,RH⟩:=hq2 hb5 (Lib.hid R);clear hb5 R;go_wp2;refine⟨?rel,?measure⟩
        case measure=>(simp[intOf];omega)
        case rel=>first | exact RH.out | exact⟨rfl,RH.out⟩
      ·have R:W2Rel l w (.int .i64 (k+1)) wr:=⟨k+1,hkl2H.out,by go_num,by
        rw[hsnH.out,List.all_eq_true];intro s hs;obtain⟨t,ht,rfl⟩:=List.getElem_of_mem hs;exact hin t _ (List.getElem?_eq_getElem ht) (by have:=hxlH.out;omega),hb3⟩
       obtain⟨hinH,hb3H,RH⟩:=hq2 hin (hq2 hb3 (Lib.hid R));clear hin hb3 R;go_wp2;refine⟨?rel,?measure⟩
       case measure=>(simp[intOf];omega)
       case rel=>first | exact RH.out | exact⟨rfl,RH.out⟩
    ·have hat2:allThere l l.length=true:=by rw[show l.length=k by have:=hllH.out;omega];exact hat
     have hF3:=hF2H.out;rw[hat2,if_pos rfl]at hF3;clear hF2H hat;obtain⟨hbH,hat2H,hF3H⟩:=hq2 hb (hq2 hat2 (Lib.hid hF3));clear hb hat2 hF3;go_wp2_with fail;refine(ordered_any A len cap l _ (by omega) (hlH.out.below hbH.out) hrH.out hat2H.out).mono ?_;rintro e w5 ⟨A5,n5,c5,out,ok,rfl,_,hn5,hok5,htp,hms,hw5⟩;have hb5:=hbH.out.trans (hw5.mono hbs);have hg:=gOf_lt hat2H.out;rw[hllH.out]at hg;have hti:=topo_iff hg htp hms;have hlb:ok = !loopB l:=by
      rw[hok5,Bool.eq_iff_iff,decide_eq_true_iff,hn5,hti,Bool.not_eq_true',← Bool.not_eq_true,loopB_true,hllH.out]
     clear hw5 htp hms hti hn5 hok5 hg;have hF3:=hF3H.out;clear hF3H
     cases hlo:loopB l
     ·rw[hlo]at hlb hF3;rw[if_neg (by decide)]at hF3;subst hlb;obtain⟨hloH,hF3H,hb5H⟩:=hq2 hlo (hq2 hF3 (Lib.hid hb5));clear hlo hF3 hb5;go_wp2;go_ret;exact⟨ret1_int hF3H.out,hb5H.out⟩
     ·rw[hlo]at hlb hF3;rw[if_pos rfl]at hF3;subst hlb;obtain⟨hloH,hF3H,hb5H⟩:=hq2 hlo (hq2 hF3 (Lib.hid hb5));clear hlo hF3 hb5;go_wp2;go_ret;exact⟨ret1_int hF3H.out,hb5H.out⟩
theorem rworks_ok (A:Option Addr) (len cap:Nat) (l:List Work) (w:World) (hlen:len≤200) (hl:SlAt RWork w A len l) (c:Int) (hF:worksR l=c) :
  Calls Tryz.prog 45 #[.slice A len cap] w fun e w'=>e = .returned (.int .i64 c)∧Below w.heap.size w w':=by
 have hll:=hl.1;obtain⟨e0,he0⟩:∃ e0,worksErr none l=e0:=⟨_,rfl⟩;obtain⟨hllH,hFH,hlH,he0H⟩:=hq2 hll (hq2 hF (hq2 hl (Lib.hid he0)));clear hll hF hl he0;go_enter Tryz.func45,Tryz.ntmps45;go_wp2
 go_loopw [16] (fun i wr=>W1Rel l e0 w i wr) (fun i _=>len-(intOf i).toNat)
 case atStart=>exact⟨0,Nat.zero_le _,rfl,he0H.out,Below.refl _ _⟩
 case round =>
  obtain⟨k,hk,rfl,hck,hb⟩:=hrel;have hkl:k≤len:=by have:=hllH.out;omega
  have hbs:=hb.size
  by_cases hlt:k<len
  ·obtain⟨b,off,hA,_⟩:=hlH.out.2.1 (by omega);subst hA;obtain⟨x,hx⟩:∃ x,l[k]? = some x:=⟨l[k]'(by have:=hllH.out;omega),List.getElem?_eq_getElem _⟩;obtain⟨c0,c1,c2,c3⟩:=cells_Work (hlH.out.below hb) hx;have hok:=hlH.out.2.2 x (List.mem_of_getElem? hx);rw[drop_cons hx,worksErr]at hck;have hkl2:k+1≤l.length:=by have:=hllH.out;omega
   have hpn:prevId l (k+1)=some x.id_:=by rw[prevId,if_neg (by omega),show k+1-1=k from rfl,hx];rfl
   obtain⟨f,hf⟩:∃ f,workF x=f:=⟨_,rfl⟩;rw[hf]at hck;obtain⟨id,nd,sz,af⟩:=x;simp only at c0 c1 c2 c3 hck hpn;have hba:=hb.alloc hbs (.cells #[.string id,.slice nd.A nd.n nd.cap,.int .i64 sz,.slice af.A af.n af.cap] 86);have hbas:=hba.size;obtain⟨hxH,hckH,hbH,hbaH,hbasH,hokH,hfH,hpnH,hkl2H⟩:=hqc hx hck hb hba hbas hok hf hpn (Lib.hid hkl2);clear hx hck hb hba hbas hok hf hpn hkl2;go_wp2_with fail;refine(rwork_any ⟨id,nd,sz,af⟩ _ (RWork.mono _ _ _ hbaH.out hokH.out) f hfH.out).mono ?_;rintro e w1 ⟨rfl,hw1⟩;have q0:w1.cell? ⟨wr.heap.size,0,none⟩=some (.string id):=(hw1.cell (by simp)).trans (cell_new _ _ _ 0);have hbw1:=hbaH.out.trans (hw1.mono hbasH.out);clear c0 c1 c2 c3;obtain⟨hw1H,hbw1H⟩:=hq2 hw1 (Lib.hid hbw1);clear hw1 hbw1;have hck:=hckH.out;clear hckH
   by_cases hf0:f=0
   ·subst hf0;rw[if_pos rfl]at hck
    by_cases hk0:k=0
    ·subst hk0;have R:∀ nq,W1Rel l e0 w (.int .i64 1) (w1.drewN nq):=by
      refine fun nq=>⟨1,hkl2H.out,by go_num,?_,bel_drewN hbw1H.out nq⟩;rw[prevId,if_pos rfl,Option.map_none,if_neg (by decide)]at hck;rw[hpnH.out];exact hck
     clear hck;have RH:=Lib.hid R;clear R;go_wp2_with fail
     go_quiet (fail)
     go_wp2;refine⟨?rel,?measure⟩
     case measure=>(simp[intOf];omega)
     case rel=>first | exact(RH.out _) | exact⟨rfl,(RH.out _)⟩
    ·obtain⟨j,rfl⟩:∃ j,k=j+1:=⟨k-1,by omega⟩;obtain⟨y,hy⟩:∃ y,l[j]? = some y:=⟨l[j]'(by have:=hllH.out;omega),List.getElem?_eq_getElem _⟩;obtain⟨d0,_⟩:=cells_Work (hlH.out.below hbw1H.out) hy;have hpr:prevId l (j+1)=some y.id_:=by rw[prevId,if_neg (by omega),show j+1-1=j from rfl,hy];rfl
     rw[hpr,Option.map_some]at hck;clear hpr;obtain⟨yn,yr⟩:∃ yn,y.id_=yn:=⟨_,rfl⟩;rw[yr]at d0 hck
     cases hle:sle id yn
     ·have hle':(Op.bytesLess id.toList yn.toList||id.toList==yn.toList)=false:=hle;rw[hle,if_neg (by decide)]at hck;have R:∀ nq,W1Rel l e0 w (.int .i64 (j+1+1)) (w1.drewN nq):=by
       refine fun nq=>⟨j+1+1,hkl2H.out,by go_num,?_,bel_drewN hbw1H.out nq⟩;rw[hpnH.out];exact hck
      clear hck;obtain⟨hleH,hyH,yrH,RH⟩:=hq2 hle (hq2 hy (hq2 yr (Lib.hid R)));clear hle hy yr R;go_wp2_with fail
      go_quiet (fail)
      go_wp2;refine⟨?rel,?measure⟩
      case measure=>(simp[intOf];omega)
      case rel=>first | exact(RH.out _) | exact⟨rfl,(RH.out _)⟩
     ·have hle':(Op.bytesLess id.toList yn.toList||id.toList==yn.toList)=true:=hle;rw[hle,if_pos rfl]at hck;have hc8:8=c:=by
       have h1:=hFH.out;rw[worksR,he0H.out,← hck,if_neg (by decide)]at h1;exact h1
      clear hck;obtain⟨hleH,hyH,yrH,hc8H⟩:=hq2 hle (hq2 hy (hq2 yr (Lib.hid hc8)));clear hle hy yr hc8;go_wp2_with fail
      go_quiet (fail)
      go_wp2;go_ret;exact⟨ret1_int hc8H.out,bel_drewN hbw1H.out _⟩
   ·rw[if_neg hf0]at hck;have hcf:f=c:=by
     have h1:=hFH.out;rw[worksR,he0H.out,← hck,if_neg hf0]at h1;exact h1
    have hf1:(f != 0)=true:=by simpa using hf0
    clear q0;obtain⟨hckH,hf0H,hcfH⟩:=hq2 hck (hq2 hf0 (Lib.hid hcf));clear hck hf0 hcf;go_wp2;go_ret;exact⟨ret1_int hcfH.out,hbw1H.out⟩
  ·have e:l.drop k = []:=List.drop_eq_nil_of_le (by have:=hllH.out;omega);rw[e,worksErr]at hck;have hF2:=hFH.out;rw[worksR,he0H.out,← hck,if_pos rfl]at hF2;have hz:worksErr none l=0:=by rw[he0H.out,hck]
   have hr:=(works_rise l none hz).1;clear hFH e hck;obtain⟨w2,rfl⟩:∃ W,W=wr:=⟨_,rfl⟩;obtain⟨hbH,hzH,hrH,hF2H⟩:=hq2 hb (hq2 hz (hq2 hr (Lib.hid hF2)));clear hb hz hr hF2;go_wp2_with fail
   go_loopw [42] (fun i wr=>W2Rel l w i wr) (fun i _=>len-(intOf i).toNat)
   case atStart=>exact⟨0,Nat.zero_le _,rfl,rfl,hbH.out⟩
   case round =>
    obtain⟨k,hk,rfl,hat,hb⟩:=hrel;obtain⟨w3,rfl⟩:∃ W,W=wr:=⟨_,rfl⟩;have hkl:k≤len:=by have:=hllH.out;omega
    have hbs:=hb.size
    by_cases hlt:k<len
    ·obtain⟨b,off,hA,_⟩:=hlH.out.2.1 (by omega);subst hA;obtain⟨x,hx⟩:∃ x,l[k]? = some x:=⟨l[k]'(by have:=hllH.out;omega),List.getElem?_eq_getElem _⟩;obtain⟨c0,c1,c2,c3⟩:=cells_Work (hlH.out.below hb) hx;have hok:=(hlH.out.2.2 x (List.mem_of_getElem? hx)).2.2.2;have hsn:=allThere_snoc hx;rw[hat,Bool.true_and]at hsn;have hxl:=hok.1.1;have hxn:x.after.n≤9223372036854775807:=Nat.le_trans hok.2.1 hok.2.2.1;have hba:=hb.alloc hbs (.cells #[.string x.id_,.slice x.needs.A x.needs.n x.needs.cap,.int .i64 x.size,.slice x.after.A x.after.n x.after.cap] 86);have hkl2:k+1≤l.length:=by have:=hllH.out;omega
     clear hk;obtain⟨hxH,hatH,hbH,hbaH,hokH,hsnH,hxlH,hkl2H⟩:=hq2 hx (hq2 hat (hq2 hb (hqb hba hok hsn hxl (Lib.hid hkl2))));clear hx hat hb hba hok hsn hxl hkl2;go_wp2_with fail
     go_loopw [49] (fun i wr=>W3Rel l x.after.l w i wr) (fun i _=>x.after.n-(intOf i).toNat)
     case atStart=>exact⟨0,Nat.zero_le _,rfl,fun _ _ _ h=>by omega,hbaH.out⟩
     case round =>
      obtain⟨j,hj,rfl,hin,hb3⟩:=hrel;have hjx:j≤x.after.n:=by have:=hxlH.out;omega
      have hb3s:=hb3.size;clear c0 c1 c2 c3
      by_cases hlt2:j<x.after.n
      ·obtain⟨ba,oa,hAa,_⟩:=hokH.out.1.2.1 (by omega);obtain⟨s,hs⟩:∃ s,x.after.l[j]? = some s:=⟨x.after.l[j]'(by have:=hxlH.out;omega),List.getElem?_eq_getElem _⟩;have hsl:=hokH.out.1;rw[hAa]at hsl;have c0:=cell_StrW (hsl.below hb3) hs;have hj2:j+1≤x.after.l.length:=by have:=hxlH.out;omega
       obtain⟨t,ht⟩:∃ t,hasId l s=t:=⟨_,rfl⟩;obtain⟨hAaH,hsH,hslH,hinH,hb3H,hj2H,htH⟩:=hq2 hAa (hq2 hs (hqb hsl hin hb3 hj2 (Lib.hid ht)));clear hAa hs hsl hin hb3 hj2 ht;rw[hAaH.out];go_wp2_with fail;refine(workOf_any _ len cap l s _ (by omega) (hlH.out.below hb3H.out)).mono ?_;rintro e w5 ⟨rfl,hw5⟩;obtain⟨z,hz2⟩:∃ z,woF l s=z:=⟨_,rfl⟩;rw[hz2];have hzt:decide (z<0) = !t:=by
        rw[← hz2,woF,htH.out]
        cases t
        ·simp
        ·rw[if_pos rfl];simp
       have hb5:=hb3H.out.trans (hw5.mono hb3s);clear hw5;have hz2H:=Lib.hid hz2;clear hz2;clear c0
       cases t
       ·have hc9:9=c:=by
         have h1:=hF2H.out;have h2:x.after.l.all (hasId l)=false:=by
          rw[List.all_eq_false];exact⟨s,List.mem_of_getElem? hsH.out,by rw[htH.out];decide⟩
         have h3:=allThere_le (hsnH.out.trans h2) l.length hkl2H.out;rw[h3,if_neg (by decide)]at h1;exact h1
        obtain⟨hb5H,hc9H⟩:=hq2 hb5 (Lib.hid hc9);clear hb5 hc9;go_wp2;go_ret;exact⟨ret1_int hc9H.out,hb5H.out⟩
       ·have R:W3Rel l x.after.l w (.int .i64 (j+1)) w5:=⟨j+1,hj2H.out,by go_num,fun t u hu htj=>by
         by_cases e:t=j
         ·subst e;rw[hsH.out]at hu;injection hu with hu;rw[← hu];exact htH.out
         ·exact hinH.out t u hu (by omega),hb5⟩
        obtain⟨hb5H,RH⟩:=hq2 hb5 (Lib.hid R);clear hb5 R;go_wp2;refine⟨?rel,?measure⟩
        case measure=>(simp[intOf];omega)
        case rel=>first | exact RH.out | exact⟨rfl,RH.out⟩
      ·have R:W2Rel l w (.int .i64 (k+1)) wr:=⟨k+1,hkl2H.out,by go_num,by
        rw[hsnH.out,List.all_eq_true];intro s hs;obtain⟨t,ht,rfl⟩:=List.getElem_of_mem hs;exact hin t _ (List.getElem?_eq_getElem ht) (by have:=hxlH.out;omega),hb3⟩
       obtain⟨hinH,hb3H,RH⟩:=hq2 hin (hq2 hb3 (Lib.hid R));clear hin hb3 R;go_wp2;refine⟨?rel,?measure⟩
       case measure=>(simp[intOf];omega)
       case rel=>first | exact RH.out | exact⟨rfl,RH.out⟩
    ·have hat2:allThere l l.length=true:=by rw[show l.length=k by have:=hllH.out;omega];exact hat
     have hF3:=hF2H.out;rw[hat2,if_pos rfl]at hF3;clear hF2H hat;obtain⟨hbH,hat2H,hF3H⟩:=hq2 hb (hq2 hat2 (Lib.hid hF3));clear hb hat2 hF3;go_wp2_with fail
     go_loopw [61] (fun i wr=>W4Rel l w i wr) (fun i _=>len-(intOf i).toNat)
     case atStart=>exact⟨0,Nat.zero_le _,rfl,fun _ h=>by omega,hbH.out⟩
     case round =>
      obtain⟨k4,hk4,rfl,hno,hb4⟩:=hrel;have hb4s:=hb4.size;have hk4l:k4≤len:=by have:=hllH.out;omega
      by_cases hlt4:k4<len
      ·have hk42:k4+1≤l.length:=by have:=hllH.out;omega
       obtain⟨hnoH,hb4H,hk42H⟩:=hq2 hno (hq2 hb4 (Lib.hid hk42));clear hno hb4 hk42;go_wp2_with fail;refine(loops_any A len cap l k4 _ (by omega) hlt4 (hlH.out.below hb4H.out) hat2H.out).mono ?_;rintro e w5 ⟨b5,rfl,hb5i,hw5⟩;have hb5:=hb4H.out.trans (hw5.mono hb4s);clear hw5
       cases b5
       ·have R:W4Rel l w (.int .i64 (k4+1)) w5:=⟨k4+1,hk42H.out,by go_num,fun t ht hw=>by
         by_cases e:t=k4
         ·subst e;have:=hb5i.2 hw
          cases this
         ·exact hnoH.out t (by omega) hw,hb5⟩
        clear hb5i;obtain⟨hb5H,RH⟩:=hq2 hb5 (Lib.hid R);clear hb5 R;go_wp2;refine⟨?rel,?measure⟩
        case measure=>(simp[intOf];omega)
        case rel=>first | exact RH.out | exact⟨rfl,RH.out⟩
       ·have hlo:loopB l=true:=loopB_true.2 ⟨k4,by have:=hllH.out;omega,hb5i.1 rfl⟩;have hF4:=hF3H.out;rw[hlo,if_pos rfl]at hF4;clear hb5i;obtain⟨hloH,hb5H,hF4H⟩:=hq2 hlo (hq2 hb5 (Lib.hid hF4));clear hlo hb5 hF4;go_wp2;go_ret;exact⟨ret1_int hF4H.out,hb5H.out⟩
      ·have hlo:¬ loopB l=true:=fun h=>by
        obtain⟨t,ht,hw⟩:=loopB_true.1 h;exact hno t (by have:=hllH.out;omega) hw
       have hF4:=hF3H.out;rw[if_neg hlo]at hF4;obtain⟨hloH,hnoH,hb4H,hF4H⟩:=hq2 hlo (hq2 hno (hq2 hb4 (Lib.hid hF4)));clear hlo hno hb4 hF4;go_wp2;go_ret;exact⟨ret1_int hF4H.out,hb4H.out⟩
theorem works_any (A:Option Addr) (len cap:Nat) (l:List Work) (w:World) (hl:SlAt RWork w A len l) (c:Int) (hF:worksF l=c) :
  Calls Tryz.prog 37 #[.slice A len cap] w fun e w'=>e = .returned (.int .i64 c)∧Below w.heap.size w w':=by
 unfold worksF at hF;rw[hl.1]at hF
 by_cases h:len≤200
 ·rw[if_pos h]at hF;exact works_ok A len cap l w h hl c (by rw[worksR,hl.1];exact hF)
 ·rw[if_neg h]at hF;subst hF;clear hl;go_enter Tryz.func37,Tryz.ntmps37;go_wp2;go_ret;exact⟨rfl,Below.refl _ _⟩
theorem rworks_any (A:Option Addr) (len cap:Nat) (l:List Work) (w:World) (hl:SlAt RWork w A len l) (c:Int) (hF:worksF l=c) :
  Calls Tryz.prog 45 #[.slice A len cap] w fun e w'=>e = .returned (.int .i64 c)∧Below w.heap.size w w':=by
 unfold worksF at hF;rw[hl.1]at hF
 by_cases h:len≤200
 ·rw[if_pos h]at hF;exact rworks_ok A len cap l w h hl c (by rw[worksR,hl.1];exact hF)
 ·rw[if_neg h]at hF;subst hF;clear hl;go_enter Tryz.func45,Tryz.ntmps45;go_wp2;go_ret;exact⟨rfl,Below.refl _ _⟩
end Go.Proofs.YtbnkoefljcekbaaGreatDoor.C9
namespace Go.Proofs.YtbnkoefljcekbaaGreatDoor.C9
open Go.ChangeShapes Go.WideShapes Go.Deep Go.RowKit
theorem topo_ex {g:Nat→List Nat} {N:Nat} (hg:∀ i,i<N→∀ k∈g i,k<N) (hno:¬ Cyc g N):∃ out,Topo g N out∧out.length=N:=by
 have key:∀ (d:Nat) (out:List Nat),Topo g N out→N-out.length=d→∃ out,Topo g N out∧out.length=N:=by
  intro d
  induction d with
  | zero =>
   intro out h e;exact⟨out,h,by have:=nodup_lt h.nodup h.lt;omega⟩
  | succ d ih =>
   intro out h e
   by_cases hm:Most g N out
   ·exact⟨out,h,(topo_iff hg h hm).2 hno⟩
   ·have:∃ i,i<N∧i ∉ out∧∀ k∈g i,k∈out:=by
     refine Classical.byContradiction fun hx=>hm fun i hi hio=>Classical.byContradiction fun hy=>hx ⟨i,hi,hio,fun k hk=>Classical.byContradiction fun hz=>hy ⟨k,hk,hz⟩⟩
    obtain⟨i,hi,hio,hk⟩:=this;exact ih (out ++ [i]) (h.snoc hi hio hk) (by rw[List.length_append,List.length_singleton];omega)
 exact key _ [] (Topo.nil g N) rfl
structure WOk (l:List Work):Prop where
 len:l.length≤200
 rise:l.Pairwise fun a b=>cmpS a.id_ b.id_ = -1
 all:allThere l l.length=true
 size:∀ x∈l,1≤x.size∧x.size≤1000000
 nocyc:¬ Cyc (gOf l) l.length
theorem wok_of {l:List Work} (h:worksF l=0):WOk l:=by
 unfold worksF at h
 by_cases h1:l.length≤200
 ·rw[if_pos h1]at h
  by_cases h2:worksErr none l=0
  ·rw[if_pos h2]at h
   by_cases h3:allThere l l.length=true
   ·rw[if_pos h3]at h
    by_cases h4:loopB l=true
    ·rw[if_pos h4]at h;cases h
    ·refine⟨h1,(works_rise l none h2).1,h3,fun x hx=>?_,fun hc=>h4 (loopB_true.2 hc)⟩;have h5:=works_each l none h2 x hx;unfold workF at h5
     by_cases a1:wordB x.id_=true
     ·rw[if_pos a1]at h5
      by_cases a2:pairsF x.needs.l=0
      ·rw[if_pos a2]at h5
       by_cases a3:inR 1 1000000 x.size=true
       ·exact inR_true a3
       ·rw[if_neg a3]at h5;cases h5
      ·rw[if_neg a2]at h5;exact absurd h5 a2
     ·rw[if_neg a1]at h5;cases h5
   ·rw[if_neg h3]at h;cases h
  ·rw[if_neg h2]at h;exact absurd h h2
 ·rw[if_neg h1]at h;cases h
def szOf (l:List Work) (i:Nat):Int:=((l[i]?).map (·.size)).getD 0
theorem szOf_get {l:List Work} {i:Nat} {x:Work} (h:l[i]? = some x):szOf l i=x.size:=by unfold szOf;rw[h];rfl
theorem szOf_b {l:List Work} (h:WOk l) (i:Nat) (hi:i<l.length):0≤szOf l i∧szOf l i≤1000000:=by
 have e:=szOf_get (List.getElem?_eq_getElem hi);have:=h.size l[i] (List.getElem_mem hi);omega
theorem WOk.order {l:List Work} (h:WOk l):∃ out,Topo (gOf l) l.length out∧out.length=l.length:=topo_ex (gOf_lt h.all) h.nocyc
theorem WOk.crit {l:List Work} (h:WOk l):∃ C,Crit (gOf l) (szOf l) l.length C∧∀ j,j<l.length→0≤C j∧C j≤200000000:=by
 obtain⟨out,h1,h2⟩:=h.order;obtain⟨C,h3,h4⟩:=crit_ex (B:=1000000) h1 h2 (fun i hi=>szOf_b h i hi) (by omega);refine⟨C,h3,fun j hj=>?_⟩;have a:=h4 j hj;have b:=h.len;have c:(1000000:Int)*(l.length:Int)≤1000000*200:=Int.mul_le_mul_of_nonneg_left (by omega) (by omega);omega
theorem WOk.uniq {l:List Work} (h:WOk l) {C D:Nat→Int} (hC:Crit (gOf l) (szOf l) l.length C) (hD:Crit (gOf l) (szOf l) l.length D):∀ j,j<l.length→C j=D j:=by
 obtain⟨out,h1,h2⟩:=h.order;exact crit_uniq h1 h2 hC hD
theorem after_iff {l:List Work} (h:WOk l) {i k:Nat} {x y:Work} (hx:l[i]? = some x) (hy:l[k]? = some y):i∈gOf l k↔x.id_∈y.after.l:=by
 rw[gOf_get hy];obtain⟨e1,e2⟩:=ixOf_eq h.rise hx
 constructor
 ·intro hi;obtain⟨s,hs,he⟩:=List.mem_map.1 hi;obtain⟨z,hz1,hz2⟩:=ixOf_get (allThere_get h.all hy hs);rw[he,hx]at hz1;injection hz1 with hz1;rw[hz1,hz2];exact hs
 ·intro hi;exact List.mem_map.2 ⟨_,hi,e1⟩
open Classical in
theorem has_any (A:Option Addr) (n c:Nat) (l:List ByteArray) (x:ByteArray) (w:World) (hn:n≤9223372036854775807) (hl:SlAt RStr w A n l) :
  Calls Tryz.prog 98 #[.slice A n c,.string x] w fun e w'=>e = .returned (.bool (decide (x∈l)))∧w'=w:=by
 have hi:∀ l:List ByteArray,Lib.containsS l x=decide (x∈l):=fun l=>by
  rw[Bool.eq_iff_iff,Lib.containsS_iff,decide_eq_true_iff]
 by_cases h0:n=0
 ·subst h0;obtain rfl:l = []:=List.eq_nil_of_length_eq_zero hl.1;have:=Tryz.slices_Contains_string_empty A c x w
  simpa using this
 ·obtain⟨b,off,rfl,_⟩:=hl.2.1 (by omega);have hll:=hl.1;refine(Tryz.slices_Contains_string b off n c l x w (by omega) hn (fun j hj=>?_)).mono ?_
  ·have:=cell_StrW hl (List.getElem?_eq_getElem hj);rw[this,List.getD_eq_getElem?_getD,List.getElem?_eq_getElem hj];rfl
  ·rintro e w' ⟨rfl,rfl⟩;rw[List.take_of_length_le (by omega),hi];exact⟨rfl,rfl⟩
noncomputable def rdI (w:World) (B N:Nat):List Int:=(List.range N).map fun j=>match w.cell? ⟨B,j,none⟩ with
 | some (.int _ x)=>x
 | _=>0
theorem rdI_eq {w:World} {B N:Nat} {S:List Int} (h:Sms w B N S):rdI w B N=S:=by
 refine List.ext_getElem? fun i=>?_;unfold rdI;rw[List.getElem?_map]
 by_cases hi:i<N
 ·obtain⟨x,hx⟩:∃ x,S[i]? = some x:=⟨S[i]'(by rw[h.len];exact hi),List.getElem?_eq_getElem _⟩;rw[List.getElem?_range hi,hx,Option.map_some,(h.cells i x hx).1]
 ·rw[List.getElem?_eq_none (by simp;omega),List.getElem?_eq_none (by rw[h.len];omega)];rfl
theorem gt_get {S:List Int} {k:Nat} {x:Int} (h:S[k]? = some x):gt S k=x:=by unfold gt;rw[List.getD_eq_getElem?_getD,h];rfl
def CrO (l:List Work) (C:Nat→Int) (B N:Nat) (w0:World) (v:Value) (wr:World):Prop :=
 ∃ (S:List Int) (b:Bool),v = .bool b∧Sms wr B N S∧Pass (gOf l) (szOf l) N C S∧(b=false→∀ i,i<N→nS (gOf l) (szOf l) S i N=gt S i)∧Below w0.heap.size w0 wr∧B<wr.heap.size
def CrMd (l:List Work) (C:Nat→Int) (B N M:Nat) (w0:World) (v vi:Value) (wr:World):Prop :=
 ∃ (S:List Int) (b:Bool) (i:Nat),i≤N∧v = .bool b∧vi = .int .i64 i∧Sms wr B N S∧Pass (gOf l) (szOf l) N C S∧(b=false→∀ j,j<i→nS (gOf l) (szOf l) S j N=gt S j)∧gap C S N≤M∧(b=true→gap C S N<M)∧Below w0.heap.size w0 wr∧B<wr.heap.size
def CrIn (l:List Work) (S:List Int) (i N:Nat) (wb:World) (vn vk:Value) (wr:World):Prop :=
 ∃ k:Nat,k≤N∧vk = .int .i64 k∧vn = .int .i64 (nS (gOf l) (szOf l) S i k)∧Below wb.heap.size wb wr
theorem nS_b {l:List Work} {S:List Int} {N:Nat} {C:Nat→Int} (h:Pass (gOf l) (szOf l) N C S) (hC:Crit (gOf l) (szOf l) N C) (hb:∀ j,j<N→0≤C j∧C j≤200000000) {i:Nat} (hi:i<N) (hs:0≤szOf l i):∀ k,k≤N→0≤nS (gOf l) (szOf l) S i k∧nS (gOf l) (szOf l) S i k≤200000000:=fun k hk=>by
 have a:=nS_ge (g:=gOf l) (sz:=szOf l) S i k;have up:∀ n m,n≤m→nS (gOf l) (szOf l) S i n≤nS (gOf l) (szOf l) S i m:=by
  intro n m
  induction m with
  | zero=>intro h;obtain rfl:n=0:=(by omega);exact Int.le_refl _
  | succ m ih =>
   intro h
   by_cases e:n=m+1
   ·subst e;exact Int.le_refl _
   ·have:=ih (by omega);have e2:nS (gOf l) (szOf l) S i m≤nS (gOf l) (szOf l) S i (m+1):=by
     rw[nS]
     split <;> omega
    omega
 have b:=up k N hk;have c:=h.nS_le hC hi;have d:=hb i hi;omega
open Classical in
theorem rcrit_any (A:Option Addr) (N c:Nat) (l:List Work) (w:World) (hl:SlAt RWork w A N l) (hok:WOk l) :
  Calls Tryz.prog 56 #[.slice A N c] w fun e w'=>∃ (B:Nat) (S:List Int),e = .returned (.slice (some ⟨B,0,none⟩) N N)∧Sms w' B N S∧Crit (gOf l) (szOf l) N (gt S)∧(∀ k,k<N→0≤gt S k∧gt S k≤200000000)∧w.heap.size≤B∧B<w'.heap.size∧Below w.heap.size w w':=by
 have hll:=hl.1;have hN2:N≤200:=by have:=hok.len;omega
 obtain⟨C,hC,hCb⟩:=hok.crit;rw[hll]at hC hCb;have hsz:∀ i,i<N→0≤szOf l i∧szOf l i≤1000000:=fun i hi=>szOf_b hok i (by omega);have hmk:=run_makeInts N (by omega);obtain⟨B,hB⟩:∃ b,w.heap.size=b:=⟨_,rfl⟩;obtain⟨W1,hW1⟩:∃ X,w.alloc (.cells (madeI N) 3)=X:=⟨_,rfl⟩;have hst:CrO l C B N w (.bool true) W1:=by
  refine⟨List.replicate N 0,true,rfl,?_,Pass.zero hC (fun i hi=>(hsz i hi).1),(fun h=>by cases h),?_,?_⟩
  ·have:=Sms.made w N;rw[hW1,hB]at this;exact this
  ·rw[← hW1];exact(Below.refl _ _).alloc (Nat.le_refl _) _
  ·rw[← hW1];simp;omega
 obtain⟨hlH,hllH,hokH,hCH,hCbH,hstH⟩:=hq2 hl (hqb hll hok hC hCb (Lib.hid hst));clear hl hll hok hC hCb hst;go_enter Tryz.func56,Tryz.ntmps56;go_wp2_with fail;clear hW1 hmk
 go_loopw [4] (fun v wr=>CrO l C B N w v wr) (fun v wr=>2*gap C (rdI wr B N) N+bN v)
 case atStart=>exact hstH.out
 case round =>
  clear hstH;obtain⟨S,b,rfl,hS,hP,hf,hb,hlt⟩:=hrel;have hrd:=rdI_eq hS
  cases b
  ·have hcr:=hP.fix (hf rfl);have hbd:∀ k,k<N→0≤gt S k∧gt S k≤200000000:=fun k hk=>⟨hP.nn k,Int.le_trans (hP.le k hk) (hCbH.out k hk).2⟩;clear hP hf;obtain⟨hSH,hbH,hrdH,hcrH,hbdH⟩:=hqb hS hb hrd hcr (Lib.hid hbd);clear hS hb hrd hcr hbd;go_wp2;go_ret;exact⟨B,S,rfl,hSH.out,hcrH.out,hbdH.out,by omega,hlt,hbH.out⟩
  ·obtain⟨M,hM⟩:∃ m,gap C S N=m:=⟨_,rfl⟩;have hst:CrMd l C B N M w (.bool false) (.int .i64 0) wr:=⟨S,false,0,Nat.zero_le _,rfl,rfl,hS,hP,(fun _ j hj=>by omega),by omega,(fun h=>by cases h),hb,hlt⟩;have hM0:2*gap C (rdI wr B N) N+bN (.bool true)=2*M+1:=by rw[hrd,hM];rfl
   clear hS hP hf hb hrd;obtain⟨wa,rfl⟩:∃ W,W=wr:=⟨_,rfl⟩;obtain⟨hstH,hMH,hM0H⟩:=hq2 hst (hq2 hM (Lib.hid hM0));clear hst hM hM0;go_wp2_with fail
   go_loopw [4,16] (fun v vi wr=>CrMd l C B N M w v vi wr) (fun _ vi _=>N-(intOf vi).toNat)
   case atStart=>exact hstH.out
   case round =>
    clear hstH;obtain⟨S,b,i,hi,rfl,rfl,hS,hP,hf,hg1,hg2,hb,hlt⟩:=hrel;have hll:=hllH.out
    by_cases hli:i<N
    ·obtain⟨ab,off,hA,_⟩:=hlH.out.2.1 (by omega);subst hA;obtain⟨x,hx⟩:∃ x,l[i]? = some x:=⟨l[i]'(by omega),List.getElem?_eq_getElem _⟩;obtain⟨c0,c1,c2,c3⟩:=cells_Work (hlH.out.below hb) hx;have hsx:=szOf_get hx;have hsxb:=hsz i hli;have hba:=(Below.refl wr.heap.size wr).alloc (Nat.le_refl _) (.cells #[.string x.id_,.slice x.needs.A x.needs.n x.needs.cap,.int .i64 x.size,.slice x.after.A x.after.n x.after.cap] 86);obtain⟨W2,hW2⟩:∃ Z,wr.alloc (.cells #[.string x.id_,.slice x.needs.A x.needs.n x.needs.cap,.int .i64 x.size,.slice x.after.A x.after.n x.after.cap] 86)=Z:=⟨_,rfl⟩;have d0:W2.cell? ⟨wr.heap.size,0,none⟩=some (.string x.id_):=by rw[← hW2];exact cell_new _ _ _ 0
     have d2:W2.cell? ⟨wr.heap.size,2,none⟩=some (.int .i64 x.size):=by rw[← hW2];exact cell_new _ _ _ 2
     have hwc:wr.heap.size<W2.heap.size:=by rw[← hW2];simp
     rw[hW2]at hba;have hin:CrIn l S i N W2 (.int .i64 x.size) (.int .i64 0) W2:=⟨0,Nat.zero_le _,rfl,by rw[← hsx];rfl,Below.refl _ _⟩;have hnb:=nS_b hP hCH.out hCbH.out hli hsxb.1;obtain⟨wc,rfl⟩:∃ W,W=wr:=⟨_,rfl⟩;obtain⟨hSH,hPH,hfH,hbH,hbaH,hxH,hsxH,hinH,hnbH,hg1H,hg2H,hllH⟩:=hq2 hS (hq2 hP (hq2 hf (hqc hb hba hx hsx hin hnb hg1 hg2 (Lib.hid hll))));clear hS hP hf hb hba hx hsx hin hnb hg1 hg2 hll;go_wp2_with fail;clear hW2
     go_loopw [7,25] (fun vn vk wr=>CrIn l S i N W2 vn vk wr) (fun _ vk _=>N-(intOf vk).toNat)
     case atStart=>exact hinH.out
     case round =>
      clear hinH;obtain⟨k,hk,rfl,rfl,hbk⟩:=hrel;have hbW:=hbH.out.trans ((hbaH.out.trans (hbk.mono hbaH.out.size)).mono hbH.out.size);have hnk:=hnbH.out k hk
      by_cases hlk:k<N
      ·obtain⟨y,hy⟩:∃ y,l[k]? = some y:=⟨l[k]'(by have:=hllH.out;omega),List.getElem?_eq_getElem _⟩;obtain⟨e0,e1,e2,e3⟩:=cells_Work (hlH.out.below hbW) hy;have hya:=(hlH.out.2.2 y (List.mem_of_getElem? hy)).2.2.2;have hyn:y.after.n≤9223372036854775807:=Nat.le_trans hya.2.1 hya.2.2.1;have hb4:=hbk.alloc hbk.size (.cells #[.string y.id_,.slice y.needs.A y.needs.n y.needs.cap,.int .i64 y.size,.slice y.after.A y.after.n y.after.cap] 86);have hn2:=hnbH.out (k+1) (by omega);have hai:=after_iff hokH.out hxH.out hy;have hg:=hSH.out.keep (w':=wr) (by rw[hbk.block _ (by have:=hbaH.out.size;omega),hbaH.out.block _ hlt]);obtain⟨z,hz⟩:∃ z,S[k]? = some z:=⟨S[k]'(by rw[hSH.out.len];exact hlk),List.getElem?_eq_getElem _⟩;have hzb:=hPH.out.nn k;have hze:=gt_get hz;have hzl:=hPH.out.le k hlk;have hzc:=hCbH.out k hlk;rw[hze]at hzb hzl;have hbks:=hbk.size;have hwr:wr.heap.size<(wr.alloc (.cells #[.string y.id_,.slice y.needs.A y.needs.n y.needs.cap,.int .i64 y.size,.slice y.after.A y.after.n y.after.cap] 86)).heap.size:=by simp
       have f0:(wr.alloc (.cells #[.string y.id_,.slice y.needs.A y.needs.n y.needs.cap,.int .i64 y.size,.slice y.after.A y.after.n y.after.cap] 86)).cell? ⟨B,k,none⟩=some (.int .i64 z):=by
        exact(((Below.refl wr.heap.size wr).alloc (Nat.le_refl _) _).cell (p:=⟨B,k,none⟩) (by show B<_;omega)).trans (hg.cells k z hz).1
       have f1:(wr.alloc (.cells #[.string y.id_,.slice y.needs.A y.needs.n y.needs.cap,.int .i64 y.size,.slice y.after.A y.after.n y.after.cap] 86)).cell? ⟨wc.heap.size,0,none⟩=some (.string x.id_):=(hb4.cell hwc).trans d0;have f2:(wr.alloc (.cells #[.string y.id_,.slice y.needs.A y.needs.n y.needs.cap,.int .i64 y.size,.slice y.after.A y.after.n y.after.cap] 86)).cell? ⟨wc.heap.size,2,none⟩=some (.int .i64 x.size):=(hb4.cell hwc).trans d2;have hyw:=((RSl RStr).mono _ _ _ (hbH.out.trans ((hbaH.out.trans (hb4.mono hbaH.out.size)).mono hbH.out.size)) hya).1;have hns:nS (gOf l) (szOf l) S i (k+1)=if i∈gOf l k then max (nS (gOf l) (szOf l) S i k) (x.size+z) else nS (gOf l) (szOf l) S i k:=by
        rw[nS,← hze,← hsxH.out]
       obtain⟨nk,hnke⟩:∃ q,nS (gOf l) (szOf l) S i k=q:=⟨_,rfl⟩;obtain⟨nl,hnle⟩:∃ q,nS (gOf l) (szOf l) S i (k+1)=q:=⟨_,rfl⟩;rw[hnke]at hns hnk;rw[hnle]at hns hn2;have hsxc:=hsxb;obtain⟨hynH,hb4H,hgH,haiH,hywH,hyaH,hbWH,hnkeH,hnleH⟩:=hqc hyn hb4 hg hai hyw hya hbW hnke (Lib.hid hnle);clear hyn hb4 hg hai hyw hya hbW hnke hnle;go_wp2_with fail;refine(has_any y.after.A y.after.n y.after.cap y.after.l x.id_ _ hynH.out hywH.out).mono ?_;rintro e w1 ⟨rfl,rfl⟩
       by_cases hm:x.id_∈y.after.l
       ·rw[if_pos (haiH.out.2 hm)]at hns;rw[decide_eq_true hm];clear hm;go_wp2_with fail;have hw6:wrap64 (x.size+z)=x.size+z:=IntWalk.wrap64_in _ (by have:=hsxH.out;omega);have R:∀ nq,CrIn l S i N W2 (.int .i64 (max (nS (gOf l) (szOf l) S i k) (wrap64 (x.size+z)))) (.int .i64 ((k:Int)+1)) ((wr.alloc (.cells #[.string y.id_,.slice y.needs.A y.needs.n y.needs.cap,.int .i64 y.size,.slice y.after.A y.after.n y.after.cap] 86)).drewN nq):=by
         refine fun nq=>⟨k+1,by omega,by go_num,congrArg (Value.int .i64) ?_,bel_drewN hb4H.out nq⟩;rw[hw6,hnleH.out,hns,hnkeH.out]
        clear hns hnk hn2 hw6;have RH:=Lib.hid R;clear R
        go_quiet (fail)
        go_wp2;exact⟨RH.out _,by simp[intOf];omega⟩
       ·rw[if_neg (fun h=>hm (haiH.out.1 h))]at hns;rw[decide_eq_false hm];have R:CrIn l S i N W2 (.int .i64 (nS (gOf l) (szOf l) S i k)) (.int .i64 ((k:Int)+1)) (wr.alloc (.cells #[.string y.id_,.slice y.needs.A y.needs.n y.needs.cap,.int .i64 y.size,.slice y.after.A y.after.n y.after.cap] 86)):=by
         refine⟨k+1,by omega,by go_num,congrArg (Value.int .i64) ?_,hb4H.out⟩;rw[hnleH.out,hns,hnkeH.out]
        clear hm hns hnk hn2;have RH:=Lib.hid R;clear R;go_wp2_with fail;exact⟨RH.out,by simp[intOf];omega⟩
      ·obtain rfl:k=N:=by omega
       have hS2:=hSH.out.keep (w':=wr) (by rw[hbk.block _ (by have:=hbaH.out.size;omega),hbaH.out.block _ hlt]);obtain⟨z,hz⟩:∃ z,S[i]? = some z:=⟨S[i]'(by rw[hSH.out.len];exact hli),List.getElem?_eq_getElem _⟩;have hze:=gt_get hz;obtain⟨f0,f1⟩:=hS2.cells i z hz;have hpre:=hPH.out.pre i hli;have hle:=hPH.out.nS_le hCH.out hli;have hlS:i<S.length:=by rw[hSH.out.len];exact hli
       by_cases hne:nS (gOf l) (szOf l) S i k=z
       ·have R:CrMd l C B k M w (.bool b) (.int .i64 ((i:Int)+1)) wr:=by
         refine⟨S,b,i+1,by omega,rfl,by go_num,hS2,hPH.out,fun hb j hj=>?_,hg1H.out,hg2H.out,hbW,by have:=hbaH.out.size;have:=hbk.size;omega⟩
         by_cases e:j=i
         ·subst e;rw[hne,hze]
         ·exact hfH.out hb j (by omega)
        rw[hne];clear hne hS2 hpre hle;have RH:=Lib.hid R;clear R;go_wp2_with fail;exact⟨RH.out,by simp[intOf];omega⟩
       ·obtain⟨g1,g2⟩:=gap_set hlS (x:=nS (gOf l) (szOf l) S i k) (by omega) hle k;have R:CrMd l C B k M w (.bool true) (.int .i64 ((i:Int)+1)) (wr.setCell ⟨B,i,none⟩ (.int .i64 (nS (gOf l) (szOf l) S i k))):=by
         have:=g2 hli;have:=hg1H.out;refine⟨_,true,i+1,by omega,rfl,by go_num,hS2.put hli _,hPH.out.put hCH.out (fun i hi=>(hsz i hi).1) hli,(fun h=>by cases h),by omega,fun _=>by omega,hbW.setCell (by show w.heap.size≤B;omega) _,by have:=hbaH.out.size;have:=hbk.size;simp;omega⟩
        clear hS2 hpre hle g1 g2;have hne2:decide (nS (gOf l) (szOf l) S i k=z)=false:=decide_eq_false hne;have RH:=Lib.hid R;clear R;go_wp2_with fail;exact⟨RH.out,by simp[intOf];omega⟩
    ·obtain rfl:i=N:=by omega
     have R:CrO l C B i w (.bool b) wr:=⟨S,b,rfl,hS,hP,hf,hb,hlt⟩;have R2:2*gap C (rdI wr B i) i+bN (.bool b)<2*M+1:=by
      rw[rdI_eq hS]
      cases b
      ·show 2*_+0<_;omega
      ·have:=hg2 rfl;show 2*_+1<_;omega
     clear hS hP hf hg1 hg2 hb;obtain⟨RH,R2H⟩:=hq2 R (Lib.hid R2);clear R R2;go_wp2;rw[hM0H.out];exact⟨RH.out,R2H.out⟩
end Go.Proofs.YtbnkoefljcekbaaGreatDoor.C9