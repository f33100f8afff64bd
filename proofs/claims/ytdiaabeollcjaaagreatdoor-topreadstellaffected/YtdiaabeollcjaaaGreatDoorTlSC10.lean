/-
 Several texts of mine as one, without what is not wanted here: XCReads, XAffected.
-/
import Derived.Test.YtdiaabeollcjaaaGreatDoorTlRC10
set_option linter.unusedVariables false
set_option linter.unusedSimpArgs false
set_option maxRecDepth 100000
set_option maxHeartbeats 8000000
namespace Go.Proofs.YtdiaabeollcjaaaGreatDoor.C10
open Go.RowKit
def clashB (x:TestReads):Bool:=x.looked.l.any (inL x.paths.l)
def recErr (x:TestReads):Int :=
 if pathB x.test=true then (if x.paths.n≤1000∧x.looked.n≤1000 then (if pathsErr none x.paths.l=0 then (if pathsErr none x.looked.l=0 then (if clashB x=true then 12 else 0) else pathsErr none x.looked.l) else pathsErr none x.paths.l) else 2) else 5
def readsErr:Option ByteArray→List TestReads→Int
 | _,[]=>0
 | p,x::s=>if recErr x=0 then (if p.map (sle x.test ·)=some true then 8 else readsErr (some x.test) s) else recErr x
def prevT (l:List TestReads) (k:Nat):Option ByteArray:=if k=0 then none else (l[k-1]?).map (·.test)
def readsF (l:List TestReads):Int:=if l.length≤300 then readsErr none l else 2
def ReadsRel (l:List TestReads) (c:Int) (w0:World) (i:Value) (wr:World):Prop:=∃ k:Nat,k≤l.length∧i = .int .i64 k∧readsErr (prevT l k) (l.drop k)=c∧Below w0.heap.size w0 wr
theorem three_new {w w':World} {v0 v1 v2:Value} {T:TypeId} (hb:Below (w.alloc (.cells #[v0,v1,v2] T)).heap.size (w.alloc (.cells #[v0,v1,v2] T)) w') :
  w'.cell? ⟨w.heap.size,0,none⟩=some v0∧w'.cell? ⟨w.heap.size,1,none⟩=some v1∧w'.cell? ⟨w.heap.size,2,none⟩=some v2 :=
 ⟨(hb.cell (by simp)).trans (by simp[go_sem]),(hb.cell (by simp)).trans (by simp[go_sem]),(hb.cell (by simp)).trans (by simp[go_sem])⟩
theorem clash_fn (W:World) (b4:Nat) (P:SlD ByteArray) (x:ByteArray) (hc:W.cell? ⟨b4,1,none⟩=some (.slice P.A P.n P.cap)) (hP:SlAt RStr W P.A P.n P.l) (hr:pathsErr none P.l=0) (hn:P.n≤100000) :
  Calls Tryz.prog 42 #[.string x,.pointer (some ⟨b4,0,none⟩)] W fun e w'=>e = .returned (.bool (inL P.l x))∧Below W.heap.size W w':=by
 obtain⟨A,n,cap,l⟩:=P;simp only at hc hP hr hn;have hr:=(paths_rise l none hr).1;obtain⟨hPH,hrH⟩:=hq2 hP (Lib.hid hr);clear hP hr;go_enter Tryz.func42,Tryz.ntmps42;go_wp2_with fail;refine(search_any A n cap l x _ hn hPH.out hrH.out).mono ?_;rintro e w1 ⟨i,rfl,hw1⟩;have hw1H:=Lib.hid hw1;clear hw1;go_wp2;go_ret;exact⟨rfl,hw1H.out⟩
theorem creads_ok (A:Option Addr) (len cap:Nat) (l:List TestReads) (w:World) (hm:MaxLenAt w) (hlen:len≤300) (hl:SlAt RTestReads w A len l) (c:Int) (hF:readsErr none l=c) :
  Calls Tryz.prog 23 #[.slice A len cap] w fun e w'=>e = .returned (.int .i64 c)∧Below w.heap.size w w':=by
 have hll:=hl.1;obtain⟨hllH,hFH,hlH,hmH⟩:=hq2 hll (hq2 hF (hq2 hl (Lib.hid hm)));clear hll hF hl hm;go_enter Tryz.func23,Tryz.ntmps23;go_wp2_with fail
 go_loopw [12] (fun i wr=>ReadsRel l c w i wr) (fun i _=>len-(intOf i).toNat)
 case atStart=>exact⟨0,Nat.zero_le _,rfl,hFH.out,Below.refl _ _⟩
 case round =>
  obtain⟨k,hk,rfl,hck,hb⟩:=hrel;have hkl:k≤len:=by have:=hllH.out;omega
  have hbs:=hb.size
  by_cases hlt:k<len
  ·obtain⟨b,off,hA,_⟩:=hlH.out.2.1 (by omega);subst hA;obtain⟨x,hx⟩:∃ x,l[k]? = some x:=⟨l[k]'(by have:=hllH.out;omega),List.getElem?_eq_getElem _⟩;obtain⟨c0,c1,c2⟩:=cells_TestReads (hlH.out.below hb) hx;obtain⟨o0,oP,oQ⟩:=hlH.out.2.2 x (List.mem_of_getElem? hx);have hkl2:k+1≤l.length:=by have:=hllH.out;omega
   have hpn:prevT l (k+1)=some x.test:=by rw[prevT,if_neg (by omega),show k+1-1=k from rfl,hx];rfl
   rw[drop_cons hx,readsErr]at hck;obtain⟨te,⟨PA,Pn,Pc,Pl⟩,⟨QA,Qn,Qc,Ql⟩⟩:=x;simp only at c0 c1 c2 o0 hpn hck;have oP:SlAt RStr w PA Pn Pl:=oP.1;have oQ:SlAt RStr w QA Qn Ql:=oQ.1;obtain⟨b1,hb1⟩:∃ b,pathB te=b:=⟨_,rfl⟩;have hba:=hb.alloc hbs (.cells #[.string te,.slice PA Pn Pc,.slice QA Qn Qc] 36);have hbas:=hba.size;obtain⟨hxH,hbH,hbaH,o0H,oPH,oQH,hb1H,hpnH,hckH,hkl2H⟩:=hq2 hx (hqc hb hba o0 oP oQ hb1 hpn hck (Lib.hid hkl2));clear hx hb hba o0 oP oQ hb1 hpn hck hkl2;go_wp2_with fail;refine(isPath_any te _ (hmH.out.below hbaH.out) b1 hb1H.out).mono ?_;rintro e w1 ⟨rfl,hw1⟩;obtain⟨q0,q1,q2⟩:=three_new hw1;have hbw:=hw1;clear c0 c1 c2 hw1;have hbwH:=Lib.hid hbw;clear hbw
   cases b1
   ·have hre:recErr ⟨te,⟨PA,Pn,Pc,Pl⟩,⟨QA,Qn,Qc,Ql⟩⟩=5:=by unfold recErr;rw[if_neg (by rw[hb1H.out];simp)]
    have hck:=hckH.out;rw[hre,if_neg (by decide)]at hck;subst hck;clear hckH hre;clear q0 q1 q2;go_wp2;go_ret;exact⟨rfl,hbaH.out.trans (hbwH.out.mono hbas)⟩
   ·by_cases hP1:Pn≤1000
    ·by_cases hQ1:Qn≤1000
     ·obtain⟨e1,he1⟩:∃ e,pathsErr none Pl=e:=⟨_,rfl⟩;obtain⟨e2,he2⟩:∃ e,pathsErr none Ql=e:=⟨_,rfl⟩;obtain⟨cl,hcl⟩:∃ b,Ql.any (inL Pl)=b:=⟨_,rfl⟩;obtain⟨he1H,he2H,hclH⟩:=hq2 he1 (hq2 he2 (Lib.hid hcl));clear he1 he2 hcl;go_wp2_with fail;refine(paths_any PA Pn Pc Pl _ ((hmH.out.below hbaH.out).below hbwH.out) (by omega) ((oPH.out.below hbaH.out).below hbwH.out) e1 he1H.out).mono ?_;rintro e w2 ⟨rfl,hw2⟩;have hbw:=hbwH.out.trans (hw2.mono hbwH.out.size);obtain⟨q0,q1,q2⟩:=three_new hbw;clear hw2 hbwH;have hbwH:=Lib.hid hbw;clear hbw
      by_cases z1:e1=0
      ·subst z1;go_wp2_with fail;refine(paths_any QA Qn Qc Ql _ ((hmH.out.below hbaH.out).below hbwH.out) (by omega) ((oQH.out.below hbaH.out).below hbwH.out) e2 he2H.out).mono ?_;rintro e w3 ⟨rfl,hw3⟩;have hbw:=hbwH.out.trans (hw3.mono hbwH.out.size);obtain⟨q0,q1,q2⟩:=three_new hbw;clear hw3 hbwH
       by_cases z2:e2=0
       ·subst z2;have hoP:=(oPH.out.below hbaH.out).below hbw;have hq1:=q1;obtain⟨hbwH,hoPH,hq1H⟩:=hq2 hbw (hq2 hoP (Lib.hid hq1));clear hbw hoP hq1;go_wp2_with fail;refine(containsFunc_any 42 #[.pointer (some ⟨wr.heap.size,0,none⟩)] (enters_of Tryz.func42 (by kernel_rfl) rfl) (inL Pl) QA Qn Qc Ql _ ((oQH.out.below hbaH.out).below hbwH.out) (by omega)
         (fun W x _ hW=>clash_fn W wr.heap.size ⟨PA,Pn,Pc,Pl⟩ x ((hW.cell (cell?_lt hq1H.out)).trans hq1H.out) (hoPH.out.below hW) he1H.out (by show Pn≤100000;omega)) cl hclH.out).mono ?_
        rintro e w4 ⟨rfl,hw4⟩;have hbw:=hbwH.out.trans (hw4.mono hbwH.out.size);obtain⟨q0,q1,q2⟩:=three_new hbw;clear hw4 hbwH hoPH hq1H;have hbt:=hbaH.out.trans (hbw.mono hbas)
        cases cl
        ·have hre:recErr ⟨te,⟨PA,Pn,Pc,Pl⟩,⟨QA,Qn,Qc,Ql⟩⟩=0:=by
          unfold recErr;rw[if_pos hb1H.out,if_pos ⟨hP1,hQ1⟩,if_pos he1H.out,if_pos he2H.out,if_neg];unfold clashB;simp only;rw[hclH.out];simp
         have hck:=hckH.out;rw[hre,if_pos rfl]at hck;clear hckH hre
         by_cases hk0:k=0
         ·subst hk0;have R:∀ nq,ReadsRel l c w (.int .i64 1) (w4.drewN nq):=by
           refine fun nq=>⟨1,hkl2H.out,by go_num,?_,bel_drewN hbt nq⟩;rw[show prevT l 0=none from rfl,Option.map_none,if_neg (by decide)]at hck;rw[show prevT l 1=_ from hpnH.out];exact hck
          clear hck q1 q2;obtain⟨RH,hbwH,hbtH⟩:=hq2 R (hq2 hbw (Lib.hid hbt));clear R hbw hbt;go_wp2_with fail
          go_quiet (fail)
          go_wp2;refine⟨?rel,?measure⟩
          case measure=>(simp[intOf];omega)
          case rel=>first | exact(RH.out _) | exact⟨rfl,(RH.out _)⟩
         ·obtain⟨j,rfl⟩:∃ j,k=j+1:=⟨k-1,by omega⟩;obtain⟨y,hy⟩:∃ y,l[j]? = some y:=⟨l[j]'(by have:=hllH.out;omega),List.getElem?_eq_getElem _⟩;obtain⟨d0,_⟩:=cells_TestReads (hlH.out.below hbt) hy;have hpr:prevT l (j+1)=some y.test:=by rw[prevT,if_neg (by omega),show j+1-1=j from rfl,hy];rfl
          rw[hpr,Option.map_some]at hck;clear hpr q1 q2;obtain⟨yt,hyt⟩:∃ t,y.test=t:=⟨_,rfl⟩;rw[hyt]at d0 hck;obtain⟨hyH,hytH⟩:=hq2 hy (Lib.hid hyt);clear hy hyt
          cases hle:sle te yt
          ·have hle':(Op.bytesLess te.toList yt.toList||te.toList==yt.toList)=false:=hle;rw[hle,if_neg (by decide)]at hck;have R:∀ nq,ReadsRel l c w (.int .i64 (j+1+1)) (w4.drewN nq):=by
            refine fun nq=>⟨j+1+1,hkl2H.out,by go_num,?_,bel_drewN hbt nq⟩;rw[hpnH.out];exact hck
           obtain⟨hckH,hleH,RH,hbwH,hbtH⟩:=hqb hck hle R hbw (Lib.hid hbt);clear hck hle R hbw hbt;go_wp2_with fail
           go_quiet (fail)
           go_wp2;refine⟨?rel,?measure⟩
           case measure=>(simp[intOf];omega)
           case rel=>first | exact(RH.out _) | exact⟨rfl,(RH.out _)⟩
          ·have hle':(Op.bytesLess te.toList yt.toList||te.toList==yt.toList)=true:=hle;rw[hle,if_pos rfl]at hck;subst hck;obtain⟨hleH,hbwH,hbtH⟩:=hq2 hle (hq2 hbw (Lib.hid hbt));clear hle hbw hbt;go_wp2_with fail
           go_quiet (fail)
           go_wp2;go_ret;exact⟨rfl,bel_drewN hbtH.out _⟩
        ·have hre:recErr ⟨te,⟨PA,Pn,Pc,Pl⟩,⟨QA,Qn,Qc,Ql⟩⟩=12:=by unfold recErr;(rw[if_pos hb1H.out,if_pos ⟨hP1,hQ1⟩,if_pos he1H.out,if_pos he2H.out,if_pos];unfold clashB;exact hclH.out)
         have hck:=hckH.out;rw[hre,if_neg (by decide)]at hck;subst hck;clear hckH hre;clear q0 q1 q2;obtain⟨hbwH,hbtH⟩:=hq2 hbw (Lib.hid hbt);clear hbw hbt;go_wp2;go_ret;exact⟨rfl,hbtH.out⟩
       ·have z2':(e2 != 0)=true:=by simpa using z2
        have hz2:¬ pathsErr none Ql=0:=by rw[he2H.out];exact z2
        have hre:recErr ⟨te,⟨PA,Pn,Pc,Pl⟩,⟨QA,Qn,Qc,Ql⟩⟩=e2:=by unfold recErr;(rw[if_pos hb1H.out,if_pos ⟨hP1,hQ1⟩,if_pos he1H.out,if_neg hz2];exact he2H.out)
        have hck:=hckH.out;rw[hre,if_neg z2]at hck;subst hck;clear hckH hre;clear q0 q1 q2 z2 hz2;have hbt:=hbaH.out.trans (hbw.mono hbas);obtain⟨hbwH,hbtH⟩:=hq2 hbw (Lib.hid hbt);clear hbw hbt;go_wp2;go_ret;exact⟨rfl,hbtH.out⟩
      ·have z1':(e1 != 0)=true:=by simpa using z1
       have hz1:¬ pathsErr none Pl=0:=by rw[he1H.out];exact z1
       have hre:recErr ⟨te,⟨PA,Pn,Pc,Pl⟩,⟨QA,Qn,Qc,Ql⟩⟩=e1:=by unfold recErr;(rw[if_pos hb1H.out,if_pos ⟨hP1,hQ1⟩,if_neg hz1];exact he1H.out)
       have hck:=hckH.out;rw[hre,if_neg z1]at hck;subst hck;clear hckH hre;clear q0 q1 q2 z1 hz1;go_wp2;go_ret;exact⟨rfl,hbaH.out.trans (hbwH.out.mono hbas)⟩
     ·have hre:recErr ⟨te,⟨PA,Pn,Pc,Pl⟩,⟨QA,Qn,Qc,Ql⟩⟩=2:=by unfold recErr;rw[if_pos hb1H.out,if_neg (fun h=>hQ1 h.2)]
      have hck:=hckH.out;rw[hre,if_neg (by decide)]at hck;subst hck;clear hckH hre;have hQ2:1000<Qn:=by omega
      clear hQ1;go_wp2;go_ret;exact⟨rfl,hbaH.out.trans (hbwH.out.mono hbas)⟩
    ·have hre:recErr ⟨te,⟨PA,Pn,Pc,Pl⟩,⟨QA,Qn,Qc,Ql⟩⟩=2:=by unfold recErr;rw[if_pos hb1H.out,if_neg (fun h=>hP1 h.1)]
     have hck:=hckH.out;rw[hre,if_neg (by decide)]at hck;subst hck;clear hckH hre;have hP2:1000<Pn:=by omega
     clear hP1;go_wp2;go_ret;exact⟨rfl,hbaH.out.trans (hbwH.out.mono hbas)⟩
  ·have e:l.drop k = []:=List.drop_eq_nil_of_le (by have:=hllH.out;omega);rw[e]at hck;have hc0:0=c:=by rw[← hck];unfold readsErr;rfl
   obtain⟨hckH,hbH,eH,hc0H⟩:=hq2 hck (hq2 hb (hq2 e (Lib.hid hc0)));clear hck hb e hc0;go_wp2;go_ret;exact⟨ret1_int hc0H.out,hbH.out⟩
theorem creads_any (A:Option Addr) (len cap:Nat) (l:List TestReads) (w:World) (hm:MaxLenAt w) (hl:SlAt RTestReads w A len l) (c:Int) (hF:readsF l=c) :
  Calls Tryz.prog 23 #[.slice A len cap] w fun e w'=>e = .returned (.int .i64 c)∧Below w.heap.size w w':=by
 unfold readsF at hF;rw[hl.1]at hF
 by_cases h:len≤300
 ·rw[if_pos h]at hF;exact creads_ok A len cap l w hm h hl c hF
 ·rw[if_neg h]at hF;subst hF;clear hl;go_enter Tryz.func23,Tryz.ntmps23;go_wp2;go_ret;exact⟨rfl,Below.refl _ _⟩
end Go.Proofs.YtdiaabeollcjaaaGreatDoor.C10
namespace Go.Proofs.YtdiaabeollcjaaaGreatDoor.C10
open Go.RowKit Go.Maps
theorem pathsErr_all:∀ (l:List ByteArray) (p:Option ByteArray),pathsErr p l=0→∀ s∈l,pathB s=true
 | [],p,_,s,hs=>by cases hs
 | x::r,p,h,s,hs=>by
  rw[pathsErr]at h
  by_cases hb:pathB x=true
  ·rw[if_pos hb]at h
   split at h
   ·cases h
   ·rcases List.mem_cons.1 hs with rfl | hs
    ·exact hb
    ·exact pathsErr_all r _ h s hs
  ·rw[if_neg hb]at h;cases h
theorem recErr_ok {x:TestReads} (h:recErr x=0):pathB x.test=true∧x.paths.n≤1000∧x.looked.n≤1000∧pathsErr none x.paths.l=0∧pathsErr none x.looked.l=0:=by
 unfold recErr at h
 split at h
 ·rename_i h1
  split at h
  ·rename_i h2
   split at h
   ·rename_i h3
    split at h
    ·rename_i h4
     exact⟨h1,h2.1,h2.2,h3,h4⟩
    ·rename_i h4;exact absurd h h4
   ·rename_i h3;exact absurd h h3
  ·cases h
 ·cases h
theorem readsErr_ok:∀ (l:List TestReads) (p:Option ByteArray),readsErr p l=0→∀ x∈l,recErr x=0
 | [],p,_,x,hx=>by cases hx
 | y::r,p,h,x,hx=>by
  rw[readsErr]at h
  by_cases hb:recErr y=0
  ·rw[if_pos hb]at h
   split at h
   ·cases h
   ·rcases List.mem_cons.1 hx with rfl | hx
    ·exact hb
    ·exact readsErr_ok r _ h x hx
  ·rw[if_neg hb]at h;exact absurd h hb
theorem readsF_ok {l:List TestReads} (h:readsF l=0):l.length≤300∧∀ x∈l,recErr x=0:=by
 unfold readsF at h
 split at h
 ·rename_i hl;exact⟨hl,readsErr_ok l none h⟩
 ·cases h
def pickT (p:TestReads→Bool) (l:List TestReads):List ByteArray:=(l.filter p).map (·.test)
theorem pickT_snoc (p:TestReads→Bool) (l:List TestReads) (x:TestReads):pickT p (l ++ [x])=if p x=true then pickT p l ++ [x.test] else pickT p l:=by
 unfold pickT;rw[List.filter_append,List.map_append]
 by_cases h:p x=true
 ·simp[h]
 ·simp[h]
theorem pickT_len (p:TestReads→Bool) (l:List TestReads):(pickT p l).length≤l.length:=by
 unfold pickT;rw[List.length_map];exact List.length_filter_le _ _
def affP (O N V:List ByteArray) (x:TestReads):Bool:=affB O N V x.paths.l x.looked.l
def affF (l:List TestReads) (c:List TreeChange):List ByteArray × Int :=
 if readsF l=0 then (if chF c=0 then (pickT (affP (oldL c) (newL c) (overL c)) l,0) else ([],chF c)) else ([],readsF l)
def AffAns (a:List ByteArray × Int) (w0:World) (e:Ending) (w':World):Prop :=
 ∃ (A:Option Addr) (m cap:Nat),e = .returned (.tuple #[.slice A m cap,.int .i64 a.2])∧SlAt RStr w' A m a.1∧(m≤300∧(A=none→cap=0))∧Below w0.heap.size w0 w'
theorem slAt_nilS (w:World):SlAt RStr w none 0 []:=⟨rfl,fun h=>by omega,fun x hx=>by cases hx⟩
theorem own_none_cap {α:Type} {R:Rd α} {e:TypeId} {w:World} {base:Nat} {l:List α} {A:Option Addr} {n cap:Nat} (h:Own R e w base (.slice A n cap) l):A=none→cap=0:=by
 intro hA
 rcases h.1.2 with ⟨hv,_⟩ | ⟨g,cap',cur,hv,_⟩
 ·injection hv with _ _ h3
 ·injection hv with h1 _ _;rw[hA]at h1;cases h1
def AffRel (p:TestReads→Bool) (l:List TestReads) (W6:World) (v i:Value) (wr:World):Prop :=
 ∃ (k n cap:Nat) (A:Option Addr),k≤l.length∧i = .int .i64 k∧v = .slice A n cap∧Own RStr 9 wr W6.heap.size v (pickT p (l.take k))∧Below W6.heap.size W6 wr
theorem affected_any (A:Option Addr) (len cap:Nat) (l:List TestReads) (B:Option Addr) (m mc:Nat) (ch:List TreeChange) (w:World) (hm:MaxLenAt w) (hl:SlAt RTestReads w A len l) (hc:SlAt RTreeChange w B m ch) (a:List ByteArray × Int) (ha:affF l ch=a) :
  Calls Tryz.prog 8 #[.slice A len cap,.slice B m mc] w (AffAns a w):=by
 have hll:=hl.1;unfold affF at ha;obtain⟨f,hf⟩:∃ f,readsF l=f:=⟨_,rfl⟩;obtain⟨g,hg⟩:∃ f,chF ch=f:=⟨_,rfl⟩;rw[hf,hg]at ha
 by_cases hf0:f=0
 ·subst hf0;rw[if_pos rfl]at ha;obtain⟨hlen,hrec⟩:=readsF_ok hf
  by_cases hg0:g=0
  ·subst hg0;rw[if_pos rfl]at ha;obtain⟨p,hp⟩:∃ p,affP (oldL ch) (newL ch) (overL ch)=p:=⟨_,rfl⟩;rw[hp]at ha;subst ha;obtain⟨hmH,hlH,hcH,hllH,hfH,hgH,hrecH,hpH⟩:=hq2 hm (hq2 hl (hq2 hc (hqb hll hf hg hrec (Lib.hid hp))));clear hm hl hc hll hf hg hrec hp;go_enter Tryz.func8,Tryz.ntmps8;go_wp2_with fail;refine(creads_any A len cap l _ hmH.out hlH.out 0 hfH.out).mono ?_;rintro e w1 ⟨rfl,hw1⟩;have hb1:=hw1;obtain⟨hw1H,hb1H⟩:=hq2 hw1 (Lib.hid hb1);clear hw1 hb1;go_wp2_with fail;refine(chgOf_any B m mc ch _ (hmH.out.below hb1H.out) (hcH.out.below hb1H.out) 0 hgH.out).mono ?_;rintro e w2 ⟨b0,b1,b2,c0,c1,c2,rfl,ht,hw2⟩;obtain⟨t0,t1,t2⟩:=ht rfl;have hb2:=hb1H.out.trans (hw2.mono hb1H.out.size);obtain⟨W6,hW6⟩:∃ W,w2.alloc (.cells #[.map (some b0),.map (some b1),.map (some b2)] 76)=W:=⟨_,rfl⟩;have hb6:Below w.heap.size w W6:=by rw[← hW6];exact hb2.alloc hb2.size _
   have u0:TMap KB valB W6 b0 (fL (oldL ch)) c0:=by rw[← hW6];exact t0.alloc _
   have u1:TMap KB valB W6 b1 (fL (newL ch)) c1:=by rw[← hW6];exact t1.alloc _
   have u2:TMap KB valB W6 b2 (fL (overL ch)) c2:=by rw[← hW6];exact t2.alloc _
   have v0:W6.cell? ⟨w2.heap.size,0,none⟩=some (.map (some b0)):=by rw[← hW6];exact cell_new w2 _ _ 0
   have v1:W6.cell? ⟨w2.heap.size,1,none⟩=some (.map (some b1)):=by rw[← hW6];exact cell_new w2 _ _ 1
   have v2:W6.cell? ⟨w2.heap.size,2,none⟩=some (.map (some b2)):=by rw[← hW6];exact cell_new w2 _ _ 2
   clear ht t0 t1 t2 hw2 hb2;obtain⟨hb6H,u0H,u1H,u2H,v0H,v1H,v2H,hW6H⟩:=hq2 hb6 (hq2 u0 (hq2 u1 (hqb u2 v0 v1 v2 (Lib.hid hW6))));clear hb6 u0 u1 u2 v0 v1 v2 hW6;go_wp2_with fail;rw[hW6H.out]
   go_loopw [9,27] (fun v i wr=>AffRel p l W6 v i wr) (fun _ i _=>len-(intOf i).toNat)
   case atStart=>exact⟨0,0,0,none,Nat.zero_le _,rfl,rfl,Own.nil _ _,Below.refl _ _⟩
   case round =>
    obtain⟨k,n,cap2,A2,hk,rfl,rfl,hown,hbk⟩:=hrel;have hkl:k≤len:=by have:=hllH.out;omega
    have hb:Below w.heap.size w wr:=hb6H.out.trans (hbk.mono hb6H.out.size);have hbs:=hb.size;have hbks:=hbk.size;have hn:=hown.len;have hpl:=pickT_len p (l.take k);rw[hn,List.length_take]at hpl;have hn2:n≤300:=by omega
    clear hpl
    by_cases hlt:k<len
    ·obtain⟨b0',off,hA,_⟩:=hlH.out.2.1 (by omega);subst hA;obtain⟨x,hx⟩:∃ x,l[k]? = some x:=⟨l[k]'(by have:=hllH.out;omega),List.getElem?_eq_getElem _⟩;obtain⟨x0,x1,x2⟩:=cells_TestReads (hlH.out.below hb) hx;obtain⟨o0,oP,oQ⟩:=hlH.out.2.2 x (List.mem_of_getElem? hx);obtain⟨_,hPn,hQn,_,hQe⟩:=recErr_ok (hrecH.out x (List.mem_of_getElem? hx));have htk:l.take (k+1)=l.take k ++ [x]:=by rw[List.take_add_one,hx];rfl
     have hsn:=pickT_snoc p (l.take k) x;rw[← htk]at hsn;have hkl2:k+1≤l.length:=by have:=hllH.out;omega
     obtain⟨t,ht⟩:∃ t,p x=t:=⟨_,rfl⟩;rw[ht]at hsn;rw[← hpH.out]at ht;obtain⟨te,⟨PA,Pn,Pc,Pl⟩,⟨QA,Qn,Qc,Ql⟩⟩:=x;simp only at x0 x1 x2 hsn o0 hPn hQn hQe;have o0:te.size≤maxLen:=o0;have oP:SlAt RStr w PA Pn Pl:=oP.1;have oQ:SlAt RStr w QA Qn Ql:=oQ.1;have ht:affB (oldL ch) (newL ch) (overL ch) Pl Ql=t:=ht;have hQz:∀ s∈Ql,s.size≤900000:=fun s hs=>by have:=pathB_size (pathsErr_all Ql none hQe s hs);omega
     have hba:=hb.alloc hbs (.cells #[.string te,.slice PA Pn Pc,.slice QA Qn Qc] 36);have hbka:=hbk.alloc hbks (.cells #[.string te,.slice PA Pn Pc,.slice QA Qn Qc] 36);have y0:=(hbka.cell (cell?_lt v0H.out)).trans v0H.out;have y1:=(hbka.cell (cell?_lt v1H.out)).trans v1H.out;have y2:=(hbka.cell (cell?_lt v2H.out)).trans v2H.out;have howna:=hown.alloc (.cells #[.string te,.slice PA Pn Pc,.slice QA Qn Qc] 36);clear hQe htk hown hn;obtain⟨hxH,hbH,hbaH,hbkH,hbkaH,hownaH,hsnH,o0H,oPH,oQH,htH,hQzH,hkl2H⟩:=hqb hx hb hba hbk (hqc hbka howna hsn o0 oP oQ ht hQz (Lib.hid hkl2));clear hx hb hba hbk hbka howna hsn o0 oP oQ ht hQz hkl2;go_wp2_with fail;refine(affects_any te PA Pn Pc Pl QA Qn Qc Ql b0 b1 b2 c0 c1 c2 _ _ _ _ (u0H.out.below hbkaH.out u0H.out.lt) (u1H.out.below hbkaH.out u1H.out.lt) (u2H.out.below hbkaH.out u2H.out.lt) (oPH.out.below hbaH.out) (oQH.out.below hbaH.out) hPn hQn hQzH.out t htH.out).mono ?_;rintro e w7 ⟨rfl,hw7⟩;obtain⟨q0,_,_⟩:=three_new hw7;have hb7:=hbkaH.out.trans (hw7.mono hbkaH.out.size);have hown7:=hownaH.out.below hw7;have hs7:=hb7.size;have hn7:=hown7.len;clear hw7 x0 x1 x2 y0 y1 y2;obtain⟨hb7H,hown7H⟩:=hq2 hb7 (Lib.hid hown7);clear hb7 hown7
     cases t
     ·have hsn:=hsnH.out;rw[if_neg (by simp)]at hsn;have R:AffRel p l W6 (.slice A2 n cap2) (.int .i64 (k+1)) w7:=⟨k+1,n,cap2,A2,hkl2H.out,by go_num,rfl,by rw[hsn];exact hown7H.out,hb7H.out⟩;clear hsn hsnH;have RH:=Lib.hid R;clear R;go_wp2;refine⟨?rel,?measure⟩
      case measure=>(simp[intOf];omega)
      case rel=>first | exact RH.out | exact⟨rfl,RH.out⟩
     ·have hsn:=hsnH.out;rw[if_pos rfl]at hsn;clear hsnH;have hsnH:=Lib.hid hsn;clear hsn;go_wp2_with (at_builtin;go_loud (refine wpList_app rfl (.tmp 34) (.tmp 37) 24 rfl Tryz.underlying24 elem_Str (by decide) rfl (hown7H.out.alloc _) (some ⟨w7.heap.size,0,none⟩) 1 1 [te] rfl (slAt_new _ _ _ o0H.out) ?nn ?ok ?c1 ?c2 ?c3 (n+1) ?c4 ?_))
      case nn=>intro h;cases h
      case ok=>exact fun _ _ _ _ h=>h
      case c1=>rw[hn7];simp[maxLen] <;> omega
      case c2=>rw[hn7];omega
      case c3=>simp <;> omega
      case c4=>omega
      intro A' c' w8 hown8 hg8 hat8 hb8;have R:AffRel p l W6 (.slice A' (n+1) c') (.int .i64 (k+1)) w8:=by
       refine⟨k+1,n+1,c',A',hkl2H.out,by go_num,rfl,?_,(hb7H.out.alloc hs7 _).trans hb8⟩;rw[hsnH.out];exact hown8
      clear hg8 hat8 hb8 hown8;have RH:=Lib.hid R;clear R;go_wp2;refine⟨?rel,?measure⟩
      case measure=>(simp[intOf];omega)
      case rel=>first | exact RH.out | exact⟨rfl,RH.out⟩
    ·have e:l.take k=l:=List.take_of_length_le (by have:=hllH.out;omega);rw[e]at hown;have hsl:=hown.slAt;have hnc:=own_none_cap hown;clear hown hn hbk;obtain⟨hbH,eH,hslH⟩:=hq2 hb (hq2 e (Lib.hid hsl));clear hb e hsl;go_wp2
     go_ret2
     exact⟨A2,n,cap2,rfl,hslH.out,⟨hn2,hnc⟩,hbH.out⟩
  ·rw[if_neg hg0]at ha;subst ha;have hg1:(g != 0)=true:=by simpa using hg0
   clear hg0;obtain⟨hmH,hlH,hcH,hllH,hfH,hgH,hrecH⟩:=hq2 hm (hq2 hl (hqb hc hll hf hg (Lib.hid hrec)));clear hm hl hc hll hf hg hrec;go_enter Tryz.func8,Tryz.ntmps8;go_wp2_with fail;refine(creads_any A len cap l _ hmH.out hlH.out 0 hfH.out).mono ?_;rintro e w1 ⟨rfl,hw1⟩;have hw1H:=Lib.hid hw1;clear hw1;go_wp2_with fail;refine(chgOf_any B m mc ch _ (hmH.out.below hw1H.out) (hcH.out.below hw1H.out) g hgH.out).mono ?_;rintro e w2 ⟨b0,b1,b2,c0,c1,c2,rfl,ht,hw2⟩;have hb2:=hw1H.out.trans (hw2.mono hw1H.out.size);have hb3:=hb2.alloc hb2.size (.cells #[.map (some b0),.map (some b1),.map (some b2)] 76);clear ht hw2;obtain⟨hb2H,hb3H⟩:=hq2 hb2 (Lib.hid hb3);clear hb2 hb3;go_wp2
   go_ret2
   exact⟨none,0,0,rfl,slAt_nilS _,⟨by omega,fun _=>rfl⟩,hb3H.out⟩
 ·rw[if_neg hf0]at ha;subst ha;have hf1:(f != 0)=true:=by simpa using hf0
  clear hf0;obtain⟨hmH,hlH,hcH,hllH,hfH,hgH⟩:=hq2 hm (hqb hl hc hll hf (Lib.hid hg));clear hm hl hc hll hf hg;go_enter Tryz.func8,Tryz.ntmps8;go_wp2_with fail;refine(creads_any A len cap l _ hmH.out hlH.out f hfH.out).mono ?_;rintro e w1 ⟨rfl,hw1⟩;have hw1H:=Lib.hid hw1;clear hw1;go_wp2
  go_ret2
  exact⟨none,0,0,rfl,slAt_nilS _,⟨by omega,fun _=>rfl⟩,hw1H.out⟩
end Go.Proofs.YtdiaabeollcjaaaGreatDoor.C10