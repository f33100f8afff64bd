/-
 Several texts of mine as one, without what is not wanted here: XCgC, XElX, XAbove, XPtX, XSearch.
-/
import Derived.Test.YtdiaabeollcjaaaGreatDoorTlPC10
import Derived.Laws.BytesArg
import Derived.Shelf.Spec.SearchS
set_option linter.unusedVariables false
set_option linter.unusedSimpArgs false
set_option maxRecDepth 100000
set_option maxHeartbeats 8000000
namespace Go.Proofs.YtdiaabeollcjaaaGreatDoor.C10
open Go.ChangeShapes Go.WideShapes Go.Deep Go.RowKit Go.Lib Go.Maps
def kindP:Option PF→Option PF→Int
 | none,_=>1
 | some _,none=>2
 | some x,some y=>if x.bs≠y.bs then 3 else if x.run≠y.run then 4 else 0
def chOf (I J:Inp) (p:ByteArray):Option TreeChange:=if kindP (I p) (J p)=0 then none else some ⟨p,kindP (I p) (J p)⟩
def CgAns (l1 l2:List File) (w:World) (e:Ending) (w':World):Prop :=
 (∃ c:Int,c≠0∧¬ (FilesX l1∧FilesX l2)∧e = .returned (.tuple #[.slice none 0 0,.int .i64 c])∧Below w.heap.size w w') ∨
 ∃ A n cap L,e = .returned (.tuple #[.slice A n cap,.int .i64 0])∧FilesX l1∧FilesX l2∧Rising L∧(∀ p∈L,p.size≤maxLen)∧(∀ p,p.size≤maxLen→(p∈L↔p∈l1.map (·.path)++l2.map (·.path))) ∧
  Own RTreeChange 72 w' w.heap.size (.slice A n cap) (L.filterMap (chOf (inpF l1) (inpF l2)))∧Below w.heap.size w w'
theorem conv_gen {W:World} {A:Option Addr} {n c:Nat} {l:List UInt8} (h:(RSl RU8).ok W ⟨A,n,c,l⟩):(convert 56 9 (.slice A n c)).run Tryz.prog W = .ok (.string (bsOf l)) W:=by
 cases A with
 | none =>
  have h0:c=0:=h.2.2.2 rfl;have hn:n≤c:=h.2.1;have hl:l.length=n:=h.1.1;obtain rfl:l = []:=List.eq_nil_of_length_eq_zero (by omega);exact run_convert_bytes_nil (P:=Tryz.prog) (w:=W) 56 5 Tryz.underlying56 Tryz.underlying5 n c 9 Tryz.underlying9
 | some a =>
  rcases Nat.eq_zero_or_pos n with h0 | h0
  ·subst h0;obtain rfl:l = []:=List.eq_nil_of_length_eq_zero h.1.1;exact run_convert_bytes_back (P:=Tryz.prog) W 56 9 5 a c [] Tryz.underlying56 Tryz.underlying5 Tryz.underlying9 (fun j hj=>absurd hj (by simp))
  ·obtain⟨b,off,hA,_⟩:=h.1.2.1 h0;have hA:some a=some ⟨b,off,none⟩:=hA;injection hA with hA;subst hA;exact conv_str h.1
theorem elem_TC:Elem Tryz.prog 72 RTreeChange.size 24:=elem_of (z:=.agg #[.string ⟨#[]⟩,.int .i64 0]) (by kernel_rfl) (by decide)
def CgRel (I J:Inp) (S:List ByteArray) (w6:World) (v i:Value) (wr:World):Prop :=
 ∃ (k:Nat) (A:Option Addr) (n c:Nat),k≤S.length∧i = .int .i64 k∧v = .slice A n c∧Own RTreeChange 72 wr w6.heap.size (.slice A n c) ((S.take k).filterMap (chOf I J))∧Below w6.heap.size w6 wr
theorem changes_any (A1:Option Addr) (m1 c1:Nat) (l1:List File) (A2:Option Addr) (m2 c2:Nat) (l2:List File) (w:World) (hm:MaxLenAt w) (h1:(RSl RFile).ok w ⟨A1,m1,c1,l1⟩) (h2:(RSl RFile).ok w ⟨A2,m2,c2,l2⟩) :
  Calls Tryz.prog 7 #[.slice A1 m1 c1,.slice A2 m2 c2] w (CgAns l1 l2 w):=by
 obtain⟨Z,hZ⟩:∃ Z,CgAns l1 l2 w=Z:=⟨_,rfl⟩;have hZ':∀ e W,CgAns l1 l2 w e W→Z e W:=fun e W h=>by rw[← hZ];exact h
 rw[hZ];clear hZ;have R0:∀ (k:Int) W,k≠0→¬ (FilesX l1∧FilesX l2)→Below w.heap.size w W→Z (.returned (.tuple #[.slice none 0 0,.int .i64 k])) W:=fun k W hk hn h=>hZ' _ _ (.inl ⟨k,hk,hn,rfl,h⟩);have hc1:=checkFiles_x A1 m1 c1 l1 w hm h1.1;obtain⟨hZ'H,hmH,h1H,h2H,R0H,hc1H⟩:=hq2 hZ' (hqb hm h1 h2 R0 (Lib.hid hc1));clear hZ' hm h1 h2 R0 hc1;go_enter Tryz.func7,Tryz.ntmps7;go_wp2_with fail;refine hc1H.out.mono ?_;rintro e w1 ⟨z,rfl,hb1,hz⟩
 by_cases hzz:z=0
 ·have hx1:=hz.1 hzz;have hf1:=hx1.ok;subst hzz;clear hz;have hw1s:=hb1.size;have hc2:=checkFiles_x A2 m2 c2 l2 w1 (hmH.out.below hb1) (h2H.out.1.below hb1);obtain⟨hb1H,hf1H,hx1H,hc2H⟩:=hq2 hb1 (hq2 hf1 (hq2 hx1 (Lib.hid hc2)));clear hb1 hf1 hx1 hc2;go_wp2_with fail;refine hc2H.out.mono ?_;rintro e w2 ⟨z,rfl,hb2,hz⟩;have hb02:=hb1H.out.trans (hb2.mono hw1s)
  by_cases hzz:z=0
  ·have hx2:=hz.1 hzz;have hf2:=hx2.ok;subst hzz;clear hz;have hw2s:=hb02.size;have hp1:=byPath_any A1 m1 c1 l1 w2 (h1H.out.1.below hb02) hf1H.out;obtain⟨hb2H,hb02H,hf2H,hx2H,hp1H⟩:=hqb hb2 hb02 hf2 hx2 (Lib.hid hp1);clear hb2 hb02 hf2 hx2 hp1;go_wp2_with fail;refine hp1H.out.mono ?_;rintro e w3 ⟨cA,gA,rfl,hcA,hmA,hfA,hb3⟩;have hb03:=hb02H.out.trans (hb3.mono hw2s);have hw3s:=hb03.size;have hp2:=byPath_any A2 m2 c2 l2 w3 (h2H.out.1.below hb03) hf2H.out;obtain⟨hb3H,hb03H,hmAH,hfAH,hp2H⟩:=hqb hb3 hb03 hmA hfA (Lib.hid hp2);clear hb3 hb03 hmA hfA hp2;go_wp2_with fail;refine hp2H.out.mono ?_;rintro e w4 ⟨cB,gB,rfl,hcB,hmB,hfB,hb4⟩;have hb04:=hb03H.out.trans (hb4.mono hw3s);have hw4s:=hb04.size;have hA3:=hmAH.out.lt;have hmA4:=hmAH.out.below hb4 hA3;have hfA4:=hfAH.out.below (hb4.mono (Nat.le_of_lt hA3));obtain⟨w5,hw5⟩:∃ W,w4.alloc (.cells #[.slice A1 m1 c1,.slice A2 m2 c2] 27)=W:=⟨_,rfl⟩;have hb5:Below w4.heap.size w4 w5:=by rw[← hw5];exact(Below.refl _ _).alloc (Nat.le_refl _) _
   have hb05:=hb04.trans (hb5.mono hw4s);have hrow:SlAt (RSl RFile) w5 (some ⟨w4.heap.size,0,none⟩) 2 [⟨A1,m1,c1,l1⟩,⟨A2,m2,c2,l2⟩]:=by
    refine⟨rfl,fun _=>⟨_,_,rfl,fun i x hx j v hv=>?_⟩,fun x hx=>?_⟩
    ·have hj:j<1:=(List.getElem?_eq_some_iff.1 hv).1;obtain rfl:j=0:=by omega
     have hi:i<2:=(List.getElem?_eq_some_iff.1 hx).1;have hv:some (Value.slice x.A x.n x.cap)=some v:=hv;rw[← hv];show w5.cell? ⟨w4.heap.size,0+i*1+0,none⟩=_;rw[show 0+i*1+0=i by omega,← hw5];unfold World.cell?;rw[heap_alloc_new]
     match i,hi,hx with
     | 0,_,hx=>injection hx with hx;subst hx;rfl
     | 1,_,hx=>injection hx with hx;subst hx;rfl
    ·simp only[List.mem_cons,List.not_mem_nil,or_false]at hx
     rcases hx with rfl | rfl
     ·exact(RSl RFile).mono _ _ _ hb05 h1H.out
     ·exact(RSl RFile).mono _ _ _ hb05 h2H.out
   have hpt:ptsL [⟨A1,m1,c1,l1⟩,⟨A2,m2,c2,l2⟩]=l1.map (·.path)++l2.map (·.path):=by unfold ptsL;simp
   have hf1l:=hf1H.out.1;have hf2l:=hf2H.out.1;have hcall:=bpaths_any (some ⟨w4.heap.size,0,none⟩) 2 2 [⟨A1,m1,c1,l1⟩,⟨A2,m2,c2,l2⟩] w5 hrow (Nat.le_refl _) (fun d hd=>by
    simp only[List.mem_cons,List.not_mem_nil,or_false]at hd
    rcases hd with rfl | rfl
    ·exact hf1l
    ·exact hf2l) (by rw[hpt,List.length_append,List.length_map,List.length_map];omega)
   obtain⟨hb4H,hb04H,hmBH,hfBH,hmA4H,hfA4H,hb5H,hb05H,hrowH,hptH,hcallH⟩:=hq2 hb4 (hq2 hb04 (hqc hmB hfB hmA4 hfA4 hb5 hb05 hrow hpt (Lib.hid hcall)));clear hb4 hb04 hmB hfB hmA4 hfA4 hb5 hb05 hrow hpt hcall;go_wp2_with fail;refine hcallH.out.mono ?_;rintro e w6 ⟨A6,k6,c6,S,rfl,hown6,hri,hmem,hSl,hb6⟩;have hb5s:=hb5H.out.size;have hb06:=hb05H.out.trans (hb6.mono hb05H.out.size);have hlA:=hmA4H.out.lt;have hlB:=hmBH.out.lt;have hb46:=hb5H.out.trans (hb6.mono hb5s);have hmA6:=hmA4H.out.below hb46 hlA;have hmB6:=hmBH.out.below hb46 hlB;have hfA6:=hfA4H.out.below (hb46.mono (Nat.le_of_lt hlA));have hfB6:=hfBH.out.below (hb46.mono (Nat.le_of_lt hlB));have hm6:=hown6.len;rw[hptH.out]at hmem hSl;have hst:CgRel (inpF l1) (inpF l2) S w6 (.slice none 0 0) (.int .i64 0) w6:=⟨0,none,0,0,Nat.zero_le _,rfl,rfl,Own.nil _ _,Below.refl _ _⟩;have hk62:k6≤2000:=by rw[List.length_append,List.length_map,List.length_map]at hSl;omega
   clear hb46;obtain⟨hown6H,hriH,hmemH,hb6H,hb06H,hmA6H,hmB6H,hfA6H,hfB6H,hstH⟩:=hq2 hown6 (hqc hri hmem hb6 hb06 hmA6 hmB6 hfA6 hfB6 (Lib.hid hst));clear hown6 hri hmem hb6 hb06 hmA6 hmB6 hfA6 hfB6 hst;go_wp2_with fail
   go_loopw [10,37] (fun v i wr=>CgRel (inpF l1) (inpF l2) S w6 v i wr) (fun _ i _=>k6-(intOf i).toNat)
   case atStart=>exact hstH.out
   case round =>
    clear hstH;obtain⟨k,A,n,c,hk,rfl,rfl,hown,hb⟩:=hrel
    by_cases hlt:k<k6
    ·obtain⟨t,ht⟩:∃ t,S[k]? = some t:=⟨S[k]'(by omega),List.getElem?_eq_getElem _⟩;have hsl:=hown6H.out.slAt.below hb;obtain⟨b7,o7,hA7,_⟩:=hsl.2.1 (by omega);subst hA7;have cy:=cell_Str hsl ht;have htz:t.size≤maxLen:=hsl.2.2 t (List.mem_of_getElem? ht);have hmA:=hmA6H.out.lt;have hmB:=hmB6H.out.lt;obtain⟨vA,tA,hvA,hvA2⟩:∃ v b,((b=true∧gA t=some v)∨(b=false∧gA t=none∧v=fv0))∧((b=false∧inpF l1 t=none∧v=fv0)∨∃ y,inpF l1 t=some y∧b=true∧FileIn (AbS w2.heap.size) w6 t v y):=by
      rcases hfA6H.out t with ⟨a,b⟩ | ⟨v,y,a,b,c⟩
      ·exact⟨fv0,false,.inr ⟨rfl,a,rfl⟩,.inl ⟨rfl,b,rfl⟩⟩
      ·exact⟨v,true,.inl ⟨rfl,a⟩,.inr ⟨y,b,rfl,c⟩⟩
     obtain⟨vB,tB,hvB,hvB2⟩:∃ v b,((b=true∧gB t=some v)∨(b=false∧gB t=none∧v=fv0))∧((b=false∧inpF l2 t=none∧v=fv0)∨∃ y,inpF l2 t=some y∧b=true∧FileIn (AbS w3.heap.size) w6 t v y):=by
      rcases hfB6H.out t with ⟨a,b⟩ | ⟨v,y,a,b,c⟩
      ·exact⟨fv0,false,.inr ⟨rfl,a,rfl⟩,.inl ⟨rfl,b,rfl⟩⟩
      ·exact⟨v,true,.inl ⟨rfl,a⟩,.inr ⟨y,b,rfl,c⟩⟩
     have hlkA:∀ W,Below w6.heap.size w6 W→_:=fun W hW=>(lookF (hmA6H.out.below hW hmA) htz vA tA hvA).1;have hlkB:∀ W,Below w6.heap.size w6 W→_:=fun W hW=>(lookF (hmB6H.out.below hW hmB) htz vB tB hvB).1;obtain⟨pA,rA,aA,nA,cA2⟩:=vA;obtain⟨pB,rB,aB,nB,cB2⟩:=vB;have hbs:=hb.size;have hlk1:=hlkA wr hb;have hb1a:=hb.trans (((Below.refl wr.heap.size wr).alloc (Nat.le_refl _) (.cells #[.string pA,.bool rA,.slice aA nA cA2] 58)).mono hbs);have hlk2:=hlkB _ hb1a;simp only at hlk1 hlk2;obtain⟨hownH,hbH,hslH,htH,hvAH,hvA2H,hvBH,hvB2H,hlkAH,hlkBH,hb1aH⟩:=hq2 hown (hq2 hb (hqc hsl ht hvA hvA2 hvB hvB2 hlkA hlkB (Lib.hid hb1a)));clear hown hb hsl ht hvA hvA2 hvB hvB2 hlkA hlkB hb1a;have hk2000:k≤2000:=by omega
     have htk:S.take (k+1)=S.take k ++ [t]:=by rw[List.take_add_one,htH.out];rfl
     have hnl:n≤k:=by
      have h1:=hownH.out.len;have h2:=List.length_filterMap_le (chOf (inpF l1) (inpF l2)) (S.take k);rw[List.length_take]at h2;omega
     have hnlen:=hownH.out.len
     cases tA
     ·have hk1:chOf (inpF l1) (inpF l2) t=some ⟨t,1⟩:=by
       rcases hvA2H.out with ⟨_,h,_⟩ | ⟨y,_,h,_⟩
       ·unfold chOf;rw[h];rfl
       ·cases h
      go_wp2_with (at_builtin;go_loud (refine wpList_app rfl (.tmp 73) (.tmp 77) 39 rfl Tryz.underlying39 elem_TC (by decide) rfl (hownH.out.below ?bb) (some ⟨wr.heap.size+1+1,0,none⟩) 1 1 [⟨t,1⟩] rfl ?ok2 ?nn ?ok ?c1 ?c2 ?c3 (n+1) ?c4 ?_))
      case bb=>exact(((Below.refl _ _).alloc (Nat.le_refl _) _).alloc (by simp) _).alloc (by simp <;> omega) _
      case ok2 =>
       have:=slAt_new (R:=RTreeChange) ((wr.alloc (.cells #[.string pA,.bool rA,.slice aA nA cA2] 58)).alloc (.cells #[.string pB,.bool rB,.slice aB nB cB2] 58)) 72 (⟨t,1⟩:TreeChange) ⟨htz,⟨by show (-9223372036854775808:Int)≤1;omega,by show (1:Int)≤9223372036854775807;omega⟩⟩;simp only[World.size_alloc]at this;exact this
      case ok=>exact fun _ _ _ _ h=>h
      case c1=>unfold maxLen;omega
      case c2=>omega
      case c3=>omega
      intro A' c' w8 hown8 hg8 hat8 hb8;have hbF:=(hbH.out.trans (((((Below.refl wr.heap.size wr).alloc (Nat.le_refl _) (.cells #[.string pA,.bool rA,.slice aA nA cA2] 58)).alloc (by simp) (.cells #[.string pB,.bool rB,.slice aB nB cB2] 58)).alloc (by simp <;> omega) (.cells #[.string t,.int .i64 1] 72)).mono hbs)).trans hb8;have R:CgRel (inpF l1) (inpF l2) S w6 (.slice A' (n+1) c') (.int .i64 ((k:Int)+1)) w8:=by
       refine⟨k+1,A',n+1,c',by omega,by go_num,rfl,?_,hbF⟩;rw[htk,List.filterMap_append]
       simpa[hk1]using hown8
      clear hown8 hg8 hat8 hb8 hbF;have RH:=Lib.hid R;clear R;go_wp2;exact⟨RH.out,by simp[intOf];omega⟩
     ·cases tB
      ·have hk1:chOf (inpF l1) (inpF l2) t=some ⟨t,2⟩:=by
        rcases hvA2H.out with ⟨h,_⟩ | ⟨y,hA,_,_⟩
        ·cases h
        ·rcases hvB2H.out with ⟨_,h,_⟩ | ⟨y,_,h,_⟩
         ·unfold chOf;rw[hA,h];rfl
         ·cases h
       go_wp2_with (at_builtin;go_loud (refine wpList_app rfl (.tmp 73) (.tmp 77) 39 rfl Tryz.underlying39 elem_TC (by decide) rfl (hownH.out.below ?bb) (some ⟨wr.heap.size+1+1,0,none⟩) 1 1 [⟨t,2⟩] rfl ?ok2 ?nn ?ok ?c1 ?c2 ?c3 (n+1) ?c4 ?_))
       case bb=>exact(((Below.refl _ _).alloc (Nat.le_refl _) _).alloc (by simp) _).alloc (by simp <;> omega) _
       case ok2 =>
        have:=slAt_new (R:=RTreeChange) ((wr.alloc (.cells #[.string pA,.bool rA,.slice aA nA cA2] 58)).alloc (.cells #[.string pB,.bool rB,.slice aB nB cB2] 58)) 72 (⟨t,2⟩:TreeChange) ⟨htz,⟨by show (-9223372036854775808:Int)≤2;omega,by show (2:Int)≤9223372036854775807;omega⟩⟩;simp only[World.size_alloc]at this;exact this
       case ok=>exact fun _ _ _ _ h=>h
       case c1=>unfold maxLen;omega
       case c2=>omega
       case c3=>omega
       intro A' c' w8 hown8 hg8 hat8 hb8;have hbF:=(hbH.out.trans (((((Below.refl wr.heap.size wr).alloc (Nat.le_refl _) (.cells #[.string pA,.bool rA,.slice aA nA cA2] 58)).alloc (by simp) (.cells #[.string pB,.bool rB,.slice aB nB cB2] 58)).alloc (by simp <;> omega) (.cells #[.string t,.int .i64 2] 72)).mono hbs)).trans hb8;have R:CgRel (inpF l1) (inpF l2) S w6 (.slice A' (n+1) c') (.int .i64 ((k:Int)+1)) w8:=by
        refine⟨k+1,A',n+1,c',by omega,by go_num,rfl,?_,hbF⟩;rw[htk,List.filterMap_append]
        simpa[hk1]using hown8
       clear hown8 hg8 hat8 hb8 hbF;have RH:=Lib.hid R;clear R;go_wp2;exact⟨RH.out,by simp[intOf];omega⟩
      ·obtain⟨yA,hyA,_,hfA⟩:∃ y,inpF l1 t=some y∧true=true∧FileIn (AbS w2.heap.size) w6 t ⟨pA,rA,aA,nA,cA2⟩ y:=by
        rcases hvA2H.out with ⟨h,_⟩ | h
        ·cases h
        ·exact h
       obtain⟨yB,hyB,_,hfB⟩:∃ y,inpF l2 t=some y∧true=true∧FileIn (AbS w3.heap.size) w6 t ⟨pB,rB,aB,nB,cB2⟩ y:=by
        rcases hvB2H.out with ⟨h,_⟩ | h
        ·cases h
        ·exact h
       have hW:Below w6.heap.size w6 ((wr.alloc (.cells #[.string pA,.bool rA,.slice aA nA cA2] 58)).alloc (.cells #[.string pB,.bool rB,.slice aB nB cB2] 58)):=hbH.out.trans ((((Below.refl wr.heap.size wr).alloc (Nat.le_refl _) _).alloc (by simp) _).mono hbs);have hcA:=conv_gen (hfA.bts.kp (Kp.of_below hW)).1;have hcB:=conv_gen (hfB.bts.kp (Kp.of_below hW)).1;have hrA:rA=yA.run:=hfA.run;have hrB:rB=yB.run:=hfB.run;clear hfA hfB hW;obtain⟨uA,tA⟩:=yA;obtain⟨uB,tB⟩:=yB;simp only at hcA hcB hrA hrB;subst hrA hrB
       by_cases hbe:tA=tB
       ·rw[hbe]at hcA;have g1:((bsOf tB).toList==(bsOf tB).toList)=true:=by simp
        by_cases hre:rA=rB
        ·have hk1:chOf (inpF l1) (inpF l2) t=none:=by
          unfold chOf;rw[hyA,hyB];unfold kindP;simp[hbe,hre]
         have g2:(rA==rB)=true:=by simp[hre]
         have hbF:=hbH.out.trans ((((Below.refl wr.heap.size wr).alloc (Nat.le_refl _) (.cells #[.string pA,.bool rA,.slice aA nA cA2] 58)).alloc (by simp) (.cells #[.string pB,.bool rB,.slice aB nB cB2] 58)).mono hbs);have R:CgRel (inpF l1) (inpF l2) S w6 (.slice A n c) (.int .i64 ((k:Int)+1)) ((wr.alloc (.cells #[.string pA,.bool rA,.slice aA nA cA2] 58)).alloc (.cells #[.string pB,.bool rB,.slice aB nB cB2] 58)):=by
          refine⟨k+1,A,n,c,by omega,by go_num,rfl,?_,hbF⟩;rw[htk,List.filterMap_append];have:=hownH.out.below (((Below.refl wr.heap.size wr).alloc (Nat.le_refl _) (.cells #[.string pA,.bool rA,.slice aA nA cA2] 58)).alloc (by simp) (.cells #[.string pB,.bool rB,.slice aB nB cB2] 58))
          simpa[hk1]using this
         clear hbF hre;have RH:=Lib.hid R;clear R;go_wp2_with fail;exact⟨RH.out,by simp[intOf];omega⟩
        ·have hk1:chOf (inpF l1) (inpF l2) t=some ⟨t,4⟩:=by
          unfold chOf;rw[hyA,hyB];unfold kindP;simp[hbe,hre]
         have g2:(rA==rB)=false:=by simpa using hre
         go_wp2_with (at_builtin;go_loud (refine wpList_app rfl (.tmp 73) (.tmp 77) 39 rfl Tryz.underlying39 elem_TC (by decide) rfl (hownH.out.below ?bb) (some ⟨wr.heap.size+1+1,0,none⟩) 1 1 [⟨t,4⟩] rfl ?ok2 ?nn ?ok ?c1 ?c2 ?c3 (n+1) ?c4 ?_))
         case bb=>exact(((Below.refl _ _).alloc (Nat.le_refl _) _).alloc (by simp) _).alloc (by simp <;> omega) _
         case ok2 =>
          have:=slAt_new (R:=RTreeChange) ((wr.alloc (.cells #[.string pA,.bool rA,.slice aA nA cA2] 58)).alloc (.cells #[.string pB,.bool rB,.slice aB nB cB2] 58)) 72 (⟨t,4⟩:TreeChange) ⟨htz,⟨by show (-9223372036854775808:Int)≤4;omega,by show (4:Int)≤9223372036854775807;omega⟩⟩;simp only[World.size_alloc]at this;exact this
         case ok=>exact fun _ _ _ _ h=>h
         case c1=>unfold maxLen;omega
         case c2=>omega
         case c3=>omega
         intro A' c' w8 hown8 hg8 hat8 hb8;have hbF:=(hbH.out.trans (((((Below.refl wr.heap.size wr).alloc (Nat.le_refl _) (.cells #[.string pA,.bool rA,.slice aA nA cA2] 58)).alloc (by simp) (.cells #[.string pB,.bool rB,.slice aB nB cB2] 58)).alloc (by simp <;> omega) (.cells #[.string t,.int .i64 4] 72)).mono hbs)).trans hb8;have R:CgRel (inpF l1) (inpF l2) S w6 (.slice A' (n+1) c') (.int .i64 ((k:Int)+1)) w8:=by
          refine⟨k+1,A',n+1,c',by omega,by go_num,rfl,?_,hbF⟩;rw[htk,List.filterMap_append]
          simpa[hk1]using hown8
         clear hown8 hg8 hat8 hb8 hbF;have RH:=Lib.hid R;clear R;go_wp2;exact⟨RH.out,by simp[intOf];omega⟩
       ·have hk1:chOf (inpF l1) (inpF l2) t=some ⟨t,3⟩:=by
         unfold chOf;rw[hyA,hyB];unfold kindP;simp[hbe]
        have g1:=(Lib.bytes_beq_false_iff (bsOf tA) (bsOf tB)).2 (fun e=>hbe (by have:=congrArg (·.data.toList) e;simpa[data_bsOf]using this));go_wp2_with (at_builtin;go_loud (refine wpList_app rfl (.tmp 73) (.tmp 77) 39 rfl Tryz.underlying39 elem_TC (by decide) rfl (hownH.out.below ?bb) (some ⟨wr.heap.size+1+1,0,none⟩) 1 1 [⟨t,3⟩] rfl ?ok2 ?nn ?ok ?c1 ?c2 ?c3 (n+1) ?c4 ?_))
        case bb=>exact(((Below.refl _ _).alloc (Nat.le_refl _) _).alloc (by simp) _).alloc (by simp <;> omega) _
        case ok2 =>
         have:=slAt_new (R:=RTreeChange) ((wr.alloc (.cells #[.string pA,.bool rA,.slice aA nA cA2] 58)).alloc (.cells #[.string pB,.bool rB,.slice aB nB cB2] 58)) 72 (⟨t,3⟩:TreeChange) ⟨htz,⟨by show (-9223372036854775808:Int)≤3;omega,by show (3:Int)≤9223372036854775807;omega⟩⟩;simp only[World.size_alloc]at this;exact this
        case ok=>exact fun _ _ _ _ h=>h
        case c1=>unfold maxLen;omega
        case c2=>omega
        case c3=>omega
        intro A' c' w8 hown8 hg8 hat8 hb8;have hbF:=(hbH.out.trans (((((Below.refl wr.heap.size wr).alloc (Nat.le_refl _) (.cells #[.string pA,.bool rA,.slice aA nA cA2] 58)).alloc (by simp) (.cells #[.string pB,.bool rB,.slice aB nB cB2] 58)).alloc (by simp <;> omega) (.cells #[.string t,.int .i64 3] 72)).mono hbs)).trans hb8;have R:CgRel (inpF l1) (inpF l2) S w6 (.slice A' (n+1) c') (.int .i64 ((k:Int)+1)) w8:=by
         refine⟨k+1,A',n+1,c',by omega,by go_num,rfl,?_,hbF⟩;rw[htk,List.filterMap_append]
         simpa[hk1]using hown8
        clear hown8 hg8 hat8 hb8 hbF;have RH:=Lib.hid R;clear R;go_wp2;exact⟨RH.out,by simp[intOf];omega⟩
    ·obtain rfl:k=k6:=by omega
     rw[List.take_of_length_le (by omega)]at hown;have hw06:=hb06H.out.size;have hbF:=hb06H.out.trans (hb.mono hw06);have hoF:Own RTreeChange 72 wr w.heap.size (.slice A n c) (S.filterMap (chOf (inpF l1) (inpF l2))):=⟨ownsRow_base_a hown.1 hw06,hown.2⟩;have R:=hZ'H.out (.returned (.tuple #[.slice A n c,.int .i64 0])) wr (.inr ⟨A,n,c,S,rfl,hx1H.out,hx2H.out,hriH.out,hown6H.out.2,hmemH.out,hoF,hbF⟩);clear hbF hoF;obtain⟨hownH,hbH,RH⟩:=hq2 hown (hq2 hb (Lib.hid R));clear hown hb R;go_wp2_with fail;exact RH.out
  ·have hne:(z==0)=false:=by simpa using hzz
   have R:=R0H.out z w2 hzz (fun h=>hzz (hz.2 h.2)) hb02;clear hz;obtain⟨hb2H,hb02H,RH⟩:=hq2 hb2 (hq2 hb02 (Lib.hid R));clear hb2 hb02 R;go_wp2_with fail;exact RH.out
 ·have hne:(z==0)=false:=by simpa using hzz
  have R:=R0H.out z w1 hzz (fun h=>hzz (hz.2 h.1)) hb1;clear hz;obtain⟨hb1H,RH⟩:=hq2 hb1 (Lib.hid R);clear hb1 R;go_wp2_with fail;exact RH.out
end Go.Proofs.YtdiaabeollcjaaaGreatDoor.C10
namespace Go.Proofs.YtdiaabeollcjaaaGreatDoor.C10
open Go.RowKit
theorem elem_Str:Elem Tryz.prog 9 RStr.size 16:=elem_of (z:=.string ByteArray.empty) (by kernel_rfl) (by decide)
theorem res_cells {w wr:World} {v0 v1:Value} {T:TypeId} (hb:Below (w.alloc (.cells #[v0,v1] T)).heap.size (w.alloc (.cells #[v0,v1] T)) wr) :
  wr.cell? ⟨w.heap.size,0,none⟩=some v0∧wr.cell? ⟨w.heap.size,1,none⟩=some v1∧wr.frozen? ⟨w.heap.size,0,none⟩=false∧wr.frozen? ⟨w.heap.size,1,none⟩=false :=
 ⟨(hb.cell (by simp)).trans (by simp[go_sem]),(hb.cell (by simp)).trans (by simp[go_sem]),(hb.frozen (by simp)).trans (by simp only[World.frozen?,(MapKept.heap_alloc w (.cells #[v0,v1] T)).1];rfl),(hb.frozen (by simp)).trans (by simp only[World.frozen?,(MapKept.heap_alloc w (.cells #[v0,v1] T)).1];rfl)⟩
def aboveAt (s:ByteArray) (k:Nat):List ByteArray:=if h:k<s.size then (if s[k].toNat=47 then [s.extract 0 k] else []) else []
def aboveN (s:ByteArray):Nat→List ByteArray
 | 0=>[]
 | k+1=>aboveN s k++aboveAt s k
def aboveL (s:ByteArray):List ByteArray:=aboveN s s.size
theorem aboveAt_len (s:ByteArray) (k:Nat):(aboveAt s k).length≤1:=by
 unfold aboveAt
 split
 ·split <;> simp
 ·simp
theorem aboveN_len (s:ByteArray):∀ k,(aboveN s k).length≤k
 | 0=>Nat.le_refl _
 | k+1=>by
  have:=aboveN_len s k;have:=aboveAt_len s k;rw[aboveN,List.length_append];omega
def AbRel (s:ByteArray) (w0:World) (v i:Value) (wr:World):Prop :=
 ∃ (k n cap:Nat) (A:Option Addr),k≤s.size∧i = .int .i64 k∧v = .slice A n cap∧Own RStr 9 wr w0.heap.size v (aboveN s k)∧Below w0.heap.size w0 wr
theorem above_any (s:ByteArray) (w:World) (hs:s.size≤900000) :
  Calls Tryz.prog 45 #[.string s] w fun e w'=>∃ A n c,e = .returned (.slice A n c)∧SlAt RStr w' A n (aboveL s)∧n≤s.size∧Below w.heap.size w w':=by
 go_enter Tryz.func45,Tryz.ntmps45;go_wp2_with fail
 go_loopw [3,7] (fun v i wr=>AbRel s w v i wr) (fun _ i _=>s.size-(intOf i).toNat)
 case atStart=>exact⟨0,0,0,none,Nat.zero_le _,rfl,rfl,Own.nil _ _,Below.refl _ _⟩
 case round =>
  obtain⟨k,n,cap,A,hk,rfl,rfl,hown,hb⟩:=hrel;have hbs:=hb.size;have hn:=hown.len;have hnk:=aboveN_len s k;rw[hn]at hnk;obtain⟨hownH,hbH,hnH⟩:=hq2 hown (hq2 hb (Lib.hid hn));clear hown hb hn
  by_cases hlt:k<s.size
  ·have hat:aboveN s (k+1)=aboveN s k++(if s[k].toNat=47 then [s.extract 0 k] else []):=by rw[aboveN,aboveAt,dif_pos hlt]
   have hexz:(s.extract 0 k).size≤maxLen:=by simp only[ByteArray.size_extract];unfold maxLen;omega
   by_cases h47:s[k].toNat=47
   ·rw[if_pos h47]at hat;have h47':((s[k].toNat:Int)==47)=true:=by rw[h47];rfl
    obtain⟨hatH,hexzH⟩:=hq2 hat (Lib.hid hexz);clear hat hexz;go_wp2_with (at_builtin;go_loud (refine wpList_app rfl (.tmp 14) (.tmp 18) 24 rfl Tryz.underlying24 elem_Str (by decide) rfl (hownH.out.alloc _) (some ⟨wr.heap.size,0,none⟩) 1 1 [s.extract 0 k] rfl (slAt_new _ _ _ hexzH.out) ?nn ?ok ?c1 ?c2 ?c3 (n+1) ?c4 ?_))
    case nn=>intro h;cases h
    case ok=>exact fun _ _ _ _ h=>h
    case c1=>have:=hnH.out;simp[maxLen] <;> omega
    case c2=>have:=hnH.out;omega
    case c3=>simp <;> omega
    case c4=>have:=hnH.out;omega
    intro A' c' w7 hown7 hg7 hat7 hb7;have R:AbRel s w (.slice A' (n+1) c') (.int .i64 (k+1)) w7:=by
     refine⟨k+1,n+1,c',A',by omega,by go_num,rfl,?_,(hbH.out.alloc hbs _).trans hb7⟩;rw[hatH.out];exact hown7
    clear hg7 hat7 hb7 hown7;have RH:=Lib.hid R;clear R;go_wp2;refine⟨?rel,?measure⟩
    case measure=>(simp[intOf];omega)
    case rel=>first | exact RH.out | exact⟨rfl,RH.out⟩
   ·rw[if_neg h47,List.append_nil]at hat;have h47':((s[k].toNat:Int)==47)=false:=by simp;omega
    have R:AbRel s w (.slice A n cap) (.int .i64 (k+1)) wr:=⟨k+1,n,cap,A,by omega,by go_num,rfl,by rw[hat];exact hownH.out,hbH.out⟩;clear hat;have RH:=Lib.hid R;clear R;go_wp2;refine⟨?rel,?measure⟩
    case measure=>(simp[intOf];omega)
    case rel=>first | exact RH.out | exact⟨rfl,RH.out⟩
  ·obtain rfl:k=s.size:=by omega
   go_wp2;go_ret;exact⟨A,n,cap,rfl,hownH.out.slAt,hnk,hbH.out⟩
def pathsErr:Option ByteArray→List ByteArray→Int
 | _,[]=>0
 | p,s::r=>if pathB s=true then (if p.map (sle s ·)=some true then 8 else pathsErr (some s) r) else 3
def prevS (l:List ByteArray) (k:Nat):Option ByteArray:=if k=0 then none else l[k-1]?
def PathsRel (l:List ByteArray) (c:Int) (w0:World) (i:Value) (wr:World):Prop:=∃ k:Nat,k≤l.length∧i = .int .i64 k∧pathsErr (prevS l k) (l.drop k)=c∧Below w0.heap.size w0 wr
theorem paths_any (A:Option Addr) (len cap:Nat) (l:List ByteArray) (w:World) (hm:MaxLenAt w) (hlen:len≤100000) (hl:SlAt RStr w A len l) (c:Int) (hF:pathsErr none l=c) :
  Calls Tryz.prog 41 #[.slice A len cap] w fun e w'=>e = .returned (.int .i64 c)∧Below w.heap.size w w':=by
 have hsz:∀ x∈l,x.size<18446744073709551616:=fun x hx=>by have:x.size≤maxLen:=hl.2.2 x hx;unfold maxLen at this;omega
 have hll:=hl.1;obtain⟨hllH,hlH,hmH,hFH,hszH⟩:=hqb hll hl hm hF (Lib.hid hsz);clear hll hl hm hF hsz;go_enter Tryz.func41,Tryz.ntmps41;go_wp2_with fail
 go_loopw [7] (fun i wr=>PathsRel l c w i wr) (fun i _=>len-(intOf i).toNat)
 case atStart=>exact⟨0,Nat.zero_le _,rfl,hFH.out,Below.refl _ _⟩
 case round =>
  obtain⟨k,hk,rfl,hck,hb⟩:=hrel;have hkl:k≤len:=by have:=hllH.out;omega
  have hbs:=hb.size
  by_cases hlt:k<len
  ·obtain⟨b,off,hA,_⟩:=hlH.out.2.1 (by omega);subst hA;obtain⟨x,hx⟩:∃ x,l[k]? = some x:=⟨l[k]'(by have:=hllH.out;omega),List.getElem?_eq_getElem _⟩;have c0:=cell_Str (hlH.out.below hb) hx;have hkl2:k+1≤l.length:=by have:=hllH.out;omega
   have hpn:prevS l (k+1)=some x:=by rw[prevS,if_neg (by omega),show k+1-1=k from rfl,hx]
   have hxz:=hszH.out x (List.mem_of_getElem? hx);rw[drop_cons hx,pathsErr]at hck;obtain⟨b1,hb1⟩:∃ b,pathB x=b:=⟨_,rfl⟩;rw[hb1]at hck;obtain⟨hxH,hbH,hb1H,hpnH,hckH,hkl2H,hxzH⟩:=hq2 hx (hq2 hb (hqb hb1 hpn hck hkl2 (Lib.hid hxz)));clear hx hb hb1 hpn hck hkl2 hxz;go_wp2_with fail;refine(isPath_any x _ (hmH.out.below hbH.out) b1 hb1H.out).mono ?_;rintro e w1 ⟨rfl,hw1⟩;have hbw1:=hbH.out.trans (hw1.mono hbs);obtain⟨hw1H,hbw1H⟩:=hq2 hw1 (Lib.hid hbw1);clear hw1 hbw1;have hck:=hckH.out;clear hckH
   cases b1
   ·rw[if_neg (by simp)]at hck;subst hck;go_wp2;go_ret;exact⟨rfl,hbw1H.out⟩
   ·rw[if_pos rfl]at hck
    by_cases hk0:k=0
    ·subst hk0;rw[show prevS l 0=none from rfl,Option.map_none,if_neg (by decide)]at hck;have R:PathsRel l c w (.int .i64 1) w1:=⟨1,hkl2H.out,by go_num,by rw[show prevS l 1=_ from hpnH.out];exact hck,hbw1H.out⟩;obtain⟨RH,hckH⟩:=hq2 R (Lib.hid hck);clear R hck;go_wp2;refine⟨?rel,?measure⟩
     case measure=>(simp[intOf];omega)
     case rel=>first | exact RH.out | exact⟨rfl,RH.out⟩
    ·obtain⟨j,rfl⟩:∃ j,k=j+1:=⟨k-1,by omega⟩;obtain⟨y,hy⟩:∃ y,l[j]? = some y:=⟨l[j]'(by have:=hllH.out;omega),List.getElem?_eq_getElem _⟩;have d0:=cell_Str (hlH.out.below hbw1H.out) hy;have hpr:prevS l (j+1)=some y:=by rw[prevS,if_neg (by omega),show j+1-1=j from rfl,hy]
     rw[hpr,Option.map_some]at hck;clear hpr
     cases hle:sle x y
     ·have hle':(Op.bytesLess x.toList y.toList||x.toList==y.toList)=false:=hle;rw[hle,if_neg (by decide)]at hck;have R:PathsRel l c w (.int .i64 (j+1+1)) w1:=⟨j+1+1,hkl2H.out,by go_num,by rw[hpnH.out];exact hck,hbw1H.out⟩;obtain⟨RH,hleH,hckH,hyH⟩:=hq2 R (hq2 hle (hq2 hck (Lib.hid hy)));clear R hle hck hy;go_wp2;refine⟨?rel,?measure⟩
      case measure=>(simp[intOf];omega)
      case rel=>first | exact RH.out | exact⟨rfl,RH.out⟩
     ·have hle':(Op.bytesLess x.toList y.toList||x.toList==y.toList)=true:=hle;rw[hle,if_pos rfl]at hck;subst hck;obtain⟨hleH,hyH⟩:=hq2 hle (Lib.hid hy);clear hle hy;go_wp2;go_ret;exact⟨rfl,hbw1H.out⟩
  ·have e:l.drop k = []:=List.drop_eq_nil_of_le (by have:=hllH.out;omega);rw[e]at hck;have hc0:0=c:=by rw[← hck];unfold pathsErr;rfl
   obtain⟨hckH,hbH,eH,hc0H⟩:=hq2 hck (hq2 hb (hq2 e (Lib.hid hc0)));clear hck hb e hc0;go_wp2;go_ret;exact⟨ret1_int hc0H.out,hbH.out⟩
end Go.Proofs.YtdiaabeollcjaaaGreatDoor.C10
namespace Go.Proofs.YtdiaabeollcjaaaGreatDoor.C10
open Go.RowKit Go.Lib
theorem sle_false {a b:ByteArray} (h:sle a b=false):cmpS b a = -1:=by
 rw[sle_cmp,decide_eq_false_iff_not]at h;have:=cmpS_range a b;rw[cmpS_swap];omega
theorem paths_rise:∀ (l:List ByteArray) (p:Option ByteArray),pathsErr p l=0→l.Pairwise (fun a b=>cmpS a b = -1)∧∀ q,p=some q→∀ a∈l,cmpS q a = -1
 | [],p,_=>⟨List.Pairwise.nil,fun q _ a ha=>by cases ha⟩
 | s::r,p,h=>by
  rw[pathsErr]at h
  by_cases hb:pathB s=true
  ·rw[if_pos hb]at h
   by_cases hp:p.map (sle s ·)=some true
   ·rw[if_pos hp]at h;cases h
   ·rw[if_neg hp]at h;obtain⟨h1,h2⟩:=paths_rise r _ h;refine⟨List.pairwise_cons.2 ⟨h2 s rfl,h1⟩,fun q hq a ha=>?_⟩;subst hq;have hs:cmpS q s = -1:=by
     cases hs:sle s q
     ·exact sle_false hs
     ·rw[Option.map_some,hs]at hp;exact absurd rfl hp
    rcases List.mem_cons.1 ha with rfl | ha
    ·exact hs
    ·exact cmpS_trans hs (h2 s rfl a ha)
  ·rw[if_neg hb]at h;cases h
theorem thr (f:Nat→Bool) (hf:∀ t,f (t+1)=true→f t=true):∀ n,f n=false→∃ k,k≤n∧(∀ t,t<k→f t=true)∧∀ t,k≤t→f t=false
 | 0,h=>⟨0,Nat.le_refl _,fun t ht=>by omega,fun t _=>by
  induction t with
  | zero=>exact h
  | succ t ih=>cases e:f (t+1) with
   | false=>rfl
   | true=>have ih:=ih (Nat.zero_le _);rw[hf t e]at ih;cases ih⟩
 | n+1,h=>by
  cases e:f n with
  | false =>
   obtain⟨k,hk,h1,h2⟩:=thr f hf n e;exact⟨k,by omega,h1,h2⟩
  | true =>
   refine⟨n+1,Nat.le_refl _,fun t ht=>?_,fun t ht=>?_⟩
   ·have:∀ d,d≤n→f (n-d)=true:=by
     intro d
     induction d with
     | zero=>intro _;exact e
     | succ d ih =>
      intro hd;have:=ih (by omega);exact hf _ (by rw[show n-(d+1)+1=n-d by omega];exact this)
    have h3:=this (n-t) (by omega)
    rwa [show n-(n-t)=t by omega]at h3
   ·have:∀ d,f (n+1+d)=false:=by
     intro d
     induction d with
     | zero=>exact h
     | succ d ih=>cases e2:f (n+1+(d+1)) with
      | false=>rfl
      | true=>rw[show n+1+(d+1)=n+1+d+1 by omega]at e2;rw[hf _ e2]at ih;cases ih
    have h3:=this (t-(n+1))
    rwa [show n+1+(t-(n+1))=t by omega]at h3
theorem cmpS_self (a:ByteArray):cmpS a a=0:=(cmpS_zero a a).2 rfl
def inL (l:List ByteArray) (x:ByteArray):Bool:=l.any (fun y=>decide (y=x))
theorem inL_iff {l:List ByteArray} {x:ByteArray}:inL l x=true↔x∈l:=by
 unfold inL;rw[List.any_eq_true];exact⟨fun ⟨y,hy,h⟩=>by rw[decide_eq_true_iff]at h;rwa [← h],fun h=>⟨x,h,decide_eq_true rfl⟩⟩
theorem search_any (A:Option Addr) (n c:Nat) (l:List ByteArray) (x:ByteArray) (w:World) (hn:n≤100000) (hl:SlAt RStr w A n l) (hr:l.Pairwise (fun a b=>cmpS a b = -1)) :
  Calls Tryz.prog 43 #[.slice A n c,.string x] w fun e w'=>∃ i:Int,e = .returned (.tuple #[.int .i64 i,.bool (inL l x)])∧Below w.heap.size w w':=by
 by_cases h0:n=0
 ·subst h0;obtain rfl:l = []:=List.eq_nil_of_length_eq_zero hl.1;refine(Any2.slices_BinarySearch_string_empty Tryz.laysNm226 A c x w).mono ?_;rintro e w' ⟨rfl,rfl⟩;exact⟨0,rfl,Below.refl _ _⟩
 ·obtain⟨b,off,rfl,_⟩:=hl.2.1 (by omega);have hll:=hl.1;refine(Any2.slices_BinarySearch_string Tryz.laysNm226 b off n c (fun t=>l.getD t x) x w (by omega) (fun j hj=>?_)).mono ?_
  ·have:=cell_Str hl (List.getElem?_eq_getElem (show j<l.length by omega));rw[this,List.getD_eq_getElem?_getD,List.getElem?_eq_getElem (show j<l.length by omega)];rfl
  ·rintro e w' ⟨rfl,q,rfl⟩;refine⟨((bsGo (fun t=>Op.bytesLess (l.getD t x).toList x.toList) n 0 n:Nat):Int),?_,bel_drewN (Below.refl _ _) q⟩;have hg:∀ t,t<l.length→l.getD t x=l[t]!:=fun t ht=>by
    rw[List.getD_eq_getElem?_getD,List.getElem?_eq_getElem ht,getElem!_pos _ t ht];rfl
   have hlt:∀ i j,i<j→j<l.length→cmpS l[i]! l[j]! = -1:=fun i j hij hj=>by
    have:=List.pairwise_iff_getElem.1 hr i j (by omega) hj hij
    rwa [getElem!_pos _ i (by omega),getElem!_pos _ j hj]
   have hf:∀ t,Op.bytesLess (l.getD t x).toList x.toList=decide (cmpS (l.getD t x) x = -1):=fun t=>ltS_cmp _ _;have hout:∀ t,l.length≤t→l.getD t x=x:=fun t ht=>by
    rw[List.getD_eq_getElem?_getD,List.getElem?_eq_none ht];rfl
   obtain⟨k,hk,h1,h2⟩:=thr (fun t=>Op.bytesLess (l.getD t x).toList x.toList) (fun t ht=>by
    rw[hf,decide_eq_true_iff]at ht ⊢
    by_cases hlt2:t+1<l.length
    ·rw[hg _ hlt2]at ht;rw[hg _ (by omega)];exact cmpS_trans (hlt t (t+1) (by omega) hlt2) ht
    ·rw[hout _ (by omega),cmpS_self]at ht;omega) n (by
    rw[hf,hout _ (by omega),cmpS_self];decide)
   rw[bsGo_spec _ k h1 h2 n 0 n (by omega) (Nat.zero_le _) hk];have hfin:decide (k<n∧l.getD k x=x)=inL l x:=by
    rw[Bool.eq_iff_iff,decide_eq_true_iff,inL_iff]
    constructor
    ·rintro⟨hkn,hx⟩;rw[← hx,hg _ (by omega),getElem!_pos _ k (by omega)];exact List.getElem_mem _
    ·intro hx;obtain⟨j,hj,hjx⟩:=List.getElem_of_mem hx;have hjk:k≤j:=by
      rcases Nat.lt_or_ge j k with h | h
      ·have:=h1 j h;rw[hf,decide_eq_true_iff,hg _ hj,getElem!_pos _ j hj,hjx,cmpS_self]at this;omega
      ·exact h
     have hkj:¬ k<j:=fun h=>by
      have h3:=h2 k (Nat.le_refl _);rw[hf,decide_eq_false_iff_not,hg _ (by omega)]at h3;apply h3;have:=hlt k j h hj
      rwa [getElem!_pos l j hj,hjx]at this
     obtain rfl:k=j:=by omega
     exact⟨by omega,by rw[hg _ hj,getElem!_pos _ k hj,hjx]⟩
   rw[hfin]
end Go.Proofs.YtdiaabeollcjaaaGreatDoor.C10