/-
 Several texts of mine as one, without what is not wanted here: XR1W, XR1B, XExW, XExJ, XEp, XExV, XCvS.
-/
import Derived.Test.YtpdjjjiknijpkaaGreatDoorTvKC10
import Derived.Lib.ReplaceLaws
import Derived.Lib.ItoaNum
import Derived.Lib.Atoi
set_option linter.unusedVariables false
set_option linter.unusedSimpArgs false
set_option maxRecDepth 100000
set_option maxHeartbeats 8000000
namespace Go.Proofs.YtpdjjjiknijpkaaGreatDoor.C10
open Go.ChangeShapes Go.WideShapes Go.Deep Go.RowKit Go.Lib
def NmRel (l:List File) (w0:World) (i a b:Value) (wr:World):Prop :=
 ∃ (k:Nat) (O:List ByteArray) (M:List Int) (AO AM:Option Addr) (cO cM:Nat),k≤l.length∧i = .int .i64 k∧a = .slice AO O.length cO∧b = .slice AM O.length cM∧M.length=O.length∧Own RStr 9 wr w0.heap.size a O∧Own RInt 3 wr w0.heap.size b M∧Dj a b ∧
  NmS ((l.take k).map tfOf) (O.map (·.data.toList))∧(∀ v∈M,0≤v∧v≤(k:Int))∧O.length≤k∧Below w0.heap.size w0 wr
def NmRel2 (O:List ByteArray) (s:ByteArray) (w0:World) (i:Value) (wr:World):Prop :=
 ∃ k:Nat,k≤O.length∧i = .int .i64 k∧wr=w0∧∀ (j:Nat) y,j<k→O[j]? = some y→y.data.toList<s.data.toList
def NmAns (l:List TFi) (w:World) (e:Ending) (w':World):Prop :=
 ∃ (A:Option Addr) (c:Nat) (v:Value) (O:List ByteArray),e = .returned (.tuple #[.slice A O.length c,v])∧O.map (·.data.toList)=(nodesS l).map (·.name)∧Own RStr 9 w' w.heap.size (.slice A O.length c) O∧Below w.heap.size w w'
theorem less_lt (a b:ByteArray):Op.bytesLess a.toList b.toList=decide (a.data.toList<b.data.toList):=by rw[Lib.toList_data,Lib.toList_data,bytesLess_eq]
theorem own_frozen {α:Type} {R:Rd α} {e:TypeId} {w:World} {base g n c:Nat} {l:List α} (h:Own R e w base (.slice (some ⟨g,0,none⟩) n c) l) (j:Nat):w.frozen? ⟨g,j,none⟩=false:=by
 rcases h.1.2 with ⟨hv,_⟩ | ⟨g',cap,cur,hv,_,hg,_⟩
 ·injection hv with h1 _ _;cases h1
 ·injection hv with h1 _ _;injection h1 with h1;injection h1 with h1 _ _;subst h1;simp[World.frozen?,hg]
theorem own_int_cell {e:TypeId} {w:World} {base g n c:Nat} {l:List Int} (h:Own RInt e w base (.slice (some ⟨g,0,none⟩) n c) l) {k:Nat} {v:Int} (hv:l[k]? = some v):w.cell? ⟨g,k,none⟩=some (.int .i64 v):=by
 have hk:=(List.getElem?_eq_some_iff.1 hv).1;obtain⟨b,off,hA,hc⟩:=h.slAt.2.1 (by have:=h.len;omega);obtain⟨rfl,rfl⟩:g=b∧0=off:=by simpa using hA
 have:=hc k v hv 0 _ rfl
 simpa[RInt]using this
theorem own_int_set {e:TypeId} {w:World} {base g n c:Nat} {l:List Int} (h:Own RInt e w base (.slice (some ⟨g,0,none⟩) n c) l) {k:Nat} {v v':Int} (hv:l[k]? = some v) (ho:I64 v'):Own RInt e (w.setCell ⟨g,k,none⟩ (.int .i64 v')) base (.slice (some ⟨g,0,none⟩) n c) (l.set k v'):=by
 have:=own_setc h (k:=k) (j:=0) (x:=v) (x':=v') hv (by decide) (v:=.int .i64 v') rfl (fun y hy=>by
  rcases List.mem_or_eq_of_mem_set hy with h1 | h1
  ·exact h.2 y h1
  ·rw[h1];exact ho)
 rw[show k*RInt.size+0=k by show k*1+0=k;omega]at this;exact this
theorem names_any (A:Option Addr) (m c:Nat) (l:List File) (w:World) (hmx:MaxLenAt w) (hl:SlAt RFile w A m l) (hm:m≤1000) (hsz:∀ y∈l,y.path.size≤1000) (hw:WF partT (l.map tfOf)) :
  Calls Tryz.prog 51 #[.slice A m c] w (NmAns (l.map tfOf) w):=by
 obtain⟨Z,hZ⟩:∃ Z,NmAns (l.map tfOf) w=Z:=⟨_,rfl⟩;have hZ':∀ e W,NmAns (l.map tfOf) w e W→Z e W:=fun e W h=>by rw[← hZ];exact h
 rw[hZ];clear hZ;have hlm:l.length=m:=hl.1;have hst:NmRel l w (.int .i64 0) (.slice none 0 0) (.slice none 0 0) w:=⟨0,[],[],none,none,0,0,Nat.zero_le _,rfl,rfl,rfl,rfl,Own.nil _ _,Own.nil _ _,(fun x h=>by cases h),NmS.nil,(fun v h=>by cases h),Nat.le_refl _,Below.refl _ _⟩;obtain⟨hZ'H,hmxH,hlH,hszH,hwH,hstH⟩:=hq2 hZ' (hqb hmx hl hsz hw (Lib.hid hst));clear hZ' hmx hl hsz hw hst;go_enter Tryz.func51,Tryz.ntmps51;go_wp2_with fail
 go_loopw [6,4,5] (fun i a b wr=>NmRel l w i a b wr) (fun i _ _ _=>m-(intOf i).toNat)
 case atStart=>exact hstH.out
 case round =>
  clear hstH;obtain⟨k,O,M,AO,AM,cO,cM,hk,rfl,rfl,rfl,hML,hO,hM,hdj,hNS,hMv,hOk,hb⟩:=hrel
  by_cases hlt:k<m
  ·obtain⟨y,hy⟩:∃ y,l[k]? = some y:=⟨l[k]'(by omega),List.getElem?_eq_getElem _⟩;have hym:=List.mem_of_getElem? hy;have hsl:=hlH.out.below hb;obtain⟨b1,o1,hA1,_⟩:=hsl.2.1 (by omega);subst hA1;obtain⟨d0,-,-⟩:=cells_File hsl hy;have hyz:=hszH.out y hym;obtain⟨mm,hmm⟩:=hmxH.out.below hb;have hcut:=Tryz.strings_Cut y.path ⟨#[47]⟩ mm wr (by omega) hmm;rw[show (⟨#[47]⟩:ByteArray).data.toList = [47] from rfl,cut_one,cutP_C]at hcut;rw[show (⟨(cutP y.path.data.toList).1.toArray⟩:ByteArray)=nmF y from rfl]at hcut;have hnc:(nmF y).data.toList=(cutP (tfOf y).path).1:=by unfold nmF tfOf;simp
   have hnz:(nmF y).size≤1000:=by
    have h1:(nmF y).size=(cutP y.path.data.toList).1.length:=by rw[Lib.size_eq];unfold nmF;simp
    have h2:(cutP y.path.data.toList).1.length≤y.path.data.toList.length:=by
     cases hc:(cutP y.path.data.toList).2 with
     | none=>rw[(cutP_none hc).1];exact Nat.le_refl _
     | some r =>
      have h5:=congrArg List.length (cutP_some hc).1;rw[List.length_append]at h5;omega
    have h3:y.path.data.toList.length=y.path.size:=(Lib.size_eq _).symm;omega
   obtain⟨nm,hnm⟩:∃ s,nmF y=s:=⟨_,rfl⟩;rw[hnm]at hcut hnc hnz;have htk:(l.take (k+1)).map tfOf=(l.take k).map tfOf ++ [tfOf y]:=by rw[List.take_add_one,hy];simp
   have hO3:∀ (j:Nat) z,O[j]? = some z→0<O.length∧j<O.length:=fun j z h=>⟨by have:=(List.getElem?_eq_some_iff.1 h).1;omega,(List.getElem?_eq_some_iff.1 h).1⟩;obtain⟨hyH,hymH,hslH,hyzH,hcutH,hnmH,hOH,hMH,hNSH,hMLH,hMvH,hdjH,hncH,htkH,hbH⟩:=hq2 hy (hq2 hym (hqb hsl hyz hcut hnm (hqc hO hM hNS hML hMv hdj hnc htk (Lib.hid hb))));clear hy hym hsl hyz hcut hnm hO hM hNS hML hMv hdj hnc htk hb;go_wp2_with fail;refine hcutH.out.mono ?_;rintro e w1 ⟨rfl,q,rfl⟩;have hbq:Below wr.heap.size wr (wr.drewN q):=bel_drewN (Below.refl _ _) q;have hOq:=hOH.out.below hbq;have hMq:=hMH.out.below hbq;have hbw:Below w.heap.size w (wr.drewN q):=hbH.out.trans (hbq.mono hbH.out.size);obtain⟨W,hW⟩:∃ W,wr.drewN q=W:=⟨_,rfl⟩;rw[hW]at hOq hMq hbw hbq ⊢;have hIH2:∀ (i' a b:Value) W',NmRel l w i' a b W'→NmRel l w i' a b W':=fun _ _ _ _ h=>h;obtain⟨hbqH,hOqH,hMqH,hbwH,hWH⟩:=hqb hbq hOq hMq hbw (Lib.hid hW);clear hbq hOq hMq hbw hW;go_wp2_with fail
   go_loopw [10] (fun j wr2=>NmRel2 O nm W j wr2) (fun j _=>O.length-(intOf j).toNat)
   case atStart=>exact⟨0,Nat.zero_le _,rfl,rfl,fun j y h=>absurd h (by omega)⟩
   case round =>
    obtain⟨j,hj,rfl,hWe,hlo⟩:=hrel;replace hWe:=hWe.symm;subst hWe;have hloH:=Lib.hid hlo;clear hlo
    by_cases hjl:j<O.length
    ·obtain⟨z,hz⟩:∃ z,O[j]? = some z:=⟨O[j]'hjl,List.getElem?_eq_getElem _⟩;obtain⟨g1,hA⟩:=own_form hOqH.out (by omega);subst hA;have c0:W.cell? ⟨g1,j,none⟩=some (.string z):=by simpa using cell_Str hOqH.out.slAt hz
     have hls:=less_lt z nm
     by_cases hlz:z.data.toList<nm.data.toList
     ·rw[decide_eq_true hlz]at hls;have R:NmRel2 O nm W (.int .i64 ((j:Int)+1)) W:=⟨j+1,by omega,by go_num,rfl,fun t x ht hx=>by
       rcases Nat.lt_or_ge t j with h | h
       ·exact hloH.out t x h hx
       ·obtain rfl:t=j:=by omega
        rw[hz]at hx;injection hx with hx;subst hx;exact hlz⟩
      clear hlz;obtain⟨hzH,RH⟩:=hq2 hz (Lib.hid R);clear hz R;go_wp2_with fail;exact⟨RH.out,by simp[intOf];omega⟩
     ·rw[decide_eq_false hlz]at hls
      by_cases hzn:z=nm
      ·subst hzn;obtain⟨g2,hA2⟩:=own_form hMqH.out (by have:=hMLH.out;omega);subst hA2;obtain⟨v,hv⟩:∃ v,M[j]? = some v:=⟨M[j]'(by have:=hMLH.out;omega),List.getElem?_eq_getElem _⟩;have cv:=own_int_cell hMqH.out hv;have hfz:=own_frozen hMqH.out j;obtain⟨hv0,hv1⟩:=hMvH.out v (List.mem_of_getElem? hv);have hwr:IntKind.i64.wrap (v+1)=v+1:=IntWalk.i64_in _ (by omega);have heq:(z.toList==z.toList)=true:=by rw[beq_data];simp
       have R:NmRel l w (.int .i64 ((k:Int)+1)) (.slice (some ⟨g1,0,none⟩) O.length cO) (.slice (some ⟨g2,0,none⟩) O.length cM) (W.setCell ⟨g2,j,none⟩ (.int .i64 (v+1))) :=
        ⟨k+1,O,M.set j (v+1),some ⟨g1,0,none⟩,some ⟨g2,0,none⟩,cO,cM,by omega,by go_num,rfl,rfl,by rw[List.length_set];exact hMLH.out,own_lower (hOqH.out.kept (grown_setc W ⟨g2,j,none⟩ _) hdjH.out.ne (fun _ _ h=>h)) (Nat.le_refl _),own_lower (own_int_set hMqH.out hv (by show I64 _;unfold I64;omega)) (Nat.le_refl _),hdjH.out,by
         rw[htkH.out];exact hNSH.out.old (by rw[← hncH.out];exact List.mem_map.2 ⟨z,List.mem_of_getElem? hz,rfl⟩),fun x hx=>by
         rcases List.mem_or_eq_of_mem_set hx with h1 | h1
         ·have:=hMvH.out x h1;omega
         ·subst h1;omega,by omega,hbwH.out.setCell (by have:=(hMqH.out.1.lt g2 rfl).1;exact this) _⟩
       clear hlz;obtain⟨hzH,hvH,RH⟩:=hq2 hz (hq2 hv (Lib.hid R));clear hz hv R;go_wp2_with fail;exact⟨RH.out,by simp[intOf];omega⟩
      ·have hne:(z.toList==nm.toList)=false:=by rw[beq_data,decide_eq_false hzn]
       have hgt:∀ s,O[j]? = some s→nm.data.toList<s.data.toList:=fun s hs=>by
        rw[hz]at hs;injection hs with hs;subst hs
        rcases List.le_iff_lt_or_eq.1 (List.not_lt.1 hlz) with h | h
        ·exact h
        ·exact absurd (bytes_ext h.symm) hzn
       clear hlz;obtain⟨hzH,hgtH⟩:=hq2 hz (Lib.hid hgt);clear hz hgt;have hto1:=slTo_own hOqH.out 33 utS 1 szS j hj;have hto2:=slTo_own hMqH.out 23 utI 1 szI j hj;have hfr1:=slFrom_own hOqH.out 33 utS 1 szS j hj;have hfr2:=slFrom_own hMqH.out 23 utI 1 szI j hj;go_wp2_with fail;refine startR (R:=Rk (fun _=>True) (fun _=>True) 99 99) (by kernel_rfl) ?_;have hC:True:=trivial;refine takeC (i:=0) (d:=some 61) (v:=?_) rfl rfl (by kernel_rfl) (by kernel_rfl) (by kernel_rfl) (by kernel_rfl) (fun _ _ _ h=>h) (Or.inl ⟨by rfl,?_⟩) hC ?_
       rotate_left
       ·(intro w hSw;(try dsimp only at hSw);go_simp;(try with_reducible rfl))
       (try simp only[Act.put,List.setIfInBounds_toArray,List.set_cons_zero,List.set_cons_succ])
       refine takeC (i:=1) (d:=some 62) (v:=?_) rfl rfl (by kernel_rfl) (by kernel_rfl) (by kernel_rfl) (by kernel_rfl) (fun _ _ _ h=>h) (Or.inl ⟨by rfl,?_⟩) hC ?_
       rotate_left
       ·(intro w hSw;(try dsimp only at hSw);go_simp;(try with_reducible rfl))
       (try simp only[Act.put,List.setIfInBounds_toArray,List.set_cons_zero,List.set_cons_succ])
       refine takeC (i:=2) (d:=some 63) (v:=?_) rfl rfl (by kernel_rfl) (by kernel_rfl) (by kernel_rfl) (by kernel_rfl) (fun _ _ _ h=>h) (Or.inl ⟨by rfl,?_⟩) hC ?_
       rotate_left
       ·(intro w hSw;(try dsimp only at hSw);go_simp;(try with_reducible rfl))
       (try simp only[Act.put,List.setIfInBounds_toArray,List.set_cons_zero,List.set_cons_succ])
       refine takeC (i:=3) (d:=some 64) (v:=?_) rfl rfl (by kernel_rfl) (by kernel_rfl) (by kernel_rfl) (by kernel_rfl) (fun _ _ _ h=>h) (Or.inl ⟨by rfl,?_⟩) hC ?_
       rotate_left
       ·(intro w hSw;(try dsimp only at hSw);go_simp;(try with_reducible rfl))
       (try simp only[Act.put,List.setIfInBounds_toArray,List.set_cons_zero,List.set_cons_succ])
       refine takeC (i:=5) (d:=some 66) (v:=?_) rfl rfl (by kernel_rfl) (by kernel_rfl) (by kernel_rfl) (by kernel_rfl) (fun _ _ _ h=>h) (Or.inl ⟨by rfl,?_⟩) hC ?_
       rotate_left
       ·(intro w hSw;(try dsimp only at hSw);go_simp;(try with_reducible rfl))
       (try simp only[Act.put,List.setIfInBounds_toArray,List.set_cons_zero,List.set_cons_succ])
       refine takeC (i:=6) (d:=some 67) (v:=?_) rfl rfl (by kernel_rfl) (by kernel_rfl) (by kernel_rfl) (by kernel_rfl) (fun _ _ _ h=>h) (Or.inl ⟨by rfl,?_⟩) hC ?_
       rotate_left
       ·(intro w hSw;(try dsimp only at hSw);go_simp;(try with_reducible rfl))
       (try simp only[Act.put,List.setIfInBounds_toArray,List.set_cons_zero,List.set_cons_succ])
       refine takeC (i:=7) (d:=some 68) (v:=?_) rfl rfl (by kernel_rfl) (by kernel_rfl) (by kernel_rfl) (by kernel_rfl) (fun _ _ _ h=>h) (Or.inl ⟨by rfl,?_⟩) hC ?_
       rotate_left
       ·(intro w hSw;(try dsimp only at hSw);go_simp;(try with_reducible rfl))
       (try simp only[Act.put,List.setIfInBounds_toArray,List.set_cons_zero,List.set_cons_succ])
       refine takeC (i:=8) (d:=some 69) (v:=?_) rfl rfl (by kernel_rfl) (by kernel_rfl) (by kernel_rfl) (by kernel_rfl) (fun _ _ _ h=>h) (Or.inl ⟨by rfl,?_⟩) hC ?_
       rotate_left
       ·(intro w hSw;(try dsimp only at hSw);go_simp;(try with_reducible rfl))
       (try simp only[Act.put,List.setIfInBounds_toArray,List.set_cons_zero,List.set_cons_succ])
       have hdr:Below W.heap.size W W.drew:=(Below.refl _ _).drew;have hO14:=slAt_take (hOqH.out.slAt.below hdr) j hj;have hM14:=slAt_take (hMqH.out.slAt.below hdr) j hj;have hcO0:=fun (_:j=0) h=>own_none_cap hOqH.out h;have hcM0:=fun (_:j=0) h=>own_none_cap hMqH.out h;have hOl9:O.length≤1000:=by omega
       have hj9:j≤1000:=by omega
       obtain⟨hdrH,hO14H,hM14H,hcO0H,hcM0H⟩:=hqb hdr hO14 hM14 hcO0 (Lib.hid hcM0);clear hdr hO14 hM14 hcO0 hcM0;refine oneR (i:=4) (by kernel_rfl) rfl (fun K hK=>?_);refine step_appW (R:=RStr) (base:=W.heap.size) (l:=[]) rfl (.tmp 61) (.tmp 64) 33 rfl Tryz.underlying33 elem_Str1 (by decide) rfl (Own.nil _ _) _ j _ (O.take j) rfl hO14H.out hcO0H.out (fun _ _ _ _ h=>h) (by simp only[maxLen,List.length_nil];omega) (by simp only[List.length_nil];omega) (Nat.le_refl _) j (by simp) ?_;intro A1 c1 W1 ho1 hg1 ha1;have hbA:Below W.heap.size W W1:=hdrH.out.trans (grown_none hg1 (Nat.le_refl _));have hM15:=hM14H.out.below (grown_none hg1 (Nat.le_refl _));obtain⟨ho1H,hg1H,ha1H,hbAH,hM15H⟩:=hqb ho1 hg1 ha1 hbA (Lib.hid hM15);clear ho1 hg1 ha1 hbA hM15;refine hK.out _ _ ⟨fun _ _ _=>trivial,fun _ _=>trivial⟩ ?_;clear hK K
       (try simp only[Act.put,List.setIfInBounds_toArray,List.set_cons_zero,List.set_cons_succ])
       refine oneR (i:=9) (by kernel_rfl) rfl (fun K hK=>?_);refine step_appW (R:=RInt) (base:=W.heap.size) (l:=[]) rfl (.tmp 66) (.tmp 69) 23 rfl Tryz.underlying23 elem_Int1 (by decide) rfl (Own.nil _ _) _ j _ (M.take j) rfl hM15H.out hcM0H.out (fun _ _ _ _ h=>h) (by simp only[maxLen,List.length_nil];omega) (by simp only[List.length_nil];omega) hbAH.out.size j (by simp) ?_;intro A2 c2 W2 ho2 hg2 ha2;have hbB:Below W.heap.size W W2:=hbAH.out.trans (grown_none hg2 hbAH.out.size);have hoS:=ho1H.out.below (grown_none hg2 (Nat.le_refl _));have hdj2:Dj (.slice A1 j c1) (.slice A2 j c2):=(dj_step (v:=.slice none 0 0) (fun x h=>by cases h) ha2 (own_lt ho1H.out)).symm;have hoI:=ho2;clear ho2 hg2 ha2 ho1H hg1H ha1H hbAH hM15H;obtain⟨hbBH,hoSH,hoIH,hdj2H⟩:=hq2 hbB (hq2 hoS (hq2 hoI (Lib.hid hdj2)));clear hbB hoS hoI hdj2;refine hK.out _ _ ⟨fun _ _ _=>trivial,fun _ _=>trivial⟩ ?_;clear hK K
       (try simp only[Act.put,List.setIfInBounds_toArray,List.set_cons_zero,List.set_cons_succ])
       refine takeC (i:=10) (d:=some 11) (v:=?_) rfl rfl (by kernel_rfl) (by kernel_rfl) (by kernel_rfl) (by kernel_rfl) (fun _ _ _ h=>h) (Or.inl ⟨by rfl,?_⟩) hC ?_
       rotate_left
       ·(intro w hSw;(try dsimp only at hSw);go_simp;(try with_reducible rfl))
       (try simp only[Act.put,List.setIfInBounds_toArray,List.set_cons_zero,List.set_cons_succ])
       refine takeC (i:=11) (d:=some 12) (v:=?_) rfl rfl (by kernel_rfl) (by kernel_rfl) (by kernel_rfl) (by kernel_rfl) (fun _ _ _ h=>h) (Or.inl ⟨by rfl,?_⟩) hC ?_
       rotate_left
       ·(intro w hSw;(try dsimp only at hSw);go_simp;(try with_reducible rfl))
       (try simp only[Act.put,List.setIfInBounds_toArray,List.set_cons_zero,List.set_cons_succ])
       refine doneR (by kernel_rfl) ?_ _;clear hC;have hnmz:nm.size≤maxLen:=Nat.le_trans hnz (by decide);have hsn:=slAt_new (R:=RStr) W2 9 nm hnmz;have hbn:Below W2.heap.size W2 (W2.alloc (.cells #[.string nm] 9)):=(Below.refl _ _).alloc (Nat.le_refl _) _;have hoS2:=hoSH.out.below hbn;have hoI2:=hoIH.out.below hbn;have hB2:=hbBH.out.size;obtain⟨hsnH,hbnH,hoS2H,hoI2H⟩:=hq2 hsn (hq2 hbn (hq2 hoS2 (Lib.hid hoI2)));clear hsn hbn hoS2 hoI2;go_wp2_with (at_builtin;go_loud (refine wpList_app rfl (.tmp 71) (.tmp 73) 33 rfl Tryz.underlying33 elem_Str1 (by decide) rfl hoS2H.out (some ⟨W2.heap.size,0,none⟩) 1 1 [nm] rfl hsnH.out ?nn ?ok ?c1 ?c2 ?c3 (j+1) ?c4 ?_))
       case nn=>intro h;cases h
       case ok=>exact fun _ _ _ _ h=>h
       case c1=>rw[hoSH.out.len];unfold maxLen;omega
       case c2=>rw[hoSH.out.len];omega
       case c3=>simp;omega
       case c4=>rw[hoSH.out.len]
       intro A3 c3 W3 hoS3 hg3 hat3 hb3;have hoI3:=hoI2H.out.kept hg3 hdj2H.out.symm.ne (fun _ _ h=>h);have hdj3:Dj (.slice A3 (j+1) c3) (.slice A2 j c2):=dj_step (v:=.slice A1 j c1) hdj2H.out hat3 (by simpa using own_lt hoI2H.out);have hbB3:Below W.heap.size W W3:=(hbBH.out.trans (hbnH.out.mono hB2)).trans hb3;have hsn4:=slAt_new (R:=RInt) W3 3 1 (by show I64 1;unfold I64;decide);have hbn4:Below W3.heap.size W3 (W3.alloc (.cells #[.int .i64 1] 3)):=(Below.refl _ _).alloc (Nat.le_refl _) _;have hoS4:=hoS3.below hbn4;have hoI4:=hoI3.below hbn4;have hB3:=hbB3.size;clear hg3 hat3 hb3;obtain⟨hoS3H,hoI3H,hdj3H,hbB3H,hsn4H,hbn4H,hoS4H,hoI4H⟩:=hq2 hoS3 (hq2 hoI3 (hq2 hdj3 (hqb hbB3 hsn4 hbn4 hoS4 (Lib.hid hoI4))));clear hoS3 hoI3 hdj3 hbB3 hsn4 hbn4 hoS4 hoI4;go_wp2_with (at_builtin;go_loud (refine wpList_app rfl (.tmp 75) (.tmp 76) 23 rfl Tryz.underlying23 elem_Int1 (by decide) rfl hoI4H.out (some ⟨W3.heap.size,0,none⟩) 1 1 [1] rfl hsn4H.out ?nn ?ok ?c1 ?c2 ?c3 (j+1) ?c4 ?_))
       case nn=>intro h;cases h
       case ok=>exact fun _ _ _ _ h=>h
       case c1=>rw[hoIH.out.len];unfold maxLen;omega
       case c2=>rw[hoIH.out.len];omega
       case c3=>simp;omega
       case c4=>rw[hoIH.out.len]
       intro A4 c4 W4 hoI5 hg5 hat5 hb5;have hoS5:=hoS4H.out.kept hg5 hdj3H.out.ne (fun _ _ h=>h);have hdj5:Dj (.slice A4 (j+1) c4) (.slice A3 (j+1) c3):=dj_step (v:=.slice A2 j c2) hdj3H.out.symm hat5 (by simpa using own_lt hoS4H.out);have hbB5:Below W.heap.size W W4:=(hbB3H.out.trans (hbn4H.out.mono hB3)).trans hb5;clear hg5 hat5 hb5;obtain⟨hoI5H,hoS5H,hdj5H,hbB5H⟩:=hq2 hoI5 (hq2 hoS5 (hq2 hdj5 (Lib.hid hbB5)));clear hoI5 hoS5 hdj5 hbB5;go_wp2_with fail;refine startR (R:=Rk (fun _=>True) (fun _=>True) 99 99) (by kernel_rfl) ?_;have hC:True:=trivial;refine takeC (i:=0) (d:=some 78) (v:=?_) rfl rfl (by kernel_rfl) (by kernel_rfl) (by kernel_rfl) (by kernel_rfl) (fun _ _ _ h=>h) (Or.inl ⟨by rfl,?_⟩) hC ?_
       rotate_left
       ·(intro w hSw;(try dsimp only at hSw);go_simp;(try with_reducible rfl))
       (try simp only[Act.put,List.setIfInBounds_toArray,List.set_cons_zero,List.set_cons_succ])
       refine takeC (i:=1) (d:=some 79) (v:=?_) rfl rfl (by kernel_rfl) (by kernel_rfl) (by kernel_rfl) (by kernel_rfl) (fun _ _ _ h=>h) (Or.inl ⟨by rfl,?_⟩) hC ?_
       rotate_left
       ·(intro w hSw;(try dsimp only at hSw);go_simp;(try with_reducible rfl))
       (try simp only[Act.put,List.setIfInBounds_toArray,List.set_cons_zero,List.set_cons_succ])
       refine takeC (i:=2) (d:=some 80) (v:=?_) rfl rfl (by kernel_rfl) (by kernel_rfl) (by kernel_rfl) (by kernel_rfl) (fun _ _ _ h=>h) (Or.inl ⟨by rfl,?_⟩) hC ?_
       rotate_left
       ·(intro w hSw;(try dsimp only at hSw);go_simp;(try with_reducible rfl))
       (try simp only[Act.put,List.setIfInBounds_toArray,List.set_cons_zero,List.set_cons_succ])
       refine takeC (i:=3) (d:=some 81) (v:=?_) rfl rfl (by kernel_rfl) (by kernel_rfl) (by kernel_rfl) (by kernel_rfl) (fun _ _ _ h=>h) (Or.inl ⟨by rfl,?_⟩) hC ?_
       rotate_left
       ·(intro w hSw;(try dsimp only at hSw);go_simp;(try with_reducible rfl))
       (try simp only[Act.put,List.setIfInBounds_toArray,List.set_cons_zero,List.set_cons_succ])
       refine takeC (i:=5) (d:=some 83) (v:=?_) rfl rfl (by kernel_rfl) (by kernel_rfl) (by kernel_rfl) (by kernel_rfl) (fun _ _ _ h=>h) (Or.inl ⟨by rfl,?_⟩) hC ?_
       rotate_left
       ·(intro w hSw;(try dsimp only at hSw);go_simp;(try with_reducible rfl))
       (try simp only[Act.put,List.setIfInBounds_toArray,List.set_cons_zero,List.set_cons_succ])
       refine takeC (i:=6) (d:=some 84) (v:=?_) rfl rfl (by kernel_rfl) (by kernel_rfl) (by kernel_rfl) (by kernel_rfl) (fun _ _ _ h=>h) (Or.inl ⟨by rfl,?_⟩) hC ?_
       rotate_left
       ·(intro w hSw;(try dsimp only at hSw);go_simp;(try with_reducible rfl))
       (try simp only[Act.put,List.setIfInBounds_toArray,List.set_cons_zero,List.set_cons_succ])
       refine takeC (i:=7) (d:=some 85) (v:=?_) rfl rfl (by kernel_rfl) (by kernel_rfl) (by kernel_rfl) (by kernel_rfl) (fun _ _ _ h=>h) (Or.inl ⟨by rfl,?_⟩) hC ?_
       rotate_left
       ·(intro w hSw;(try dsimp only at hSw);go_simp;(try with_reducible rfl))
       (try simp only[Act.put,List.setIfInBounds_toArray,List.set_cons_zero,List.set_cons_succ])
       refine takeC (i:=8) (d:=some 86) (v:=?_) rfl rfl (by kernel_rfl) (by kernel_rfl) (by kernel_rfl) (by kernel_rfl) (fun _ _ _ h=>h) (Or.inl ⟨by rfl,?_⟩) hC ?_
       rotate_left
       ·(intro w hSw;(try dsimp only at hSw);go_simp;(try with_reducible rfl))
       (try simp only[Act.put,List.setIfInBounds_toArray,List.set_cons_zero,List.set_cons_succ])
       have hdr5:Below W4.heap.size W4 W4.drew:=(Below.refl _ _).drew;have hbw5:Below W.heap.size W W4.drew:=hbB5H.out.drew;have hO16:=(slDrop_own (hOqH.out.below hbw5) j hj 1 rfl);have hM16:=(slDrop_own (hMqH.out.below hbw5) j hj 1 rfl);have hoS6:=hoS5H.out.below hdr5;have hoI6:=hoI5H.out.below hdr5;have hB5:=hbB5H.out.size;obtain⟨hdr5H,hbw5H,hO16H,hM16H,hoS6H,hoI6H⟩:=hq2 hdr5 (hqb hbw5 hO16 hM16 hoS6 (Lib.hid hoI6));clear hdr5 hbw5 hO16 hM16 hoS6 hoI6;have hlS:(O.take j ++ [nm]).length=j+1:=hoS6H.out.len;have hlI:(M.take j ++ [(1:Int)]).length=j+1:=hoI6H.out.len;refine oneR (i:=4) (by kernel_rfl) rfl (fun K hK=>?_);refine step_appW (R:=RStr) (base:=W.heap.size) rfl (.tmp 78) (.tmp 81) 33 rfl Tryz.underlying33 elem_Str1 (by decide) rfl hoS6H.out _ (O.length-j) _ (O.drop j) rfl hO16H.out.1 hO16H.out.2 (fun _ _ _ _ h=>h) (by rw[hlS];simp only[maxLen];omega) (by rw[hlS];omega) hB5 (O.length+1) (by rw[hlS];omega) ?_;intro A5 c5 W5 ho1 hg1 ha1;have hoI7:=hoI6H.out.kept hg1 hdj5H.out.ne (fun _ _ h=>h);have hM17:=slDrop_own (hMqH.out.below (hbw5H.out.trans (own_grown hoS6H.out hg1 hB5))) j hj 1 rfl;have hdj7:Dj (.slice A5 (O.length+1) c5) (.slice A4 (j+1) c4):=dj_step (v:=.slice A3 (j+1) c3) hdj5H.out.symm ha1 (own_lt hoI6H.out);have hbB7:=hbw5H.out.trans (own_grown hoS6H.out hg1 hB5);clear hg1 ha1;obtain⟨ho1H,hoI7H,hM17H,hdj7H,hbB7H⟩:=hqb ho1 hoI7 hM17 hdj7 (Lib.hid hbB7);clear ho1 hoI7 hM17 hdj7 hbB7;refine hK.out _ _ ⟨fun _ _ _=>trivial,fun _ _=>trivial⟩ ?_;clear hK K
       (try simp only[Act.put,List.setIfInBounds_toArray,List.set_cons_zero,List.set_cons_succ])
       refine oneR (i:=9) (by kernel_rfl) rfl (fun K hK=>?_);refine step_appW (R:=RInt) (base:=W.heap.size) rfl (.tmp 83) (.tmp 86) 23 rfl Tryz.underlying23 elem_Int1 (by decide) rfl hoI7H.out _ (O.length-j) _ (M.drop j) rfl hM17H.out.1 hM17H.out.2 (fun _ _ _ _ h=>h) (by rw[hlI];simp only[maxLen];omega) (by rw[hlI];omega) hbB7H.out.size (O.length+1) (by rw[hlI];omega) ?_;intro A6 c6 W6 ho2 hg2 ha2;have hoS9:=ho1H.out.kept hg2 hdj7H.out.ne (fun _ _ h=>h);have hdj9:Dj (.slice A5 (O.length+1) c5) (.slice A6 (O.length+1) c6):=(dj_step (v:=.slice A4 (j+1) c4) hdj7H.out.symm ha2 (own_lt ho1H.out)).symm;have hbB9:=hbB7H.out.trans (own_grown hoI7H.out hg2 hbB7H.out.size);have hoI9:=ho2;clear ho2 hg2 ha2 ho1H hoI7H hM17H hdj7H hbB7H;obtain⟨hoS9H,hoI9H,hdj9H,hbB9H⟩:=hq2 hoS9 (hq2 hoI9 (hq2 hdj9 (Lib.hid hbB9)));clear hoS9 hoI9 hdj9 hbB9;refine hK.out _ _ ⟨fun _ _ _=>trivial,fun _ _=>trivial⟩ ?_;clear hK K
       (try simp only[Act.put,List.setIfInBounds_toArray,List.set_cons_zero,List.set_cons_succ])
       refine takeC (i:=10) (d:=some 4) (v:=?_) rfl rfl (by kernel_rfl) (by kernel_rfl) (by kernel_rfl) (by kernel_rfl) (fun _ _ _ h=>h) (Or.inl ⟨by rfl,?_⟩) hC ?_
       rotate_left
       ·(intro w hSw;(try dsimp only at hSw);go_simp;(try with_reducible rfl))
       (try simp only[Act.put,List.setIfInBounds_toArray,List.set_cons_zero,List.set_cons_succ])
       refine takeC (i:=11) (d:=some 5) (v:=?_) rfl rfl (by kernel_rfl) (by kernel_rfl) (by kernel_rfl) (by kernel_rfl) (fun _ _ _ h=>h) (Or.inl ⟨by rfl,?_⟩) hC ?_
       rotate_left
       ·(intro w hSw;(try dsimp only at hSw);go_simp;(try with_reducible rfl))
       (try simp only[Act.put,List.setIfInBounds_toArray,List.set_cons_zero,List.set_cons_succ])
       refine doneR (by kernel_rfl) ?_ _;clear hC;have hlO9:(O.take j ++ [nm]++O.drop j).length=O.length+1:=hoS9H.out.len;have hlM9:(M.take j ++ [(1:Int)]++M.drop j).length=O.length+1:=hoI9H.out.len;have hbs:=hbwH.out.size;have hlow:w.heap.size≤W.heap.size:=hbs;have R:NmRel l w (.int .i64 ((k:Int)+1)) (.slice A5 (O.length+1) c5) (.slice A6 (O.length+1) c6) W6 :=
        ⟨k+1,O.take j ++ [nm]++O.drop j,M.take j ++ [(1:Int)]++M.drop j,A5,A6,c5,c6,by omega,by go_num,by rw[hlO9],by rw[hlO9],by rw[hlO9,hlM9],own_lower hoS9H.out hlow,own_lower hoI9H.out hlow,hdj9H.out,by
         rw[htkH.out];have h1:=hNSH.out.put (f:=tfOf y) (k:=j) (fun t x ht hx=>by
          rw[List.getElem?_map]at hx
          cases hx9:O[t]? with
          | none=>rw[hx9]at hx;cases hx
          | some x9=>rw[hx9]at hx;injection hx with hx;subst hx;rw[← hncH.out];exact hloH.out t x9 ht hx9) (fun x hx=>by
          rw[List.getElem?_map]at hx
          cases hx9:O[j]? with
          | none=>rw[hx9]at hx;cases hx
          | some x9=>rw[hx9]at hx;injection hx with hx;subst hx;rw[← hncH.out];exact hgtH.out x9 hx9)
         rw[← hncH.out]at h1
         simpa[List.map_append,List.map_take,List.map_drop]using h1,fun v hv=>by
         have hv2:v=1∨v∈M:=by
          rcases List.mem_append.1 hv with h | h
          ·rcases List.mem_append.1 h with h | h
           ·exact .inr (List.mem_of_mem_take h)
           ·exact .inl (List.mem_singleton.1 h)
          ·exact .inr (List.mem_of_mem_drop h)
         rcases hv2 with h | h
         ·subst h;omega
         ·have:=hMvH.out v h;omega,by rw[hlO9];omega,hbwH.out.trans (hbB9H.out.mono hbs)⟩
       clear hlO9 hlM9 hbs hlow;have RH:=Lib.hid R;clear R;go_wp2_with fail;exact⟨RH.out,by simp[intOf];omega⟩
    ·have hgt:∀ s,O[j]? = some s→nm.data.toList<s.data.toList:=fun s hs=>absurd (List.getElem?_eq_some_iff.1 hs).1 hjl;have e5:decide (j<O.length)=false:=decide_eq_false hjl;have hgtH:=Lib.hid hgt;clear hgt;have hto1:=slTo_own hOqH.out 33 utS 1 szS j hj;have hto2:=slTo_own hMqH.out 23 utI 1 szI j hj;have hfr1:=slFrom_own hOqH.out 33 utS 1 szS j hj;have hfr2:=slFrom_own hMqH.out 23 utI 1 szI j hj;go_wp2_with fail;refine startR (R:=Rk (fun _=>True) (fun _=>True) 99 99) (by kernel_rfl) ?_;have hC:True:=trivial;refine takeC (i:=0) (d:=some 61) (v:=?_) rfl rfl (by kernel_rfl) (by kernel_rfl) (by kernel_rfl) (by kernel_rfl) (fun _ _ _ h=>h) (Or.inl ⟨by rfl,?_⟩) hC ?_
     rotate_left
     ·(intro w hSw;(try dsimp only at hSw);go_simp;(try with_reducible rfl))
     (try simp only[Act.put,List.setIfInBounds_toArray,List.set_cons_zero,List.set_cons_succ])
     refine takeC (i:=1) (d:=some 62) (v:=?_) rfl rfl (by kernel_rfl) (by kernel_rfl) (by kernel_rfl) (by kernel_rfl) (fun _ _ _ h=>h) (Or.inl ⟨by rfl,?_⟩) hC ?_
     rotate_left
     ·(intro w hSw;(try dsimp only at hSw);go_simp;(try with_reducible rfl))
     (try simp only[Act.put,List.setIfInBounds_toArray,List.set_cons_zero,List.set_cons_succ])
     refine takeC (i:=2) (d:=some 63) (v:=?_) rfl rfl (by kernel_rfl) (by kernel_rfl) (by kernel_rfl) (by kernel_rfl) (fun _ _ _ h=>h) (Or.inl ⟨by rfl,?_⟩) hC ?_
     rotate_left
     ·(intro w hSw;(try dsimp only at hSw);go_simp;(try with_reducible rfl))
     (try simp only[Act.put,List.setIfInBounds_toArray,List.set_cons_zero,List.set_cons_succ])
     refine takeC (i:=3) (d:=some 64) (v:=?_) rfl rfl (by kernel_rfl) (by kernel_rfl) (by kernel_rfl) (by kernel_rfl) (fun _ _ _ h=>h) (Or.inl ⟨by rfl,?_⟩) hC ?_
     rotate_left
     ·(intro w hSw;(try dsimp only at hSw);go_simp;(try with_reducible rfl))
     (try simp only[Act.put,List.setIfInBounds_toArray,List.set_cons_zero,List.set_cons_succ])
     refine takeC (i:=5) (d:=some 66) (v:=?_) rfl rfl (by kernel_rfl) (by kernel_rfl) (by kernel_rfl) (by kernel_rfl) (fun _ _ _ h=>h) (Or.inl ⟨by rfl,?_⟩) hC ?_
     rotate_left
     ·(intro w hSw;(try dsimp only at hSw);go_simp;(try with_reducible rfl))
     (try simp only[Act.put,List.setIfInBounds_toArray,List.set_cons_zero,List.set_cons_succ])
     refine takeC (i:=6) (d:=some 67) (v:=?_) rfl rfl (by kernel_rfl) (by kernel_rfl) (by kernel_rfl) (by kernel_rfl) (fun _ _ _ h=>h) (Or.inl ⟨by rfl,?_⟩) hC ?_
     rotate_left
     ·(intro w hSw;(try dsimp only at hSw);go_simp;(try with_reducible rfl))
     (try simp only[Act.put,List.setIfInBounds_toArray,List.set_cons_zero,List.set_cons_succ])
     refine takeC (i:=7) (d:=some 68) (v:=?_) rfl rfl (by kernel_rfl) (by kernel_rfl) (by kernel_rfl) (by kernel_rfl) (fun _ _ _ h=>h) (Or.inl ⟨by rfl,?_⟩) hC ?_
     rotate_left
     ·(intro w hSw;(try dsimp only at hSw);go_simp;(try with_reducible rfl))
     (try simp only[Act.put,List.setIfInBounds_toArray,List.set_cons_zero,List.set_cons_succ])
     refine takeC (i:=8) (d:=some 69) (v:=?_) rfl rfl (by kernel_rfl) (by kernel_rfl) (by kernel_rfl) (by kernel_rfl) (fun _ _ _ h=>h) (Or.inl ⟨by rfl,?_⟩) hC ?_
     rotate_left
     ·(intro w hSw;(try dsimp only at hSw);go_simp;(try with_reducible rfl))
     (try simp only[Act.put,List.setIfInBounds_toArray,List.set_cons_zero,List.set_cons_succ])
     have hdr:Below W.heap.size W W.drew:=(Below.refl _ _).drew;have hO14:=slAt_take (hOqH.out.slAt.below hdr) j hj;have hM14:=slAt_take (hMqH.out.slAt.below hdr) j hj;have hcO0:=fun (_:j=0) h=>own_none_cap hOqH.out h;have hcM0:=fun (_:j=0) h=>own_none_cap hMqH.out h;have hOl9:O.length≤1000:=by omega
     have hj9:j≤1000:=by omega
     obtain⟨hdrH,hO14H,hM14H,hcO0H,hcM0H⟩:=hqb hdr hO14 hM14 hcO0 (Lib.hid hcM0);clear hdr hO14 hM14 hcO0 hcM0;refine oneR (i:=4) (by kernel_rfl) rfl (fun K hK=>?_);refine step_appW (R:=RStr) (base:=W.heap.size) (l:=[]) rfl (.tmp 61) (.tmp 64) 33 rfl Tryz.underlying33 elem_Str1 (by decide) rfl (Own.nil _ _) _ j _ (O.take j) rfl hO14H.out hcO0H.out (fun _ _ _ _ h=>h) (by simp only[maxLen,List.length_nil];omega) (by simp only[List.length_nil];omega) (Nat.le_refl _) j (by simp) ?_;intro A1 c1 W1 ho1 hg1 ha1;have hbA:Below W.heap.size W W1:=hdrH.out.trans (grown_none hg1 (Nat.le_refl _));have hM15:=hM14H.out.below (grown_none hg1 (Nat.le_refl _));obtain⟨ho1H,hg1H,ha1H,hbAH,hM15H⟩:=hqb ho1 hg1 ha1 hbA (Lib.hid hM15);clear ho1 hg1 ha1 hbA hM15;refine hK.out _ _ ⟨fun _ _ _=>trivial,fun _ _=>trivial⟩ ?_;clear hK K
     (try simp only[Act.put,List.setIfInBounds_toArray,List.set_cons_zero,List.set_cons_succ])
     refine oneR (i:=9) (by kernel_rfl) rfl (fun K hK=>?_);refine step_appW (R:=RInt) (base:=W.heap.size) (l:=[]) rfl (.tmp 66) (.tmp 69) 23 rfl Tryz.underlying23 elem_Int1 (by decide) rfl (Own.nil _ _) _ j _ (M.take j) rfl hM15H.out hcM0H.out (fun _ _ _ _ h=>h) (by simp only[maxLen,List.length_nil];omega) (by simp only[List.length_nil];omega) hbAH.out.size j (by simp) ?_;intro A2 c2 W2 ho2 hg2 ha2;have hbB:Below W.heap.size W W2:=hbAH.out.trans (grown_none hg2 hbAH.out.size);have hoS:=ho1H.out.below (grown_none hg2 (Nat.le_refl _));have hdj2:Dj (.slice A1 j c1) (.slice A2 j c2):=(dj_step (v:=.slice none 0 0) (fun x h=>by cases h) ha2 (own_lt ho1H.out)).symm;have hoI:=ho2;clear ho2 hg2 ha2 ho1H hg1H ha1H hbAH hM15H;obtain⟨hbBH,hoSH,hoIH,hdj2H⟩:=hq2 hbB (hq2 hoS (hq2 hoI (Lib.hid hdj2)));clear hbB hoS hoI hdj2;refine hK.out _ _ ⟨fun _ _ _=>trivial,fun _ _=>trivial⟩ ?_;clear hK K
     (try simp only[Act.put,List.setIfInBounds_toArray,List.set_cons_zero,List.set_cons_succ])
     refine takeC (i:=10) (d:=some 11) (v:=?_) rfl rfl (by kernel_rfl) (by kernel_rfl) (by kernel_rfl) (by kernel_rfl) (fun _ _ _ h=>h) (Or.inl ⟨by rfl,?_⟩) hC ?_
     rotate_left
     ·(intro w hSw;(try dsimp only at hSw);go_simp;(try with_reducible rfl))
     (try simp only[Act.put,List.setIfInBounds_toArray,List.set_cons_zero,List.set_cons_succ])
     refine takeC (i:=11) (d:=some 12) (v:=?_) rfl rfl (by kernel_rfl) (by kernel_rfl) (by kernel_rfl) (by kernel_rfl) (fun _ _ _ h=>h) (Or.inl ⟨by rfl,?_⟩) hC ?_
     rotate_left
     ·(intro w hSw;(try dsimp only at hSw);go_simp;(try with_reducible rfl))
     (try simp only[Act.put,List.setIfInBounds_toArray,List.set_cons_zero,List.set_cons_succ])
     refine doneR (by kernel_rfl) ?_ _;clear hC;have hnmz:nm.size≤maxLen:=Nat.le_trans hnz (by decide);have hsn:=slAt_new (R:=RStr) W2 9 nm hnmz;have hbn:Below W2.heap.size W2 (W2.alloc (.cells #[.string nm] 9)):=(Below.refl _ _).alloc (Nat.le_refl _) _;have hoS2:=hoSH.out.below hbn;have hoI2:=hoIH.out.below hbn;have hB2:=hbBH.out.size;obtain⟨hsnH,hbnH,hoS2H,hoI2H⟩:=hq2 hsn (hq2 hbn (hq2 hoS2 (Lib.hid hoI2)));clear hsn hbn hoS2 hoI2;go_wp2_with (at_builtin;go_loud (refine wpList_app rfl (.tmp 71) (.tmp 73) 33 rfl Tryz.underlying33 elem_Str1 (by decide) rfl hoS2H.out (some ⟨W2.heap.size,0,none⟩) 1 1 [nm] rfl hsnH.out ?nn ?ok ?c1 ?c2 ?c3 (j+1) ?c4 ?_))
     case nn=>intro h;cases h
     case ok=>exact fun _ _ _ _ h=>h
     case c1=>rw[hoSH.out.len];unfold maxLen;omega
     case c2=>rw[hoSH.out.len];omega
     case c3=>simp;omega
     case c4=>rw[hoSH.out.len]
     intro A3 c3 W3 hoS3 hg3 hat3 hb3;have hoI3:=hoI2H.out.kept hg3 hdj2H.out.symm.ne (fun _ _ h=>h);have hdj3:Dj (.slice A3 (j+1) c3) (.slice A2 j c2):=dj_step (v:=.slice A1 j c1) hdj2H.out hat3 (by simpa using own_lt hoI2H.out);have hbB3:Below W.heap.size W W3:=(hbBH.out.trans (hbnH.out.mono hB2)).trans hb3;have hsn4:=slAt_new (R:=RInt) W3 3 1 (by show I64 1;unfold I64;decide);have hbn4:Below W3.heap.size W3 (W3.alloc (.cells #[.int .i64 1] 3)):=(Below.refl _ _).alloc (Nat.le_refl _) _;have hoS4:=hoS3.below hbn4;have hoI4:=hoI3.below hbn4;have hB3:=hbB3.size;clear hg3 hat3 hb3;obtain⟨hoS3H,hoI3H,hdj3H,hbB3H,hsn4H,hbn4H,hoS4H,hoI4H⟩:=hq2 hoS3 (hq2 hoI3 (hq2 hdj3 (hqb hbB3 hsn4 hbn4 hoS4 (Lib.hid hoI4))));clear hoS3 hoI3 hdj3 hbB3 hsn4 hbn4 hoS4 hoI4;go_wp2_with (at_builtin;go_loud (refine wpList_app rfl (.tmp 75) (.tmp 76) 23 rfl Tryz.underlying23 elem_Int1 (by decide) rfl hoI4H.out (some ⟨W3.heap.size,0,none⟩) 1 1 [1] rfl hsn4H.out ?nn ?ok ?c1 ?c2 ?c3 (j+1) ?c4 ?_))
     case nn=>intro h;cases h
     case ok=>exact fun _ _ _ _ h=>h
     case c1=>rw[hoIH.out.len];unfold maxLen;omega
     case c2=>rw[hoIH.out.len];omega
     case c3=>simp;omega
     case c4=>rw[hoIH.out.len]
     intro A4 c4 W4 hoI5 hg5 hat5 hb5;have hoS5:=hoS4H.out.kept hg5 hdj3H.out.ne (fun _ _ h=>h);have hdj5:Dj (.slice A4 (j+1) c4) (.slice A3 (j+1) c3):=dj_step (v:=.slice A2 j c2) hdj3H.out.symm hat5 (by simpa using own_lt hoS4H.out);have hbB5:Below W.heap.size W W4:=(hbB3H.out.trans (hbn4H.out.mono hB3)).trans hb5;clear hg5 hat5 hb5;obtain⟨hoI5H,hoS5H,hdj5H,hbB5H⟩:=hq2 hoI5 (hq2 hoS5 (hq2 hdj5 (Lib.hid hbB5)));clear hoI5 hoS5 hdj5 hbB5;go_wp2_with fail;refine startR (R:=Rk (fun _=>True) (fun _=>True) 99 99) (by kernel_rfl) ?_;have hC:True:=trivial;refine takeC (i:=0) (d:=some 78) (v:=?_) rfl rfl (by kernel_rfl) (by kernel_rfl) (by kernel_rfl) (by kernel_rfl) (fun _ _ _ h=>h) (Or.inl ⟨by rfl,?_⟩) hC ?_
     rotate_left
     ·(intro w hSw;(try dsimp only at hSw);go_simp;(try with_reducible rfl))
     (try simp only[Act.put,List.setIfInBounds_toArray,List.set_cons_zero,List.set_cons_succ])
     refine takeC (i:=1) (d:=some 79) (v:=?_) rfl rfl (by kernel_rfl) (by kernel_rfl) (by kernel_rfl) (by kernel_rfl) (fun _ _ _ h=>h) (Or.inl ⟨by rfl,?_⟩) hC ?_
     rotate_left
     ·(intro w hSw;(try dsimp only at hSw);go_simp;(try with_reducible rfl))
     (try simp only[Act.put,List.setIfInBounds_toArray,List.set_cons_zero,List.set_cons_succ])
     refine takeC (i:=2) (d:=some 80) (v:=?_) rfl rfl (by kernel_rfl) (by kernel_rfl) (by kernel_rfl) (by kernel_rfl) (fun _ _ _ h=>h) (Or.inl ⟨by rfl,?_⟩) hC ?_
     rotate_left
     ·(intro w hSw;(try dsimp only at hSw);go_simp;(try with_reducible rfl))
     (try simp only[Act.put,List.setIfInBounds_toArray,List.set_cons_zero,List.set_cons_succ])
     refine takeC (i:=3) (d:=some 81) (v:=?_) rfl rfl (by kernel_rfl) (by kernel_rfl) (by kernel_rfl) (by kernel_rfl) (fun _ _ _ h=>h) (Or.inl ⟨by rfl,?_⟩) hC ?_
     rotate_left
     ·(intro w hSw;(try dsimp only at hSw);go_simp;(try with_reducible rfl))
     (try simp only[Act.put,List.setIfInBounds_toArray,List.set_cons_zero,List.set_cons_succ])
     refine takeC (i:=5) (d:=some 83) (v:=?_) rfl rfl (by kernel_rfl) (by kernel_rfl) (by kernel_rfl) (by kernel_rfl) (fun _ _ _ h=>h) (Or.inl ⟨by rfl,?_⟩) hC ?_
     rotate_left
     ·(intro w hSw;(try dsimp only at hSw);go_simp;(try with_reducible rfl))
     (try simp only[Act.put,List.setIfInBounds_toArray,List.set_cons_zero,List.set_cons_succ])
     refine takeC (i:=6) (d:=some 84) (v:=?_) rfl rfl (by kernel_rfl) (by kernel_rfl) (by kernel_rfl) (by kernel_rfl) (fun _ _ _ h=>h) (Or.inl ⟨by rfl,?_⟩) hC ?_
     rotate_left
     ·(intro w hSw;(try dsimp only at hSw);go_simp;(try with_reducible rfl))
     (try simp only[Act.put,List.setIfInBounds_toArray,List.set_cons_zero,List.set_cons_succ])
     refine takeC (i:=7) (d:=some 85) (v:=?_) rfl rfl (by kernel_rfl) (by kernel_rfl) (by kernel_rfl) (by kernel_rfl) (fun _ _ _ h=>h) (Or.inl ⟨by rfl,?_⟩) hC ?_
     rotate_left
     ·(intro w hSw;(try dsimp only at hSw);go_simp;(try with_reducible rfl))
     (try simp only[Act.put,List.setIfInBounds_toArray,List.set_cons_zero,List.set_cons_succ])
     refine takeC (i:=8) (d:=some 86) (v:=?_) rfl rfl (by kernel_rfl) (by kernel_rfl) (by kernel_rfl) (by kernel_rfl) (fun _ _ _ h=>h) (Or.inl ⟨by rfl,?_⟩) hC ?_
     rotate_left
     ·(intro w hSw;(try dsimp only at hSw);go_simp;(try with_reducible rfl))
     (try simp only[Act.put,List.setIfInBounds_toArray,List.set_cons_zero,List.set_cons_succ])
     have hdr5:Below W4.heap.size W4 W4.drew:=(Below.refl _ _).drew;have hbw5:Below W.heap.size W W4.drew:=hbB5H.out.drew;have hO16:=(slDrop_own (hOqH.out.below hbw5) j hj 1 rfl);have hM16:=(slDrop_own (hMqH.out.below hbw5) j hj 1 rfl);have hoS6:=hoS5H.out.below hdr5;have hoI6:=hoI5H.out.below hdr5;have hB5:=hbB5H.out.size;obtain⟨hdr5H,hbw5H,hO16H,hM16H,hoS6H,hoI6H⟩:=hq2 hdr5 (hqb hbw5 hO16 hM16 hoS6 (Lib.hid hoI6));clear hdr5 hbw5 hO16 hM16 hoS6 hoI6;have hlS:(O.take j ++ [nm]).length=j+1:=hoS6H.out.len;have hlI:(M.take j ++ [(1:Int)]).length=j+1:=hoI6H.out.len;refine oneR (i:=4) (by kernel_rfl) rfl (fun K hK=>?_);refine step_appW (R:=RStr) (base:=W.heap.size) rfl (.tmp 78) (.tmp 81) 33 rfl Tryz.underlying33 elem_Str1 (by decide) rfl hoS6H.out _ (O.length-j) _ (O.drop j) rfl hO16H.out.1 hO16H.out.2 (fun _ _ _ _ h=>h) (by rw[hlS];simp only[maxLen];omega) (by rw[hlS];omega) hB5 (O.length+1) (by rw[hlS];omega) ?_;intro A5 c5 W5 ho1 hg1 ha1;have hoI7:=hoI6H.out.kept hg1 hdj5H.out.ne (fun _ _ h=>h);have hM17:=slDrop_own (hMqH.out.below (hbw5H.out.trans (own_grown hoS6H.out hg1 hB5))) j hj 1 rfl;have hdj7:Dj (.slice A5 (O.length+1) c5) (.slice A4 (j+1) c4):=dj_step (v:=.slice A3 (j+1) c3) hdj5H.out.symm ha1 (own_lt hoI6H.out);have hbB7:=hbw5H.out.trans (own_grown hoS6H.out hg1 hB5);clear hg1 ha1;obtain⟨ho1H,hoI7H,hM17H,hdj7H,hbB7H⟩:=hqb ho1 hoI7 hM17 hdj7 (Lib.hid hbB7);clear ho1 hoI7 hM17 hdj7 hbB7;refine hK.out _ _ ⟨fun _ _ _=>trivial,fun _ _=>trivial⟩ ?_;clear hK K
     (try simp only[Act.put,List.setIfInBounds_toArray,List.set_cons_zero,List.set_cons_succ])
     refine oneR (i:=9) (by kernel_rfl) rfl (fun K hK=>?_);refine step_appW (R:=RInt) (base:=W.heap.size) rfl (.tmp 83) (.tmp 86) 23 rfl Tryz.underlying23 elem_Int1 (by decide) rfl hoI7H.out _ (O.length-j) _ (M.drop j) rfl hM17H.out.1 hM17H.out.2 (fun _ _ _ _ h=>h) (by rw[hlI];simp only[maxLen];omega) (by rw[hlI];omega) hbB7H.out.size (O.length+1) (by rw[hlI];omega) ?_;intro A6 c6 W6 ho2 hg2 ha2;have hoS9:=ho1H.out.kept hg2 hdj7H.out.ne (fun _ _ h=>h);have hdj9:Dj (.slice A5 (O.length+1) c5) (.slice A6 (O.length+1) c6):=(dj_step (v:=.slice A4 (j+1) c4) hdj7H.out.symm ha2 (own_lt ho1H.out)).symm;have hbB9:=hbB7H.out.trans (own_grown hoI7H.out hg2 hbB7H.out.size);have hoI9:=ho2;clear ho2 hg2 ha2 ho1H hoI7H hM17H hdj7H hbB7H;obtain⟨hoS9H,hoI9H,hdj9H,hbB9H⟩:=hq2 hoS9 (hq2 hoI9 (hq2 hdj9 (Lib.hid hbB9)));clear hoS9 hoI9 hdj9 hbB9;refine hK.out _ _ ⟨fun _ _ _=>trivial,fun _ _=>trivial⟩ ?_;clear hK K
     (try simp only[Act.put,List.setIfInBounds_toArray,List.set_cons_zero,List.set_cons_succ])
     refine takeC (i:=10) (d:=some 4) (v:=?_) rfl rfl (by kernel_rfl) (by kernel_rfl) (by kernel_rfl) (by kernel_rfl) (fun _ _ _ h=>h) (Or.inl ⟨by rfl,?_⟩) hC ?_
     rotate_left
     ·(intro w hSw;(try dsimp only at hSw);go_simp;(try with_reducible rfl))
     (try simp only[Act.put,List.setIfInBounds_toArray,List.set_cons_zero,List.set_cons_succ])
     refine takeC (i:=11) (d:=some 5) (v:=?_) rfl rfl (by kernel_rfl) (by kernel_rfl) (by kernel_rfl) (by kernel_rfl) (fun _ _ _ h=>h) (Or.inl ⟨by rfl,?_⟩) hC ?_
     rotate_left
     ·(intro w hSw;(try dsimp only at hSw);go_simp;(try with_reducible rfl))
     (try simp only[Act.put,List.setIfInBounds_toArray,List.set_cons_zero,List.set_cons_succ])
     refine doneR (by kernel_rfl) ?_ _;clear hC;have hlO9:(O.take j ++ [nm]++O.drop j).length=O.length+1:=hoS9H.out.len;have hlM9:(M.take j ++ [(1:Int)]++M.drop j).length=O.length+1:=hoI9H.out.len;have hbs:=hbwH.out.size;have hlow:w.heap.size≤W.heap.size:=hbs;have R:NmRel l w (.int .i64 ((k:Int)+1)) (.slice A5 (O.length+1) c5) (.slice A6 (O.length+1) c6) W6 :=
      ⟨k+1,O.take j ++ [nm]++O.drop j,M.take j ++ [(1:Int)]++M.drop j,A5,A6,c5,c6,by omega,by go_num,by rw[hlO9],by rw[hlO9],by rw[hlO9,hlM9],own_lower hoS9H.out hlow,own_lower hoI9H.out hlow,hdj9H.out,by
       rw[htkH.out];have h1:=hNSH.out.put (f:=tfOf y) (k:=j) (fun t x ht hx=>by
        rw[List.getElem?_map]at hx
        cases hx9:O[t]? with
        | none=>rw[hx9]at hx;cases hx
        | some x9=>rw[hx9]at hx;injection hx with hx;subst hx;rw[← hncH.out];exact hloH.out t x9 ht hx9) (fun x hx=>by
        rw[List.getElem?_map]at hx
        cases hx9:O[j]? with
        | none=>rw[hx9]at hx;cases hx
        | some x9=>rw[hx9]at hx;injection hx with hx;subst hx;rw[← hncH.out];exact hgtH.out x9 hx9)
       rw[← hncH.out]at h1
       simpa[List.map_append,List.map_take,List.map_drop]using h1,fun v hv=>by
       have hv2:v=1∨v∈M:=by
        rcases List.mem_append.1 hv with h | h
        ·rcases List.mem_append.1 h with h | h
         ·exact .inr (List.mem_of_mem_take h)
         ·exact .inl (List.mem_singleton.1 h)
        ·exact .inr (List.mem_of_mem_drop h)
       rcases hv2 with h | h
       ·subst h;omega
       ·have:=hMvH.out v h;omega,by rw[hlO9];omega,hbwH.out.trans (hbB9H.out.mono hbs)⟩
     clear hlO9 hlM9 hbs hlow;have RH:=Lib.hid R;clear R;go_wp2_with fail;exact⟨RH.out,by simp[intOf];omega⟩
  ·obtain rfl:k=m:=by omega
   rw[List.take_of_length_le (by omega)]at hNS;have hall:=hNS.all hwH.out;have R:=hZ'H.out (.returned (.tuple #[.slice AO O.length cO,.slice AM O.length cM])) wr ⟨AO,cO,_,O,rfl,hall,hO,hb⟩;clear hNS hall hO hM hdj hMv hb;have RH:=Lib.hid R;clear R;go_wp2_with fail;exact RH.out
theorem lies_any (s p:ByteArray) (w:World) (hp:p.size≤1000) (b:Bool) (hb:decide ((p.data.toList ++ [47]) <+: s.data.toList)=b) :
  Calls Tryz.prog 85 #[.string s,.string p] w fun e w'=>e = .returned (.bool b)∧w'=w:=by
 have h1:=Tryz.strings_HasPrefix s (p++⟨#[47]⟩) w;have e:Lib.hasPrefix s.data.toList (p++⟨#[47]⟩:ByteArray).data.toList=b:=by
  rw[← hb];unfold Lib.hasPrefix;have e2:(p++⟨#[47]⟩:ByteArray).data.toList=p.data.toList ++ [47]:=by simp[ByteArray.data_append]
  rw[e2,Bool.eq_iff_iff,List.isPrefixOf_iff_prefix,decide_eq_true_iff]
 rw[e]at h1;have hz:p.size+1≤1001:=by omega
 clear hb e;have h1H:=Lib.hid h1;clear h1;go_enter Tryz.func85,Tryz.ntmps85;go_wp2_with fail;refine h1H.out.mono ?_;rintro e w1 ⟨rfl,rfl⟩;go_wp2_with fail;go_ret;exact⟨rfl,rfl⟩
def cutNm (nm:ByteArray) (y:File):File:=⟨⟨(y.path.data.toList.drop (nm.size+1)).toArray⟩,y.run,y.bytes⟩
theorem tf_cutNm (nm:ByteArray) (y:File):tfOf (cutNm nm y)=⟨(tfOf y).path.drop (nm.data.toList.length+1),(tfOf y).run,(tfOf y).bs⟩:=by
 show (⟨(cutNm nm y).path.data.toList,y.run,y.bytes.l⟩:TFi)=⟨y.path.data.toList.drop (nm.data.toList.length+1),y.run,y.bytes.l⟩;rfl
def BlAns (nm:ByteArray) (l:List File) (w:World) (e:Ending) (w':World):Prop :=
 Below w.heap.size w w'∧((∃ x∈l,∃ A c,x.path=nm∧e = .returned (.tuple #[.slice A 1 c,.bool false])∧(RSl RFile).ok w' ⟨A,1,c,[x]⟩) ∨
  ((∀ x∈l,x.path≠nm)∧∃ A n c G,e = .returned (.tuple #[.slice A n c,.bool true])∧(RSl RFile).ok w' ⟨A,n,c,G⟩∧G.map tfOf=belF nm.data.toList (l.map tfOf)∧∀ g∈G,∃ z∈l,g.bytes=z.bytes))
def BlRel (nm:ByteArray) (l:List File) (w0:World) (i v:Value) (wr:World):Prop :=
 ∃ (k:Nat) (G:List File) (A:Option Addr) (c:Nat),k≤l.length∧i = .int .i64 k∧v = .slice A G.length c∧Own RFv 95 wr w0.heap.size v G∧G.map tfOf=belF nm.data.toList ((l.take k).map tfOf)∧(∀ j x,j<k→l[j]? = some x→x.path≠nm)∧(∀ x∈G,RFile.ok w0 x)∧(∀ g∈G,∃ z∈l,g.bytes=z.bytes)∧G.length≤k∧Below w0.heap.size w0 wr
theorem belF_snoc (s:Byt) (l:List TFi) (f:TFi):belF s (l ++ [f])=belF s l++(if (s ++ [47]) <+: f.path then [⟨f.path.drop (s.length+1),f.run,f.bs⟩] else []):=by
 unfold belF;rw[List.filter_append,List.map_append]
 congr 1
 by_cases h:(s ++ [47]) <+: f.path
 ·rw[if_pos h,List.filter_cons_of_pos (by simpa using h)];rfl
 ·rw[if_neg h,List.filter_cons_of_neg (by simpa using h)];rfl
theorem elem_FileV:Elem Tryz.prog 95 RFv.size 48:=elem_of (z:=.agg #[.string ⟨#[]⟩,.bool false,.slice none 0 0]) (by kernel_rfl) (by decide)
theorem below_any (A:Option Addr) (m c:Nat) (l:List File) (nm:ByteArray) (w:World) (hl:SlAt RFile w A m l) (hm:m≤1000) (hz:nm.size≤1000) (hsz:∀ y∈l,y.path.size≤1000) :
  Calls Tryz.prog 52 #[.slice A m c,.string nm] w (BlAns nm l w):=by
 obtain⟨Z,hZ⟩:∃ Z,BlAns nm l w=Z:=⟨_,rfl⟩;have hZ':∀ e W,BlAns nm l w e W→Z e W:=fun e W h=>by rw[← hZ];exact h
 rw[hZ];clear hZ;have hlm:l.length=m:=hl.1;have hst:BlRel nm l w (.int .i64 0) (.slice none 0 0) w:=⟨0,[],none,0,Nat.zero_le _,rfl,rfl,Own.nil _ _,rfl,fun j x h=>absurd h (by omega),(fun x h=>by cases h),(fun x h=>by cases h),Nat.le_refl _,Below.refl _ _⟩;obtain⟨hZ'H,hlH,hszH,hstH⟩:=hq2 hZ' (hq2 hl (hq2 hsz (Lib.hid hst)));clear hZ' hl hsz hst;go_enter Tryz.func52,Tryz.ntmps52;go_wp2_with fail
 go_loopw [7,6] (fun i v wr=>BlRel nm l w i v wr) (fun i _ _=>m-(intOf i).toNat)
 case atStart=>exact hstH.out
 case round =>
  clear hstH;obtain⟨k,G,A2,c2,hk,rfl,rfl,hown,hG,hno,hGok,hGz,hGk,hb⟩:=hrel
  by_cases hlt:k<m
  ·obtain⟨y,hy⟩:∃ y,l[k]? = some y:=⟨l[k]'(by omega),List.getElem?_eq_getElem _⟩;have hym:=List.mem_of_getElem? hy;have hsl:=hlH.out.below hb;have hyok:=hlH.out.2.2 y hym;obtain⟨b1,o1,hA1,_⟩:=hsl.2.1 (by omega);subst hA1;obtain⟨d0,d1,d2⟩:=cells_File hsl hy;have hyz:=hszH.out y hym;have htk:(l.take (k+1)).map tfOf=(l.take k).map tfOf ++ [tfOf y]:=by rw[List.take_add_one,hy];simp
   have hcn:=tf_cutNm nm y;obtain⟨yp,yr,⟨yA,yn,yc,yl⟩⟩:=y;simp only at d0 d1 d2 hyz
   by_cases he:yp=nm
   ·subst he;have heq:(yp.toList==yp.toList)=true:=by rw[beq_data];simp
    have hnew:=slAt_new (R:=RFile) wr 95 (⟨yp,yr,⟨yA,yn,yc,yl⟩⟩:File) (RFile.mono _ _ _ hb hyok);have R:=hZ'H.out (.returned (.tuple #[.slice (some ⟨wr.heap.size,0,none⟩) 1 1,.bool false])) (wr.alloc (.cells #[.string yp,.bool yr,.slice yA yn yc] 95)) ⟨hb.alloc hb.size _,.inl ⟨⟨yp,yr,⟨yA,yn,yc,yl⟩⟩,hym,_,_,rfl,rfl,hnew,Nat.le_refl _,by show 1≤maxLen;decide,fun h=>by cases h⟩⟩;clear hnew hno hGok hGz;obtain⟨hyH,hymH,hslH,hyokH,htkH,hcnH,hownH,hGH,hbH,RH⟩:=hq2 hy (hqc hym hsl hyok htk hcn hown hG hb (Lib.hid R));clear hy hym hsl hyok htk hcn hown hG hb R;go_wp2_with fail;exact RH.out
   ·have heq:(yp.toList==nm.toList)=false:=by rw[beq_data,decide_eq_false he]
    obtain⟨lb,hlb⟩:∃ b,decide ((nm.data.toList ++ [47]) <+: yp.data.toList)=b:=⟨_,rfl⟩;have hlies:=lies_any yp nm wr hz lb hlb;have hno2:∀ j x,j<k+1→l[j]? = some x→x.path≠nm:=fun j x hj hx=>by
     rcases Nat.lt_or_ge j k with h | h
     ·exact hno j x h hx
     ·obtain rfl:j=k:=by omega
      rw[hy]at hx;injection hx with hx;subst hx;exact he
    clear hno;obtain⟨hyH,hymH,hslH,hyokH,htkH,hcnH,hownH,hGH,hbH,hliesH,hno2H,hGokH,hGzH,hlbH⟩:=hq2 hy (hqb hym hsl hyok htk (hqc hcn hown hG hb hlies hno2 hGok hGz (Lib.hid hlb)));clear hy hym hsl hyok htk hcn hown hG hb hlies hno2 hGok hGz hlb;go_wp2_with fail;refine hliesH.out.mono ?_;rintro e w1 ⟨rfl,rfl⟩
    cases lb
    ·have R:BlRel nm l w (.int .i64 ((k:Int)+1)) (.slice A2 G.length c2) w1:=⟨k+1,G,A2,c2,by omega,by go_num,rfl,hownH.out,by
      rw[htkH.out,belF_snoc,if_neg (show ¬ (nm.data.toList ++ [47]) <+: (tfOf ⟨yp,yr,⟨yA,yn,yc,yl⟩⟩).path from of_decide_eq_false hlbH.out),List.append_nil];exact hGH.out,hno2H.out,hGokH.out,hGzH.out,by omega,hbH.out⟩
     have RH:=Lib.hid R;clear R;go_wp2_with fail;exact⟨RH.out,by simp[intOf];omega⟩
    ·have hpre:(nm.data.toList ++ [47]) <+: yp.data.toList:=of_decide_eq_true hlbH.out;have hlen:nm.size+1≤yp.size:=by
      have h1:=hpre.length_le;rw[List.length_append,List.length_singleton]at h1;rw[Lib.size_eq,Lib.size_eq];exact h1
     have hcut:yp.extract (nm.size+1) yp.size=(cutNm nm ⟨yp,yr,⟨yA,yn,yc,yl⟩⟩).path:=by
      apply bytes_ext;show (yp.extract (nm.size+1) yp.size).data.toList=yp.data.toList.drop (nm.size+1);rw[ByteArray.data_extract,Array.toList_extract];unfold List.extract;rw[List.take_of_length_le];rw[List.length_drop,← Lib.size_eq];exact Nat.le_refl _
     obtain⟨pc,hpc⟩:∃ p,(cutNm nm ⟨yp,yr,⟨yA,yn,yc,yl⟩⟩).path=p:=⟨_,rfl⟩;have hcf:cutNm nm ⟨yp,yr,⟨yA,yn,yc,yl⟩⟩=⟨pc,yr,⟨yA,yn,yc,yl⟩⟩:=by rw[← hpc];rfl
     rw[hpc]at hcut;have hpcz:pc.size≤maxLen:=by
      rw[← hcut,ByteArray.size_extract];unfold maxLen;omega
     obtain⟨W3,hW3⟩:∃ W,w1.alloc (.cells #[.string yp,.bool yr,.slice yA yn yc] 95)=W:=⟨_,rfl⟩;have hb13:Below w1.heap.size w1 W3:=by rw[← hW3];exact(Below.refl _ _).alloc (Nat.le_refl _) _
     have hz3:Blk W3 w1.heap.size [.string yp,.bool yr,.slice yA yn yc]:=by rw[← hW3];exact blk_new w1 _ _
     obtain⟨xb,hxb⟩:∃ b,w1.heap.size=b:=⟨_,rfl⟩;rw[hxb]at hz3 hb13;obtain⟨W4,hW4⟩:∃ W,W3.setCell ⟨xb,0,none⟩ (.string pc)=W:=⟨_,rfl⟩;have hz4:Blk W4 xb [.string pc,.bool yr,.slice yA yn yc]:=by rw[← hW4];exact hz3.set (k:=0) (by simp) (.string pc)
     have hb14:Below xb w1 W4:=by rw[← hW4];exact hb13.setCell (Nat.le_refl _) _
     obtain⟨z0,y0⟩:=hz3 0 _ rfl;obtain⟨u0,-⟩:=hz4 0 _ rfl;obtain⟨u1,-⟩:=hz4 1 _ rfl;obtain⟨u2,-⟩:=hz4 2 _ rfl;have hown4:Own RFv 95 W4 w.heap.size (.slice A2 G.length c2) G:=hownH.out.below (by rw[hxb];exact hb14);have hb04:Below w.heap.size w W4:=hbH.out.trans (hb14.mono (by rw[← hxb];exact hbH.out.size));have hnew:=slAt_new (R:=RFv) W4 95 (⟨pc,yr,⟨yA,yn,yc,yl⟩⟩:File) trivial;have hba4:Below W4.heap.size W4 (W4.alloc (.cells #[.string pc,.bool yr,.slice yA yn yc] 95)):=(Below.refl _ _).alloc (Nat.le_refl _) _;have hown5:=hown4.below hba4;have hw4:=hb04.size;clear hown4;obtain⟨hpreH,hpcH,hcfH,hb13H,hz3H,hz4H,hb14H,hb04H,hnewH,hba4H,hown5H⟩:=hq2 hpre (hq2 hpc (hqc hcf hb13 hz3 hz4 hb14 hb04 hnew hba4 (Lib.hid hown5)));clear hpre hpc hcf hb13 hz3 hz4 hb14 hb04 hnew hba4 hown5;go_wp2_with (at_builtin;go_loud (refine wpList_app rfl (.tmp 45) (.tmp 47) 22 rfl Tryz.underlying22 elem_FileV (by decide) rfl hown5H.out (some ⟨W4.heap.size,0,none⟩) 1 1 [⟨pc,yr,⟨yA,yn,yc,yl⟩⟩] rfl hnewH.out ?nn ?ok ?c1 ?c2 ?c3 (G.length+1) ?c4 ?_))
     case nn=>intro h;cases h
     case ok=>exact fun _ _ _ _ h=>h
     case c1=>unfold maxLen;omega
     case c2=>omega
     case c3=>simp;omega
     case c4=>rfl
     intro A8 c8 w8 hown8 hg8 hat8 hb8;have hb08:Below w.heap.size w w8:=(hb04H.out.trans (hba4H.out.mono hw4)).trans hb8;have R:BlRel nm l w (.int .i64 ((k:Int)+1)) (.slice A8 (G.length+1) c8) w8:=⟨k+1,G ++ [⟨pc,yr,⟨yA,yn,yc,yl⟩⟩],A8,c8,by omega,by go_num,by rw[List.length_append];rfl,hown8,by
      rw[htkH.out,belF_snoc,if_pos (show (nm.data.toList ++ [47]) <+: (tfOf ⟨yp,yr,⟨yA,yn,yc,yl⟩⟩).path from hpreH.out),List.map_append,hGH.out,← hcnH.out,hcfH.out];rfl,hno2H.out,fun x hx=>by
      rcases List.mem_append.1 hx with h | h
      ·exact hGokH.out x h
      ·rw[List.mem_singleton.1 h];exact⟨hpcz,hyokH.out.2.1,hyokH.out.2.2⟩,fun x hx=>by
      rcases List.mem_append.1 hx with h | h
      ·exact hGzH.out x h
      ·rw[List.mem_singleton.1 h];exact⟨_,hymH.out,rfl⟩,by rw[List.length_append,List.length_singleton];omega,hb08⟩
     clear hown8 hg8 hat8 hb8 hb08;have RH:=Lib.hid R;clear R;go_wp2;exact⟨RH.out,by simp[intOf];omega⟩
  ·obtain rfl:k=m:=by omega
   rw[List.take_of_length_le (by omega)]at hG;have hnoA:∀ x∈l,x.path≠nm:=fun x hx=>by
    obtain⟨j,hj,rfl⟩:=List.getElem_of_mem hx;exact hno j _ (by omega) (List.getElem?_eq_getElem hj)
   have hsl:(RSl RFile).ok wr ⟨A2,G.length,c2,G⟩:=by
    refine⟨slAt_fv hown.slAt fun x hx=>RFile.mono _ _ _ hb (hGok x hx),hown.cap_le,?_,fun h=>?_⟩
    ·rcases hown.1.2 with ⟨h1,_⟩ | ⟨g,cap',cur,hvv,_,_,_,h2,_⟩
     ·injection h1 with _ _ h3;show c2≤maxLen;omega
     ·injection hvv with _ _ h3;show c2≤maxLen;omega
    ·exact own_none_cap hown h
   have R:=hZ'H.out (.returned (.tuple #[.slice A2 G.length c2,.bool true])) wr ⟨hb,.inr ⟨hnoA,A2,_,c2,G,rfl,hsl,hG,hGz⟩⟩;clear hsl hnoA hG hno hGok hGz;obtain⟨hownH,hbH,RH⟩:=hq2 hown (hq2 hb (Lib.hid R));clear hown hb R;go_wp2_with fail;exact RH.out
end Go.Proofs.YtpdjjjiknijpkaaGreatDoor.C10
namespace Go.Proofs.YtpdjjjiknijpkaaGreatDoor.C10
open Go.ChangeShapes Go.WideShapes Go.Deep Go.RowKit Go.Maps
def Bts (S:Nat→Prop) (w:World) (A:Option Addr) (n cap:Nat) (l:List UInt8):Prop:=(RSl RU8).ok w ⟨A,n,cap,l⟩∧(0<n→∀ ad,A=some ad→¬ S ad.block)
section
variable {W0:World} {n T:Nat} {x:Action} {I:Inp} {s:ES} {cl:Nat} {w w':World}
end
theorem elem_U8:Elem Tryz.prog 5 RU8.size 1:=elem_of (z:=.int .u8 0) (by kernel_rfl) (by decide)
end Go.Proofs.YtpdjjjiknijpkaaGreatDoor.C10
namespace Go.Proofs.YtpdjjjiknijpkaaGreatDoor.C10
open Go.ChangeShapes Go.WideShapes Go.Deep Go.RowKit
def trimNl (s:List UInt8):List UInt8:=Lib.trimSuffix s [10]
def incW:List UInt8:=[105,110,99,108,117,100,101,32]
def inclP (s:List UInt8):Option ByteArray :=
 if Lib.hasPrefix (trimNl s) incW=true∧pathB (bsOf (Lib.trimPrefix (trimNl s) incW))=true then some (bsOf (Lib.trimPrefix (trimNl s) incW)) else none
/-! ### lines -/
end Go.Proofs.YtpdjjjiknijpkaaGreatDoor.C10
namespace Go.Proofs.YtpdjjjiknijpkaaGreatDoor.C10
open Go.ChangeShapes Go.WideShapes Go.Deep Go.RowKit Go.Maps
theorem bts_at {W:World} {b c:Nat} {cs:Array Value} {e:TypeId} {fz:Nat × Nat} {l:List UInt8} {S:Nat→Prop} (hb:W.heap[b]? = some (.cells cs e fz)) (hS:¬ S b) (hc:l.length≤c) (hcm:c≤maxLen) (hcs:∀ (j:Nat) (x:UInt8),l[j]? = some x→cs[j]? = some (.int .u8 x.toNat)) :
  Bts S W (some ⟨b,0,none⟩) l.length c l :=
 ⟨⟨⟨rfl,fun _=>⟨_,_,rfl,fun i x hx j v hv=>by
  have hj:j<1:=(List.getElem?_eq_some_iff.1 hv).1;obtain rfl:j=0:=by omega
  have hv:some (Value.int .u8 (x.toNat:Nat))=some v:=hv;rw[← hv];show W.cell? ⟨b,0+i*1+0,none⟩=_;rw[show 0+i*1+0=i by omega];unfold World.cell?;simp only[hb];exact hcs i x hx⟩,fun x hx=>trivial⟩,hc,hcm,fun h=>by cases h⟩,fun _ ad hA hs=>by injection hA with hA;subst hA;exact hS hs⟩
def convW (w:World) (s:ByteArray):World:=w.drew.alloc (.cells (bytesRow s (grownCap w s.size 0 5)) 5 ((bytesRow s (grownCap w s.size 0 5)).size,(bytesRow s (grownCap w s.size 0 5)).size+1))
theorem conv_any (w:World) (s:ByteArray):(convert 9 39 (.string s)).run Tryz.prog w = .ok (.slice (some ⟨w.heap.size,0,none⟩) s.size (grownCap w s.size 0 5)) (convW w s) :=
 run_bytes_of_string w 9 39 5 s Tryz.underlying9 Tryz.underlying39 Tryz.underlying5
theorem conv_below (w:World) (s:ByteArray):Below w.heap.size w (convW w s):=((Below.refl _ _).drew).alloc (Nat.le_refl _) _
theorem conv_bts (w:World) (s:ByteArray) (S:Nat→Prop) (hS:¬ S w.heap.size) (hs:s.size≤maxLen):Bts S (convW w s) (some ⟨w.heap.size,0,none⟩) s.size (grownCap w s.size 0 5) s.data.toList:=by
 have hl:s.data.toList.length=s.size:=(Lib.size_eq s).symm;have hb:(convW w s).heap[w.heap.size]? = some (.cells (bytesRow s (grownCap w s.size 0 5)) 5 ((bytesRow s (grownCap w s.size 0 5)).size,(bytesRow s (grownCap w s.size 0 5)).size+1)):=heap_alloc_new w.drew _;have:=bts_at (S:=S) (l:=s.data.toList) hb hS (c:=grownCap w s.size 0 5) (by rw[hl];exact grownCap_ge _ _ _ _) (grownCap_le_maxLen _ _ _ _ hs) (fun j x hx=>by
  have hj:j<s.data.size:=by have:=(List.getElem?_eq_some_iff.1 hx).1;simpa using this
  unfold bytesRow;rw[Array.getElem?_append_left (by simpa using hj),Array.getElem?_map];have hx':s.data[j]? = some x:=by rw[← Array.getElem?_toList];exact hx
  rw[hx'];rfl)
 rw[hl]at this;exact this
end Go.Proofs.YtpdjjjiknijpkaaGreatDoor.C10
namespace Go.Proofs.YtpdjjjiknijpkaaGreatDoor.C10
open Go.ChangeShapes Go.WideShapes Go.Deep Go.RowKit Go.Lib
theorem conv_str {w:World} {b off n c:Nat} {l:List UInt8} (h:SlAt RU8 w (some ⟨b,off,none⟩) n l):(convert 39 9 (.slice (some ⟨b,off,none⟩) n c)).run Tryz.prog w = .ok (.string (bsOf l)) w:=by
 have:=run_convert_bytes_back (P:=Tryz.prog) w 39 9 5 ⟨b,off,none⟩ c l Tryz.underlying39 Tryz.underlying5 Tryz.underlying9 (fun j hj=>by
  rw[Addr.add_lit];exact cell_U8 h (List.getElem?_eq_getElem hj))
 rw[h.1]at this;exact this
theorem conv_gen {W:World} {A:Option Addr} {n c:Nat} {l:List UInt8} (h:(RSl RU8).ok W ⟨A,n,c,l⟩):(convert 39 9 (.slice A n c)).run Tryz.prog W = .ok (.string (bsOf l)) W:=by
 cases A with
 | none =>
  have h0:c=0:=h.2.2.2 rfl;have hn:n≤c:=h.2.1;have hl:l.length=n:=h.1.1;obtain rfl:l = []:=List.eq_nil_of_length_eq_zero (by omega);exact run_convert_bytes_nil (P:=Tryz.prog) (w:=W) 39 5 Tryz.underlying39 Tryz.underlying5 n c 9 Tryz.underlying9
 | some a =>
  rcases Nat.eq_zero_or_pos n with h0 | h0
  ·subst h0;obtain rfl:l = []:=List.eq_nil_of_length_eq_zero h.1.1;exact run_convert_bytes_back (P:=Tryz.prog) W 39 9 5 a c [] Tryz.underlying39 Tryz.underlying5 Tryz.underlying9 (fun j hj=>absurd hj (by simp))
  ·obtain⟨b,off,hA,_⟩:=h.1.2.1 h0;have hA:some a=some ⟨b,off,none⟩:=hA;injection hA with hA;subst hA;exact conv_str h.1
end Go.Proofs.YtpdjjjiknijpkaaGreatDoor.C10