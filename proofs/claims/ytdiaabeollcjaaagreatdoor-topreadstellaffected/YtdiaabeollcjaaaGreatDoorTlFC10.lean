/-
 Several texts of mine as one, without what is not wanted here: XExL, XExP, XClS, XExX.
-/
import Derived.Test.YtdiaabeollcjaaaGreatDoorTlEC10
set_option linter.unusedVariables false
set_option linter.unusedSimpArgs false
set_option maxRecDepth 100000
set_option maxHeartbeats 8000000
namespace Go.Proofs.YtdiaabeollcjaaaGreatDoor.C10
open Go.ChangeShapes Go.WideShapes Go.Deep Go.RowKit Go.Maps
theorem elem_StrX:Elem Tryz.prog 9 RStr.size 16:=elem_of (z:=.string ByteArray.empty) (by kernel_rfl) (by decide)
theorem slAt_part {α:Type} {R:Rd α} {w:World} {b off n:Nat} {l:List α} (h:SlAt R w (some ⟨b,off,none⟩) n l) (k m:Nat) (hk:k+m≤n) (h1:R.size=1):SlAt R w (some ⟨b,off+k,none⟩) m ((l.drop k).take m):=by
 refine⟨by rw[List.length_take,List.length_drop,h.1];omega,fun hm=>⟨b,off+k,rfl,fun i x hx j v hv=>?_⟩,fun x hx=>h.2.2 x (List.mem_of_mem_drop (List.mem_of_mem_take hx))⟩;obtain⟨b',off',hA,hc⟩:=h.2.1 (by omega);obtain⟨rfl,rfl⟩:b=b'∧off=off':=by simpa using hA
 have hx2:l[k+i]? = some x:=by
  rw[List.getElem?_take]at hx
  split at hx
  ·rw[List.getElem?_drop]at hx;exact hx
  ·cases hx
 have:=hc (k+i) x hx2 j v hv;rw[h1,Nat.mul_one]at this ⊢;rw[show off+k+i+j=off+(k+i)+j by omega];exact this
theorem slAt_zero {α:Type} {R:Rd α} {w:World} {A B:Option Addr} {n:Nat} {l:List α} (h:SlAt R w A n l):SlAt R w B 0 []:=⟨rfl,fun hm=>by omega,fun x hx=>by cases hx⟩
theorem rsl_rest {w:World} {b off n1 c1 q:Nat} {l:List UInt8} (h:(RSl RU8).ok w ⟨some ⟨b,off,none⟩,n1,c1,l⟩) (hq:q≤n1):∀ A2,(c1=q∨A2=some ⟨b,off+q,none⟩)→(A2=none→c1-q=0)→(RSl RU8).ok w ⟨A2,n1-q,c1-q,l.drop q⟩:=by
 obtain⟨hs,hc,hm,_⟩:=h;simp only at hs hc hm;have hl:l.length=n1:=hs.1;intro A2 h2 h3;refine⟨?_,?_,?_,h3⟩
 ·show SlAt RU8 w A2 (n1-q) (l.drop q)
  rcases h2 with h2 | h2
  ·have e0:n1-q=0:=by omega
   have e1:l.drop q = []:=List.drop_eq_nil_of_le (by omega);rw[e1,e0];exact slAt_zero hs
  ·subst h2;have:=slAt_part hs q (n1-q) (by omega) rfl;rw[List.take_of_length_le (by rw[List.length_drop];omega)]at this;exact this
 ·show n1-q≤c1-q;omega
 ·show c1-q≤maxLen;omega
theorem conv_str {w:World} {b off n c:Nat} {l:List UInt8} (h:SlAt RU8 w (some ⟨b,off,none⟩) n l):(convert 56 9 (.slice (some ⟨b,off,none⟩) n c)).run Tryz.prog w = .ok (.string (bsOf l)) w:=by
 have:=run_convert_bytes_back (P:=Tryz.prog) w 56 9 5 ⟨b,off,none⟩ c l Tryz.underlying56 Tryz.underlying5 Tryz.underlying9 (fun j hj=>by
  rw[Addr.add_lit];exact cell_U8 h (List.getElem?_eq_getElem hj))
 rw[h.1]at this;exact this
def LnRel (l:List UInt8) (w0:World) (v0 v3:Value) (wr:World):Prop :=
 ∃ (k:Nat) (A1:Option Addr) (n1 c1:Nat) (A3:Option Addr) (m3 c3:Nat) (out:List (List UInt8)),k≤l.length∧v0 = .slice A1 n1 c1∧v3 = .slice A3 m3 c3∧(RSl RU8).ok w0 ⟨A1,n1,c1,l.drop k⟩ ∧
  Own RStr 9 wr w0.heap.size v3 (und out)∧out++linesP (l.drop k)=linesP l∧Below w0.heap.size w0 wr
def LnAns (l:List UInt8) (w:World) (e:Ending) (w':World):Prop :=
 ∃ A m c,e = .returned (.slice A m c)∧Own RStr 9 w' w.heap.size (.slice A m c) (und (linesP l))∧Below w.heap.size w w'
def lenOf:Value→Nat | .slice _ n _=>n | _=>0
theorem und_snoc (l:List (List UInt8)) (x:List UInt8):und (l ++ [x])=und l ++ [bsOf x]:=by simp[und]
theorem und_len (l:List (List UInt8)):(und l).length=l.length:=by simp[und]
theorem lines_any (A:Option Addr) (n c:Nat) (l:List UInt8) (w:World) (hl:(RSl RU8).ok w ⟨A,n,c,l⟩) (hn:n≤1000000) :
  Calls Tryz.prog 96 #[.slice A n c] w (LnAns l w):=by
 obtain⟨Z,hZ⟩:∃ Z,LnAns l w=Z:=⟨_,rfl⟩;have hZ':∀ e W,LnAns l w e W→Z e W:=fun e W h=>by rw[← hZ];exact h
 rw[hZ];clear hZ;have hln:l.length=n:=hl.1.1;have hall:=(linesP_all l.length l (Nat.le_refl _)).2.1;have hst:LnRel l w (.slice A n c) (.slice none 0 0) w:=⟨0,A,n,c,none,0,0,[],Nat.zero_le _,rfl,rfl,hl,Own.nil _ _,rfl,Below.refl _ _⟩;obtain⟨hZ'H,hlH,hlnH,hstH,hallH⟩:=hqb hZ' hl hln hst (Lib.hid hall);clear hZ' hl hln hst hall;go_enter Tryz.func96,Tryz.ntmps96;go_wp2_with fail
 go_loopw [0,3] (fun v0 v3 wr=>LnRel l w v0 v3 wr) (fun v0 _ _=>lenOf v0)
 case atStart=>exact hstH.out
 case round =>
  clear hstH;obtain⟨k,A1,n1,c1,A3,m3,c3,out,hk,rfl,rfl,hok,hown,heq,hb⟩:=hrel;obtain⟨hs0,hcc,hcm,_⟩:=id hok;simp only at hs0 hcc hcm;have hl1:(l.drop k).length=n1:=hs0.1;unfold maxLen at hcm;have hm3:out.length=m3:=by have:=hown.len;rw[und_len]at this;exact this
  have hoL:out.length+(linesP (l.drop k)).length=(linesP l).length:=by rw[← heq,List.length_append]
  by_cases hlt:0<n1
  ·obtain⟨rest,hrest⟩:∃ r,l.drop k=r:=⟨_,rfl⟩;rw[hrest]at hok heq hl1 hoL hs0;have hne:rest≠[]:=fun h=>by rw[h]at hl1;simp at hl1;omega
   obtain⟨b,off,rfl,_⟩:=hs0.2.1 hlt;rw[linesP_cons hne]at heq hoL;obtain⟨q,hq⟩:∃ q,cutN rest=q:=⟨_,rfl⟩;have hq1:=cutN_pos hne;have hq2:=cutN_le rest;have hidx:=index_lt rest 10;have hcut:=hq;unfold cutN at hcut;rw[hq]at heq hq1 hq2 hoL;rw[hl1]at hq2;obtain⟨ix,hix⟩:∃ i,Lib.indexByte rest 10=i:=⟨_,rfl⟩;rw[hix]at hidx hcut;have hqn:q≤n1:=by omega
   have hrl:rest.length=n1:=hl1;rw[hrl]at hidx hcut;have hdk:rest.drop q=l.drop (k+q):=by rw[← hrest,List.drop_drop]
   have hpart:SlAt RU8 wr (some ⟨b,off,none⟩) q (rest.take q):=by
    have:=slAt_part (hs0.below hb) 0 q (by omega) rfl
    simpa using this
   have hidxc:=indexB_any b off n1 c1 rest 10 wr (hs0.below hb);rw[hix]at hidxc;have hmm:m3≤999999:=by
    have h1:=hlnH.out;have h2:=hallH.out;simp only[List.length_cons]at hoL;omega
   have hkq:k+q≤l.length:=by have:=hlnH.out;rw[← hrest,List.length_drop]at hrl;omega
   have i0:(0:Int)≤(q:Int):=by omega
   have i1:(q:Int)≤(n1:Int):=by omega
   have i2:(q:Int)≤(c1:Int):=by omega
   have i3:¬ (n1:Int)<(q:Int):=by omega
   have i4:¬ (q:Int)<0:=by omega
   clear hoL hl1 hq2;obtain⟨hokH,hs0H,hownH,heqH,hbH,hrestH,hqH,hcutH,hpartH,hidxcH,hdkH,hneH,hrlH,hixH,hm3H⟩:=hq2 hok (hq2 hs0 (hqb hown heq hb hrest (hqc hq hcut hpart hidxc hdk hne hrl hix (Lib.hid hm3))));clear hok hs0 hown heq hb hrest hq hcut hpart hidxc hdk hne hrl hix hm3;go_wp2_with fail;refine hidxcH.out.mono ?_;rintro e w1 ⟨rfl,rfl⟩;have hcut:=hcutH.out
   by_cases hi:ix = -1
   ·rw[if_pos hi]at hcut;subst hi;obtain rfl:n1=q:=hcut;clear hcutH;go_wp2_with fail;obtain⟨A2,hA2⟩:∃ A2,(if c1=n1 then some (⟨b,off,none⟩:Addr) else some ⟨b,off+n1,none⟩)=A2:=⟨_,rfl⟩;have hA2c:c1=n1∨A2=some ⟨b,off+n1,none⟩:=by
     by_cases h:c1=n1
     ·exact .inl h
     ·rw[if_neg h]at hA2;exact .inr hA2.symm
    have hA2n:A2=none→c1-n1=0:=fun h=>by rw[h]at hA2;split at hA2 <;> cases hA2
    obtain⟨hA2cH,hA2nH⟩:=hq2 hA2c (Lib.hid hA2n);clear hA2c hA2n;refine startR (R:=Rk (fun _=>True) (fun w'=>SlAt RU8 w' (some ⟨b,off,none⟩) n1 (rest.take n1)) 11 11) (by kernel_rfl) ?_;have hC:SlAt RU8 wr.drew (some ⟨b,off,none⟩) n1 (rest.take n1):=hpartH.out.below (Below.refl _ _).drew;refine takeC (i:=0) (d:=some 15) (v:=?_) rfl rfl (by kernel_rfl) (by kernel_rfl) (by kernel_rfl) (by kernel_rfl) (fun _ _ _ h=>h) (Or.inl ⟨by rfl,?_⟩) hC ?_
    rotate_left
    ·(intro w hSw;(try dsimp only at hSw);go_simp;(try with_reducible rfl))
    (try simp only[Act.put,List.setIfInBounds_toArray,List.set_cons_zero,List.set_cons_succ])
    refine takeC (i:=1) (d:=some 16) (v:=?_) rfl rfl (by kernel_rfl) (by kernel_rfl) (by kernel_rfl) (by kernel_rfl) (fun _ _ _ h=>h) (Or.inl ⟨by rfl,?_⟩) hC ?_
    rotate_left
    ·(intro w hSw;(try dsimp only at hSw);go_simp;(try with_reducible rfl))
    (try simp only[Act.put,List.setIfInBounds_toArray,List.set_cons_zero,List.set_cons_succ])
    refine takeC (i:=2) (d:=some 17) (v:=?_) rfl rfl (by kernel_rfl) (by kernel_rfl) (by kernel_rfl) (by kernel_rfl) (fun _ _ _ h=>h) (Or.inl ⟨by rfl,?_⟩) hC ?_
    rotate_left
    ·(intro w hSw;(try dsimp only at hSw);go_simp;(try with_reducible rfl))
    (try simp only[Act.put,List.setIfInBounds_toArray,List.set_cons_zero,List.set_cons_succ])
    refine takeC (i:=3) (d:=some 18) (v:=?_) rfl rfl (by kernel_rfl) (by kernel_rfl) (by kernel_rfl) (by kernel_rfl) (fun _ _ _ h=>h) (Or.inl ⟨by rfl,?_⟩) hC ?_
    rotate_left
    ·(intro w hSw;(try dsimp only at hSw);go_simp;(try with_reducible rfl))
    (try simp only[Act.put,List.setIfInBounds_toArray,List.set_cons_zero,List.set_cons_succ])
    refine takeC (i:=4) (d:=some 19) (v:=.string (bsOf (rest.take n1))) rfl rfl (by kernel_rfl) (by kernel_rfl) (by kernel_rfl) (by kernel_rfl) (fun _ _ _ h=>h) (Or.inl ⟨by rfl,?_⟩) hC ?_
    ·intro w hSw;have hcv:=conv_str (c:=c1) hSw;clear hSw;go_simp
    (try simp only[Act.put,List.setIfInBounds_toArray,List.set_cons_zero,List.set_cons_succ])
    refine takeC (i:=7) (d:=some 22) (v:=?_) rfl rfl (by kernel_rfl) (by kernel_rfl) (by kernel_rfl) (by kernel_rfl) (fun _ _ _ h=>h) (Or.inl ⟨by rfl,?_⟩) hC ?_
    rotate_left
    ·(intro w hSw;(try dsimp only at hSw);go_simp;(try with_reducible rfl))
    (try simp only[Act.put,List.setIfInBounds_toArray,List.set_cons_zero,List.set_cons_succ])
    refine takeC (i:=8) (d:=some 23) (v:=?_) rfl rfl (by kernel_rfl) (by kernel_rfl) (by kernel_rfl) (by kernel_rfl) (fun _ _ _ h=>h) (Or.inl ⟨by rfl,?_⟩) hC ?_
    rotate_left
    ·(intro w hSw;(try dsimp only at hSw);go_simp;(try with_reducible rfl))
    (try simp only[Act.put,List.setIfInBounds_toArray,List.set_cons_zero,List.set_cons_succ])
    refine takeC (i:=9) (d:=some 24) (v:=?_) rfl rfl (by kernel_rfl) (by kernel_rfl) (by kernel_rfl) (by kernel_rfl) (fun _ _ _ h=>h) (Or.inl ⟨by rfl,?_⟩) hC ?_
    rotate_left
    ·(intro w hSw;(try dsimp only at hSw);go_simp;(try with_reducible rfl))
    (try simp only[Act.put,List.setIfInBounds_toArray,List.set_cons_zero,List.set_cons_succ])
    refine oneR (i:=5) (by kernel_rfl) rfl (fun K hK=>?_);go_simp;have h5:Below wr.heap.size wr (wr.alloc (.cells #[.string (bsOf (rest.take n1))] 9)).drew:=((Below.refl _ _).alloc (Nat.le_refl _) _).drew;have hC5:=hpartH.out.below h5;refine hK.out _ _ ⟨fun _ _ _=>trivial,fun _ _=>hC5⟩ ?_;clear hK K
    (try simp only[Act.put,List.setIfInBounds_toArray,List.set_cons_zero,List.set_cons_succ])
    refine oneR (i:=6) (by kernel_rfl) rfl (fun K hK=>?_);have hts:(bsOf (rest.take n1)).size≤maxLen:=by
     have e:(bsOf (rest.take n1)).size=(rest.take n1).length:=List.size_toArray;rw[e,List.length_take];unfold maxLen;omega
    refine step_app1 (R:=RStr) (base:=w.heap.size) (v:=.slice A3 m3 c3) (l:=und out) ?g1 (.tmp 15) (.tmp 20) 24 ?g2 Tryz.underlying24 elem_StrX (by decide) ?g3 ?own wr.heap.size (bsOf (rest.take n1)) ?g4 ?g5 (fun _ _ _ _ h=>h) ?a4 ?a5 ?a6 (m3+1) ?a7 ?_
    case g1=>rfl
    case g2=>rfl
    case g3=>rfl
    case g4=>rfl
    case own=>exact hownH.out.below h5
    case g5=>exact(slAt_new (R:=RStr) wr _ _ hts).below (Below.refl _ _).drew
    case a4=>rw[und_len,hm3H.out];unfold maxLen;omega
    case a5=>rw[und_len,hm3H.out];omega
    case a6=>have:=(hbH.out.trans (h5.mono hbH.out.size)).size;exact this
    case a7=>rw[und_len,hm3H.out]
    intro A6 c6 w6 hown6 hb6;have hb06:Below w.heap.size w w6:=(hbH.out.trans (h5.mono hbH.out.size)).trans hb6;have R:LnRel l w (.slice A2 (n1-n1) (c1-n1)) (.slice A6 (m3+1) c6) w6:=by
     refine⟨k+n1,A2,n1-n1,c1-n1,A6,m3+1,c6,out ++ [rest.take n1],hkq,rfl,rfl,?_,?_,?_,hb06⟩
     ·rw[← hdkH.out];exact rsl_rest hokH.out (by omega) A2 hA2cH.out hA2nH.out
     ·rw[und_snoc];exact hown6
     ·rw[List.append_assoc,List.singleton_append,← hdkH.out];exact heqH.out
    have hC6:SlAt RU8 w6 (some ⟨b,off,none⟩) n1 (rest.take n1):=by
     have:=slAt_part (hs0H.out.below hb06) 0 n1 (by omega) rfl
     simpa using this
    (try rw[Nat.sub_self]at R)
    clear hown6 hb6 hb06 hC hC5;obtain⟨RH,h5H⟩:=hq2 R (Lib.hid h5);clear R h5;refine hK.out _ _ ⟨fun _ _ _=>trivial,fun _ _=>hC6⟩ ?_;clear hK K
    (try simp only[Act.put,List.setIfInBounds_toArray,List.set_cons_zero,List.set_cons_succ])
    refine oneR (i:=10) (by kernel_rfl) rfl (fun K hK=>?_);go_simp;refine hK.out _ _ ⟨fun _ _ _=>trivial,fun _ _=>hC6⟩ ?_;clear hK K
    (try simp only[Act.put,List.setIfInBounds_toArray,List.set_cons_zero,List.set_cons_succ])
    refine oneR (i:=11) (by kernel_rfl) rfl (fun K hK=>?_);go_simp;refine hK.out _ _ ⟨fun h=>absurd rfl h,fun h=>absurd rfl h⟩ ?_;clear hK K
    (try simp only[Act.put,List.setIfInBounds_toArray,List.set_cons_zero,List.set_cons_succ])
    refine doneR (by kernel_rfl) ?_ _;clear hC6;go_wp2;refine⟨?rel,?measure⟩
    case measure=>(simp[lenOf];omega)
    case rel=>exact RH.out
   ·rw[if_neg hi]at hcut;obtain rfl:ix=(q:Int)-1:=by omega
    clear hcutH hcut;go_wp2_with fail;obtain⟨A2,hA2⟩:∃ A2,(if c1=q then some (⟨b,off,none⟩:Addr) else some ⟨b,off+q,none⟩)=A2:=⟨_,rfl⟩;have hA2c:c1=q∨A2=some ⟨b,off+q,none⟩:=by
     by_cases h:c1=q
     ·exact .inl h
     ·rw[if_neg h]at hA2;exact .inr hA2.symm
    have hA2n:A2=none→c1-q=0:=fun h=>by rw[h]at hA2;split at hA2 <;> cases hA2
    obtain⟨hA2cH,hA2nH⟩:=hq2 hA2c (Lib.hid hA2n);clear hA2c hA2n;refine startR (R:=Rk (fun _=>True) (fun w'=>SlAt RU8 w' (some ⟨b,off,none⟩) q (rest.take q)) 11 11) (by kernel_rfl) ?_;have hC:SlAt RU8 wr.drew (some ⟨b,off,none⟩) q (rest.take q):=hpartH.out.below (Below.refl _ _).drew;refine takeC (i:=0) (d:=some 15) (v:=?_) rfl rfl (by kernel_rfl) (by kernel_rfl) (by kernel_rfl) (by kernel_rfl) (fun _ _ _ h=>h) (Or.inl ⟨by rfl,?_⟩) hC ?_
    rotate_left
    ·(intro w hSw;(try dsimp only at hSw);go_simp;(try with_reducible rfl))
    (try simp only[Act.put,List.setIfInBounds_toArray,List.set_cons_zero,List.set_cons_succ])
    refine takeC (i:=1) (d:=some 16) (v:=?_) rfl rfl (by kernel_rfl) (by kernel_rfl) (by kernel_rfl) (by kernel_rfl) (fun _ _ _ h=>h) (Or.inl ⟨by rfl,?_⟩) hC ?_
    rotate_left
    ·(intro w hSw;(try dsimp only at hSw);go_simp;(try with_reducible rfl))
    (try simp only[Act.put,List.setIfInBounds_toArray,List.set_cons_zero,List.set_cons_succ])
    refine takeC (i:=2) (d:=some 17) (v:=?_) rfl rfl (by kernel_rfl) (by kernel_rfl) (by kernel_rfl) (by kernel_rfl) (fun _ _ _ h=>h) (Or.inl ⟨by rfl,?_⟩) hC ?_
    rotate_left
    ·(intro w hSw;(try dsimp only at hSw);go_simp;(try with_reducible rfl))
    (try simp only[Act.put,List.setIfInBounds_toArray,List.set_cons_zero,List.set_cons_succ])
    refine takeC (i:=3) (d:=some 18) (v:=?_) rfl rfl (by kernel_rfl) (by kernel_rfl) (by kernel_rfl) (by kernel_rfl) (fun _ _ _ h=>h) (Or.inl ⟨by rfl,?_⟩) hC ?_
    rotate_left
    ·(intro w hSw;(try dsimp only at hSw);go_simp;(try with_reducible rfl))
    (try simp only[Act.put,List.setIfInBounds_toArray,List.set_cons_zero,List.set_cons_succ])
    refine takeC (i:=4) (d:=some 19) (v:=.string (bsOf (rest.take q))) rfl rfl (by kernel_rfl) (by kernel_rfl) (by kernel_rfl) (by kernel_rfl) (fun _ _ _ h=>h) (Or.inl ⟨by rfl,?_⟩) hC ?_
    ·intro w hSw;have hcv:=conv_str (c:=c1) hSw;clear hSw;go_simp
    (try simp only[Act.put,List.setIfInBounds_toArray,List.set_cons_zero,List.set_cons_succ])
    refine takeC (i:=7) (d:=some 22) (v:=?_) rfl rfl (by kernel_rfl) (by kernel_rfl) (by kernel_rfl) (by kernel_rfl) (fun _ _ _ h=>h) (Or.inl ⟨by rfl,?_⟩) hC ?_
    rotate_left
    ·(intro w hSw;(try dsimp only at hSw);go_simp;(try with_reducible rfl))
    (try simp only[Act.put,List.setIfInBounds_toArray,List.set_cons_zero,List.set_cons_succ])
    refine takeC (i:=8) (d:=some 23) (v:=?_) rfl rfl (by kernel_rfl) (by kernel_rfl) (by kernel_rfl) (by kernel_rfl) (fun _ _ _ h=>h) (Or.inl ⟨by rfl,?_⟩) hC ?_
    rotate_left
    ·(intro w hSw;(try dsimp only at hSw);go_simp;(try with_reducible rfl))
    (try simp only[Act.put,List.setIfInBounds_toArray,List.set_cons_zero,List.set_cons_succ])
    refine takeC (i:=9) (d:=some 24) (v:=?_) rfl rfl (by kernel_rfl) (by kernel_rfl) (by kernel_rfl) (by kernel_rfl) (fun _ _ _ h=>h) (Or.inl ⟨by rfl,?_⟩) hC ?_
    rotate_left
    ·(intro w hSw;(try dsimp only at hSw);go_simp;(try with_reducible rfl))
    (try simp only[Act.put,List.setIfInBounds_toArray,List.set_cons_zero,List.set_cons_succ])
    refine oneR (i:=5) (by kernel_rfl) rfl (fun K hK=>?_);go_simp;have h5:Below wr.heap.size wr (wr.alloc (.cells #[.string (bsOf (rest.take q))] 9)).drew:=((Below.refl _ _).alloc (Nat.le_refl _) _).drew;have hC5:=hpartH.out.below h5;refine hK.out _ _ ⟨fun _ _ _=>trivial,fun _ _=>hC5⟩ ?_;clear hK K
    (try simp only[Act.put,List.setIfInBounds_toArray,List.set_cons_zero,List.set_cons_succ])
    refine oneR (i:=6) (by kernel_rfl) rfl (fun K hK=>?_);have hts:(bsOf (rest.take q)).size≤maxLen:=by
     have e:(bsOf (rest.take q)).size=(rest.take q).length:=List.size_toArray;rw[e,List.length_take];unfold maxLen;omega
    refine step_app1 (R:=RStr) (base:=w.heap.size) (v:=.slice A3 m3 c3) (l:=und out) ?g1 (.tmp 15) (.tmp 20) 24 ?g2 Tryz.underlying24 elem_StrX (by decide) ?g3 ?own wr.heap.size (bsOf (rest.take q)) ?g4 ?g5 (fun _ _ _ _ h=>h) ?a4 ?a5 ?a6 (m3+1) ?a7 ?_
    case g1=>rfl
    case g2=>rfl
    case g3=>rfl
    case g4=>rfl
    case own=>exact hownH.out.below h5
    case g5=>exact(slAt_new (R:=RStr) wr _ _ hts).below (Below.refl _ _).drew
    case a4=>rw[und_len,hm3H.out];unfold maxLen;omega
    case a5=>rw[und_len,hm3H.out];omega
    case a6=>have:=(hbH.out.trans (h5.mono hbH.out.size)).size;exact this
    case a7=>rw[und_len,hm3H.out]
    intro A6 c6 w6 hown6 hb6;have hb06:Below w.heap.size w w6:=(hbH.out.trans (h5.mono hbH.out.size)).trans hb6;have R:LnRel l w (.slice A2 (n1-q) (c1-q)) (.slice A6 (m3+1) c6) w6:=by
     refine⟨k+q,A2,n1-q,c1-q,A6,m3+1,c6,out ++ [rest.take q],hkq,rfl,rfl,?_,?_,?_,hb06⟩
     ·rw[← hdkH.out];exact rsl_rest hokH.out (by omega) A2 hA2cH.out hA2nH.out
     ·rw[und_snoc];exact hown6
     ·rw[List.append_assoc,List.singleton_append,← hdkH.out];exact heqH.out
    have hC6:SlAt RU8 w6 (some ⟨b,off,none⟩) q (rest.take q):=by
     have:=slAt_part (hs0H.out.below hb06) 0 q (by omega) rfl
     simpa using this
    (try rw[Nat.sub_self]at R)
    clear hown6 hb6 hb06 hC hC5;obtain⟨RH,h5H⟩:=hq2 R (Lib.hid h5);clear R h5;refine hK.out _ _ ⟨fun _ _ _=>trivial,fun _ _=>hC6⟩ ?_;clear hK K
    (try simp only[Act.put,List.setIfInBounds_toArray,List.set_cons_zero,List.set_cons_succ])
    refine oneR (i:=10) (by kernel_rfl) rfl (fun K hK=>?_);go_simp;refine hK.out _ _ ⟨fun _ _ _=>trivial,fun _ _=>hC6⟩ ?_;clear hK K
    (try simp only[Act.put,List.setIfInBounds_toArray,List.set_cons_zero,List.set_cons_succ])
    refine oneR (i:=11) (by kernel_rfl) rfl (fun K hK=>?_);go_simp;refine hK.out _ _ ⟨fun h=>absurd rfl h,fun h=>absurd rfl h⟩ ?_;clear hK K
    (try simp only[Act.put,List.setIfInBounds_toArray,List.set_cons_zero,List.set_cons_succ])
    refine doneR (by kernel_rfl) ?_ _;clear hC6;go_wp2;refine⟨?rel,?measure⟩
    case measure=>(simp[lenOf];omega)
    case rel=>exact RH.out
  ·obtain rfl:n1=0:=by omega
   have e:l.drop k = []:=List.eq_nil_of_length_eq_zero hl1;rw[e,linesP_nil,List.append_nil]at heq;have R:=hZ'H.out (.returned (.slice A3 m3 c3)) wr ⟨A3,m3,c3,rfl,by rw[← heq];exact hown,hb⟩;clear e heq hl1 hm3 hoL;obtain⟨hokH,hs0H,hownH,hbH,RH⟩:=hqb hok hs0 hown hb (Lib.hid R);clear hok hs0 hown hb R;go_wp2_with fail;exact RH.out
theorem bsOf_size (l:List UInt8):(bsOf l).size=l.length:=List.size_toArray
theorem trimNl_len (s:List UInt8):(trimNl s).length≤s.length:=by
 unfold trimNl Lib.trimSuffix
 split
 ·rw[List.length_take];omega
 ·exact Nat.le_refl _
theorem endedP_len (s:List UInt8):(endedP s).length≤s.length+1:=by
 have:=trimNl_len s;unfold endedP;rw[List.length_append,List.length_singleton];omega
theorem ended_any (s:List UInt8) (w:World) (hs:s.length≤1000000000) :
  Calls Tryz.prog 142 #[.string (bsOf s)] w fun e w'=>e = .returned (.string (bsOf (endedP s)))∧w=w':=by
 have h1:=trimNl_len s;have e1:(bsOf (trimNl s)).size=(trimNl s).length:=bsOf_size _;have n1:¬ 9223372036854775807<(bsOf (trimNl s)).size+1:=by omega
 have e2:bsOf (trimNl s)++(⟨#[10]⟩:ByteArray)=bsOf (endedP s):=by
  unfold endedP bsOf;apply ByteArray.ext;simp[ByteArray.data_append]
 have hc:=Tryz.strings_TrimSuffix (bsOf s) ⟨#[10]⟩ w (by rw[bsOf_size];omega);have e3:(⟨(Lib.trimSuffix (bsOf s).data.toList (⟨#[10]⟩:ByteArray).data.toList).toArray⟩:ByteArray)=bsOf (trimNl s):=by rw[data_bsOf];rfl
 rw[e3]at hc;clear e3 e1;obtain⟨hcH,e2H⟩:=hq2 hc (Lib.hid e2);clear hc e2;go_enter Tryz.func142,Tryz.ntmps142;go_wp2_with fail;refine hcH.out.mono ?_;rintro e w1 ⟨rfl,rfl⟩;go_wp2_with fail;go_ret;exact⟨congrArg (fun x=>Ending.returned (.string x)) e2H.out,rfl⟩
end Go.Proofs.YtdiaabeollcjaaaGreatDoor.C10
namespace Go.Proofs.YtdiaabeollcjaaaGreatDoor.C10
open Go.ChangeShapes Go.WideShapes Go.Deep Go.RowKit
theorem clone_strs (A:Option Addr) (m c:Nat) (l:List ByteArray) (w:World) (h:(RSl RStr).ok w ⟨A,m,c,l⟩) (hm:m≤1000000) :
  Calls Tryz.prog 139 #[.slice A m c] w fun e w' =>
   ∃ A' c',e = .returned (.slice A' m c')∧Own RStr 9 w' w.heap.size (.slice A' m c') l∧Below w.heap.size w w':=by
 obtain⟨h,h1,h2,h3⟩:=h;simp only at h h1 h2 h3
 cases A with
 | none =>
  obtain rfl:c=0:=h3 rfl;obtain rfl:m=0:=by omega
  obtain rfl:l = []:=List.eq_nil_of_length_eq_zero h.1;clear h h1 h2 h3;have he:=fun W:World=>Lib.run_eql_slice_nil (P:=Tryz.prog) W 24 9 none 0 0 0 0 Tryz.underlying24;go_enter Tryz.func139,Tryz.ntmps139;go_wp2;go_ret;exact⟨none,0,rfl,Own.nil _ _,Below.refl _ _⟩
 | some ad =>
  clear h1 h2 h3;have hH:=Lib.hid h;clear h;have he:=fun W:World=>Lib.run_eql_slice_nil (P:=Tryz.prog) W 24 9 (some ad) m c 0 0 Tryz.underlying24;go_enter Tryz.func139,Tryz.ntmps139;go_wp2_with (at_builtin;go_loud (refine wpList_app rfl (.tmp 5) (.tmp 6) 24 rfl Tryz.underlying24 elem_StrX (by decide) rfl (Own.empty w) (some ad) m c l rfl ?rd ?nn ?ok ?c1 ?c2 ?c3 m ?c4 ?_))
  case rd=>exact hH.out.below ((Below.refl _ _).alloc (Nat.le_refl _) _)
  case nn=>intro _ h;cases h
  case ok=>exact fun _ _ _ _ h=>h
  case c1=>simp[maxLen];omega
  case c2=>simp;omega
  case c3=>simp
  case c4=>simp
  intro A' c' w1 hown hg hat hb;go_wp2;go_ret;exact⟨A',c',rfl,hown,((Below.refl _ _).alloc (Nat.le_refl _) _).trans hb⟩
end Go.Proofs.YtdiaabeollcjaaaGreatDoor.C10
namespace Go.Proofs.YtdiaabeollcjaaaGreatDoor.C10
open Go.ChangeShapes Go.WideShapes Go.Deep Go.RowKit Go.Maps
def MS (n xb:Nat) (v:Value):Nat→Prop:=fun k=>WS n k∨k=xb∨v.ownBlock=some k
def Dis (v v':Value) (w:World):Prop:=∀ b,v'.ownBlock=some b→v.ownBlock=some b∨w.heap.size≤b
theorem Dis.refl (v:Value) (w:World):Dis v v w:=fun b h=>.inl h
theorem Dis.trans {v v' v'':Value} {w w':World} (h:Dis v v' w) (h':Dis v' v'' w') (hs:w.heap.size≤w'.heap.size):Dis v v'' w:=fun b hb=>by
 rcases h' b hb with h1 | h1
 ·exact h b h1
 ·exact .inr (Nat.le_trans hs h1)
theorem Kp.msTrans {n xb:Nat} {v v':Value} {w w' w'':World} (h:Kp (MS n xb v) w w') (hd:Dis v v' w) (h':Kp (MS n xb v') w' w''):Kp (MS n xb v) w w'' :=
 h.old h' fun i hi hs=>by
  rcases hs with hs | hs | hs
  ·exact .inl hs
  ·exact .inr (.inl hs)
  ·rcases hd i hs with h1 | h1
   ·exact .inr (.inr h1)
   ·omega
structure RowS (n xb:Nat) (v:Value) (w:World) (A:Option Addr) (m:Nat) (l:List ByteArray):Prop where
 sl:SlAt RStr w A m l
 far:0<m→∀ ad,A=some ad→¬ MS n xb v ad.block
theorem slAt_lt {α:Type} {R:Rd α} {w:World} {ad:Addr} {m:Nat} {l:List α} (h:SlAt R w (some ad) m l) (h0:0<m) (hs:0<R.size):ad.block<w.heap.size:=by
 obtain⟨b,off,hA,hc⟩:=h.2.1 h0;obtain rfl:ad=⟨b,off,none⟩:=by simpa using hA
 have hl:=h.1;have hx:l[0]? = some (l[0]'(by omega)):=List.getElem?_eq_getElem _;have hv:(R.vals (l[0]'(by omega)))[0]? = some ((R.vals (l[0]'(by omega)))[0]'(by rw[R.len];exact hs)):=List.getElem?_eq_getElem _;have:=cell?_lt (hc 0 _ hx 0 _ hv);exact this
theorem RowS.step {n xb:Nat} {v v':Value} {w w':World} {A:Option Addr} {m:Nat} {l:List ByteArray} (h:RowS n xb v w A m l) (hk:Kp (MS n xb v) w w') (hd:Dis v v' w):RowS n xb v' w' A m l:=by
 refine⟨hk.slAt h.sl h.far (fun _ h=>h),fun h0 ad hA hs=>?_⟩;have hf:=h.far h0 ad hA
 rcases hs with hs | hs | hs
 ·exact hf (.inl hs)
 ·exact hf (.inr (.inl hs))
 ·rcases hd _ hs with h1 | h1
  ·exact hf (.inr (.inr h1))
  ·have:=h.sl;rw[hA]at this;have:=slAt_lt this h0 (by decide);omega
structure XA (W0:World) (n T:Nat) (x:Action) (I:Inp) (B xb:Nat) (s:ES) (cl:Nat) (y:XS) (A:Option Addr) (m c:Nat) (w:World):Prop where
 wa:WA W0 n T x I s cl w
 blk:Blk w xb [.pointer (some ⟨n+3,0,none⟩),.slice A m c,.int .i64 (y.2:Nat)]
 own:Own RU8 5 w B (.slice A m c) y.1
 xge:n+4≤xb
 xT:T≤xb
 xB:xb<B
 ble:B≤w.heap.size
section
variable {W0:World} {n T:Nat} {x:Action} {I:Inp} {B xb:Nat} {s:ES} {cl:Nat} {y:XS} {A:Option Addr} {m c:Nat} {w w':World}
theorem XA.ownB (h:XA W0 n T x I B xb s cl y A m c w) {b:Nat} (hb:(Value.slice A m c).ownBlock=some b):B≤b∧b<w.heap.size:=h.own.1.lt b hb
theorem XA.work (h:XA W0 n T x I B xb s cl y A m c w) {s':ES} {cl':Nat} (hw:WA W0 n T x I s' cl' w') (hk:Kp (WS n) w w'):XA W0 n T x I B xb s' cl' y A m c w':=by
 have h1:=h.xge;have h2:=h.xB;refine⟨hw,hk.blk h.blk (by simp) (fun e=>by have:=wS_le e;omega),hk.own h.own (fun b hb e=>by have:=wS_le e;have:=(h.ownB hb).1;omega) (fun _ h=>h),h.xge,h.xT,h.xB,Nat.le_trans h.ble hk.size⟩
theorem XA.below (h:XA W0 n T x I B xb s cl y A m c w) (hb:Below w.heap.size w w'):XA W0 n T x I B xb s cl y A m c w':=h.work (h.wa.below hb) (Kp.of_below hb)
theorem XA.put (h:XA W0 n T x I B xb s cl y A m c w) {y':XS} {A':Option Addr} {m' c':Nat} (hk:Kp (fun k=>k=xb∨(Value.slice A m c).ownBlock=some k) w w')
  (hb:Blk w' xb [.pointer (some ⟨n+3,0,none⟩),.slice A' m' c',.int .i64 (y'.2:Nat)]) (ho:Own RU8 5 w' B (.slice A' m' c') y'.1):XA W0 n T x I B xb s cl y' A' m' c' w':=by
 have h1:=h.xge;have h2:=h.xB;have h3:=h.xT;refine⟨h.wa.far hk fun k _ hs=>?_,hb,ho,h.xge,h.xT,h.xB,Nat.le_trans h.ble hk.size⟩
 rcases hs with rfl | hs
 ·exact⟨h1,h3⟩
 ·have:=(h.ownB hs).1;omega
end
def FlAns (W0:World) (n T:Nat) (x:Action) (I:Inp) (B xb:Nat) (r:(Int × XS) × ES) (cl:Nat) (y:XS) (v:Value) (w:World) (e:Ending) (w':World):Prop :=
 ∃ A' m' c' cl',e = .returned (.int .i64 r.1.1)∧XA W0 n T x I B xb r.2 cl' r.1.2 A' m' c' w'∧(0≤r.1.1∧r.1.1≤5)∧r.1.2.1.length≤300000 ∧
  (r.1.1=0→r.1.2.1.length≤100000∧r.1.2.2≤10000∧cl'+y.2≤cl+r.1.2.2)∧y.2≤r.1.2.2∧r.1.2.2≤10001∧cl'+y.2≤cl+r.1.2.2+1∧Kp (MS n xb v) w w'∧Dis v (.slice A' m' c') w
end Go.Proofs.YtdiaabeollcjaaaGreatDoor.C10