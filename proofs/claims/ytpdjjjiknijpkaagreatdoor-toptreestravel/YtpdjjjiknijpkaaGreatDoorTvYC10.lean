/-
 Several texts of mine as one, without what is not wanted here: XR1F, XAppS, XAlvX, XAlwX, XTtV.
-/
import Derived.Lib.SlBytesConst
import Derived.Test.YtpdjjjiknijpkaaGreatDoorTvWC10
import Derived.Test.YtpdjjjiknijpkaaGreatDoorTvXC10
set_option linter.unusedVariables false
set_option linter.unusedSimpArgs false
set_option maxRecDepth 100000
set_option maxHeartbeats 8000000
namespace Go.Proofs.YtpdjjjiknijpkaaGreatDoor.C10
open Go.ChangeShapes Go.WideShapes Go.Deep Go.RowKit Go.Lib
def FtRel (L:List (SlD UInt8)) (w0:World) (i:Value) (wr:World):Prop:=∃ k:Nat,k≤L.length∧i = .int .i64 k∧Below w0.heap.size w0 wr∧∀ (a b:Nat) x z,a<k→b<a→L[a]? = some x→L[b]? = some z→digF x.l=digF z.l→x.l=z.l
def FtRel2 (L:List (SlD UInt8)) (w0:World) (k:Nat) (x:SlD UInt8) (j:Value) (wr:World):Prop:=∃ t:Nat,t≤k∧j = .int .i64 t∧Below w0.heap.size w0 wr∧∀ (b:Nat) z,b<t→L[b]? = some z→digF x.l=digF z.l→x.l=z.l
def FtAns (L:List (SlD UInt8)) (w:World) (e:Ending) (w':World):Prop:=∃ b,e = .returned (.bool b)∧Below w.heap.size w w'∧(b=true→∀ (a b:Nat) x z,b<a→L[a]? = some x→L[b]? = some z→digF x.l=digF z.l→x.l=z.l)
theorem cell_Bv {w:World} {b off n k:Nat} {L:List (SlD UInt8)} {x:SlD UInt8} (h:SlAt RBv w (some ⟨b,off,none⟩) n L) (hx:L[k]? = some x):w.cell? ⟨b,off+k,none⟩=some (.slice x.A x.n x.cap):=by
 have hk:=(List.getElem?_eq_some_iff.1 hx).1;obtain⟨b',off',hA,hc⟩:=h.2.1 (by have:=h.1;omega);obtain⟨rfl,rfl⟩:b=b'∧off=off':=by simpa using hA
 have:=hc k x hx 0 _ rfl
 simpa[RBv]using this
theorem faithful_any (A:Option Addr) (n c:Nat) (L:List (SlD UInt8)) (w:World) (hl:SlAt RBv w A n L) (hu:∀ x∈L,(RSl RU8).ok w x∧x.n≤2000000) (hn:n≤1000000) :
  Calls Tryz.prog 19 #[.slice A n c] w (FtAns L w):=by
 obtain⟨Z,hZ⟩:∃ Z,FtAns L w=Z:=⟨_,rfl⟩;have hZ':∀ e W,FtAns L w e W→Z e W:=fun e W h=>by rw[← hZ];exact h
 rw[hZ];clear hZ;have hLn:L.length=n:=hl.1;have hst:FtRel L w (.int .i64 0) w:=⟨0,Nat.zero_le _,rfl,Below.refl _ _,fun a b x z h=>absurd h (by omega)⟩;obtain⟨hZ'H,hlH,huH,hstH⟩:=hq2 hZ' (hq2 hl (hq2 hu (Lib.hid hst)));clear hZ' hl hu hst;go_enter Tryz.func19,Tryz.ntmps19;go_wp2_with fail
 go_loopw [3] (fun i wr=>FtRel L w i wr) (fun i _=>n-(intOf i).toNat)
 case atStart=>exact hstH.out
 case round =>
  clear hstH;obtain⟨k,hk,rfl,hb,hall⟩:=hrel
  by_cases hlt:k<n
  ·obtain⟨x,hx⟩:∃ x,L[k]? = some x:=⟨L[k]'(by omega),List.getElem?_eq_getElem _⟩;have hst2:FtRel2 L w k x (.int .i64 0) wr:=⟨0,Nat.zero_le _,rfl,hb,fun b z h=>absurd h (by omega)⟩;clear hb;obtain⟨hxH,hallH,hst2H⟩:=hq2 hx (hq2 hall (Lib.hid hst2));clear hx hall hst2;go_wp2_with fail
   go_loopw [4] (fun j wr=>FtRel2 L w k x j wr) (fun j _=>k-(intOf j).toNat)
   case atStart=>exact hst2H.out
   case round =>
    clear hst2H;obtain⟨t,ht,rfl,hb,hno⟩:=hrel
    by_cases hlt2:t<k
    ·obtain⟨z,hz⟩:∃ z,L[t]? = some z:=⟨L[t]'(by omega),List.getElem?_eq_getElem _⟩;have hltn:t<n:=by omega
     have hslr:=hlH.out.below hb;obtain⟨bb,oo,hA,_⟩:=hslr.2.1 (by omega);subst hA;have cx:=cell_Bv hslr hxH.out;have cz:=cell_Bv hslr hz;obtain⟨hxu,hxn⟩:=huH.out x (List.mem_of_getElem? hxH.out);obtain⟨hzu,hzn⟩:=huH.out z (List.mem_of_getElem? hz);have hbd:Below w.heap.size w wr.drew:=hb.drew;have hxd:=hxu.1.below hbd;have hzd:=hzu.1.below hbd;have h1:=rdig_any x.A x.n x.cap x.l wr.drew hxd (by omega);have h2:=rdig_any z.A z.n z.cap z.l wr.drew hzd (by omega);have h3:=eqB_any x.A z.A x.n x.cap z.n z.cap x.l z.l wr.drew hxd hzd;obtain⟨dx,hdx⟩:∃ d,digF x.l=d:=⟨_,rfl⟩;obtain⟨dz,hdz⟩:∃ d,digF z.l=d:=⟨_,rfl⟩;obtain⟨bq,hbq⟩:∃ b,(x.l==z.l)=b:=⟨_,rfl⟩;rw[hdx]at h1;rw[hdz]at h2;rw[hbq]at h3;obtain⟨bd,hbdq⟩:∃ b,(dx.toList==dz.toList)=b:=⟨_,rfl⟩;have Rn:(dx=dz→x.l=z.l)→FtRel2 L w k x (.int .i64 ((t:Int)+1)) wr.drew:=fun h=>⟨t+1,by omega,by go_num,hbd,fun b y hb9 hy he=>by
      rcases Nat.lt_or_ge b t with h9 | h9
      ·exact hno b y h9 hy he
      ·obtain rfl:b=t:=by omega
       rw[hz]at hy;injection hy with hy;subst hy;exact h (by rw[← hdx,← hdz];exact he)⟩
     have Rf:=hZ'H.out (.returned (.bool false)) wr.drew ⟨false,rfl,hbd,fun h=>by cases h⟩;obtain⟨xA,xn,xc,xl⟩:=x;obtain⟨zA,zn,zc,zl⟩:=z;simp only at cx cz h1 h2 h3;obtain⟨hzH,hbH,hnoH,hslrH,hxuH,hzuH,hbdH,hxdH,hzdH,h1H,h2H,h3H,hdxH,hdzH,hbqH,RnH,RfH⟩:=hqc hz hb hno hslr hxu hzu hbd hxd (hqc hzd h1 h2 h3 hdx hdz hbq Rn (Lib.hid Rf));clear hz hb hno hslr hxu hzu hbd hxd hzd h1 h2 h3 hdx hdz hbq Rn Rf;go_wp2_with fail;refine startR (R:=Rk (fun _=>True) (fun V=>V.cell? ⟨bb,oo+k,none⟩=some (.slice xA xn xc)∧V.cell? ⟨bb,oo+t,none⟩=some (.slice zA zn zc)) 99 99) (by kernel_rfl) ?_;have hC:wr.drew.cell? ⟨bb,oo+k,none⟩=some (.slice xA xn xc)∧wr.drew.cell? ⟨bb,oo+t,none⟩=some (.slice zA zn zc):=⟨cx,cz⟩;refine takeC (i:=0) (d:=some 16) (v:=?_) rfl rfl (by kernel_rfl) (by kernel_rfl) (by kernel_rfl) (by kernel_rfl) (fun _ _ _ h=>h) (Or.inl ⟨by rfl,?_⟩) hC ?_
     rotate_left
     ·(intro w hSw;(try dsimp only at hSw);go_simp;(try with_reducible rfl))
     (try simp only[Act.put,List.setIfInBounds_toArray,List.set_cons_zero,List.set_cons_succ])
     refine takeC (i:=1) (d:=some 17) (v:=?_) rfl rfl (by kernel_rfl) (by kernel_rfl) (by kernel_rfl) (by kernel_rfl) (fun _ _ _ h=>h) (Or.inl ⟨by rfl,?_⟩) hC ?_
     rotate_left
     ·(intro w hSw;(try dsimp only at hSw);go_simp;(try with_reducible rfl))
     (try simp only[Act.put,List.setIfInBounds_toArray,List.set_cons_zero,List.set_cons_succ])
     refine takeC (i:=2) (d:=some 18) (v:=?_) rfl rfl (by kernel_rfl) (by kernel_rfl) (by kernel_rfl) (by kernel_rfl) (fun _ _ _ h=>h) (Or.inl ⟨by rfl,?_⟩) hC ?_
     rotate_left
     ·(intro w hSw;(try dsimp only at hSw);go_simp;(try with_reducible rfl))
     (try simp only[Act.put,List.setIfInBounds_toArray,List.set_cons_zero,List.set_cons_succ])
     refine takeC (i:=3) (d:=some 19) (v:=?_) rfl rfl (by kernel_rfl) (by kernel_rfl) (by kernel_rfl) (by kernel_rfl) (fun _ _ _ h=>h) (Or.inl ⟨by rfl,?_⟩) hC ?_
     rotate_left
     ·(intro w hSw;(try dsimp only at hSw);go_simp;(try with_reducible rfl))
     (try simp only[Act.put,List.setIfInBounds_toArray,List.set_cons_zero,List.set_cons_succ])
     refine takeC (i:=5) (d:=some 21) (v:=?_) rfl rfl (by kernel_rfl) (by kernel_rfl) (by kernel_rfl) (by kernel_rfl) (fun _ _ _ h=>h) (Or.inl ⟨by rfl,?_⟩) hC ?_
     rotate_left
     ·(intro w hSw;(try dsimp only at hSw);go_simp;(try with_reducible rfl))
     (try simp only[Act.put,List.setIfInBounds_toArray,List.set_cons_zero,List.set_cons_succ])
     refine takeC (i:=6) (d:=some 22) (v:=?_) rfl rfl (by kernel_rfl) (by kernel_rfl) (by kernel_rfl) (by kernel_rfl) (fun _ _ _ h=>h) (Or.inl ⟨by rfl,?_⟩) hC ?_
     rotate_left
     ·(intro w hSw;(try dsimp only at hSw);go_simp;(try with_reducible rfl))
     (try simp only[Act.put,List.setIfInBounds_toArray,List.set_cons_zero,List.set_cons_succ])
     refine takeC (i:=7) (d:=some 23) (v:=?_) rfl rfl (by kernel_rfl) (by kernel_rfl) (by kernel_rfl) (by kernel_rfl) (fun _ _ _ h=>h) (Or.inl ⟨by rfl,?_⟩) hC ?_
     rotate_left
     ·(intro w hSw;(try dsimp only at hSw);go_simp;(try with_reducible rfl))
     (try simp only[Act.put,List.setIfInBounds_toArray,List.set_cons_zero,List.set_cons_succ])
     refine takeC (i:=8) (d:=some 24) (v:=?_) rfl rfl (by kernel_rfl) (by kernel_rfl) (by kernel_rfl) (by kernel_rfl) (fun _ _ _ h=>h) (Or.inl ⟨by rfl,?_⟩) hC ?_
     rotate_left
     ·(intro w hSw;(try dsimp only at hSw);go_simp;(try with_reducible rfl))
     (try simp only[Act.put,List.setIfInBounds_toArray,List.set_cons_zero,List.set_cons_succ])
     refine oneR (i:=4) (by kernel_rfl) rfl (fun K hK=>?_);go_simp;go_at_call 48;refine h1H.out.mono ?_;rintro e w9 ⟨rfl,rfl⟩;refine hK.out _ _ ⟨fun _ _ _=>trivial,fun _ _=>hC⟩ ?_;clear hK K
     (try simp only[Act.put,List.setIfInBounds_toArray,List.set_cons_zero,List.set_cons_succ])
     refine oneR (i:=9) (by kernel_rfl) rfl (fun K hK=>?_);go_simp;go_at_call 48;refine h2H.out.mono ?_;rintro e w9 ⟨rfl,rfl⟩;refine hK.out _ _ ⟨fun _ _ _=>trivial,fun _ _=>hC⟩ ?_;clear hK K
     (try simp only[Act.put,List.setIfInBounds_toArray,List.set_cons_zero,List.set_cons_succ])
     cases bd
     ·refine takeC (i:=10) (d:=some 26) (v:=?_) rfl rfl (by kernel_rfl) (by kernel_rfl) (by kernel_rfl) (by kernel_rfl) (fun _ _ _ h=>h) (Or.inl ⟨by rfl,?_⟩) hC ?_
      rotate_left
      ·(intro w hSw;(try dsimp only at hSw);go_simp;(try with_reducible rfl))
      (try simp only[Act.put,List.setIfInBounds_toArray,List.set_cons_zero,List.set_cons_succ])
      refine takeC (i:=11) (d:=some 27) (v:=?_) rfl rfl (by kernel_rfl) (by kernel_rfl) (by kernel_rfl) (by kernel_rfl) (fun _ _ _ h=>h) (Or.inl ⟨by rfl,?_⟩) hC ?_
      rotate_left
      ·(intro w hSw;(try dsimp only at hSw);go_simp;(try with_reducible rfl))
      (try simp only[Act.put,List.setIfInBounds_toArray,List.set_cons_zero,List.set_cons_succ])
      refine takeC (i:=12) (d:=some 28) (v:=undef) rfl rfl (by kernel_rfl) (by kernel_rfl) (by kernel_rfl) (by kernel_rfl) (fun _ _ _ h=>h) (Or.inr ⟨by rfl,rfl⟩) hC ?_
      (try simp only[Act.put,List.setIfInBounds_toArray,List.set_cons_zero,List.set_cons_succ])
      refine takeC (i:=13) (d:=some 29) (v:=undef) rfl rfl (by kernel_rfl) (by kernel_rfl) (by kernel_rfl) (by kernel_rfl) (fun _ _ _ h=>h) (Or.inr ⟨by rfl,rfl⟩) hC ?_
      (try simp only[Act.put,List.setIfInBounds_toArray,List.set_cons_zero,List.set_cons_succ])
      refine takeC (i:=14) (d:=some 30) (v:=undef) rfl rfl (by kernel_rfl) (by kernel_rfl) (by kernel_rfl) (by kernel_rfl) (fun _ _ _ h=>h) (Or.inr ⟨by rfl,rfl⟩) hC ?_
      (try simp only[Act.put,List.setIfInBounds_toArray,List.set_cons_zero,List.set_cons_succ])
      refine takeC (i:=15) (d:=some 31) (v:=undef) rfl rfl (by kernel_rfl) (by kernel_rfl) (by kernel_rfl) (by kernel_rfl) (fun _ _ _ h=>h) (Or.inr ⟨by rfl,rfl⟩) hC ?_
      (try simp only[Act.put,List.setIfInBounds_toArray,List.set_cons_zero,List.set_cons_succ])
      refine takeC (i:=16) (d:=some 32) (v:=undef) rfl rfl (by kernel_rfl) (by kernel_rfl) (by kernel_rfl) (by kernel_rfl) (fun _ _ _ h=>h) (Or.inr ⟨by rfl,rfl⟩) hC ?_
      (try simp only[Act.put,List.setIfInBounds_toArray,List.set_cons_zero,List.set_cons_succ])
      refine takeC (i:=17) (d:=some 33) (v:=undef) rfl rfl (by kernel_rfl) (by kernel_rfl) (by kernel_rfl) (by kernel_rfl) (fun _ _ _ h=>h) (Or.inr ⟨by rfl,rfl⟩) hC ?_
      (try simp only[Act.put,List.setIfInBounds_toArray,List.set_cons_zero,List.set_cons_succ])
      refine takeC (i:=18) (d:=some 34) (v:=undef) rfl rfl (by kernel_rfl) (by kernel_rfl) (by kernel_rfl) (by kernel_rfl) (fun _ _ _ h=>h) (Or.inr ⟨by rfl,rfl⟩) hC ?_
      (try simp only[Act.put,List.setIfInBounds_toArray,List.set_cons_zero,List.set_cons_succ])
      refine takeC (i:=19) (d:=some 35) (v:=undef) rfl rfl (by kernel_rfl) (by kernel_rfl) (by kernel_rfl) (by kernel_rfl) (fun _ _ _ h=>h) (Or.inr ⟨by rfl,rfl⟩) hC ?_
      (try simp only[Act.put,List.setIfInBounds_toArray,List.set_cons_zero,List.set_cons_succ])
      refine takeC (i:=20) (d:=some 36) (v:=undef) rfl rfl (by kernel_rfl) (by kernel_rfl) (by kernel_rfl) (by kernel_rfl) (fun _ _ _ h=>h) (Or.inr ⟨by rfl,rfl⟩) hC ?_
      (try simp only[Act.put,List.setIfInBounds_toArray,List.set_cons_zero,List.set_cons_succ])
      refine takeC (i:=21) (d:=some 37) (v:=undef) rfl rfl (by kernel_rfl) (by kernel_rfl) (by kernel_rfl) (by kernel_rfl) (fun _ _ _ h=>h) (Or.inr ⟨by rfl,rfl⟩) hC ?_
      (try simp only[Act.put,List.setIfInBounds_toArray,List.set_cons_zero,List.set_cons_succ])
      refine takeC (i:=22) (d:=some 38) (v:=?_) rfl rfl (by kernel_rfl) (by kernel_rfl) (by kernel_rfl) (by kernel_rfl) (fun _ _ _ h=>h) (Or.inl ⟨by rfl,?_⟩) hC ?_
      rotate_left
      ·(intro w hSw;(try dsimp only at hSw);go_simp;(try with_reducible rfl))
      (try simp only[Act.put,List.setIfInBounds_toArray,List.set_cons_zero,List.set_cons_succ])
      refine doneR (by kernel_rfl) ?_ _;clear hC cx cz;have R:=RnH.out (fun e=>by rw[e,beq_data]at hbdq;simp at hbdq);have RH:=Lib.hid R;clear R;go_wp2_with fail;exact⟨RH.out,by simp[intOf];omega⟩
     ·refine takeC (i:=10) (d:=some 26) (v:=?_) rfl rfl (by kernel_rfl) (by kernel_rfl) (by kernel_rfl) (by kernel_rfl) (fun _ _ _ h=>h) (Or.inl ⟨by rfl,?_⟩) hC ?_
      rotate_left
      ·(intro w hSw;(try dsimp only at hSw);go_simp;(try with_reducible rfl))
      (try simp only[Act.put,List.setIfInBounds_toArray,List.set_cons_zero,List.set_cons_succ])
      refine takeC (i:=11) (d:=some 27) (v:=?_) rfl rfl (by kernel_rfl) (by kernel_rfl) (by kernel_rfl) (by kernel_rfl) (fun _ _ _ h=>h) (Or.inl ⟨by rfl,?_⟩) hC ?_
      rotate_left
      ·(intro w hSw;(try dsimp only at hSw);go_simp;(try with_reducible rfl))
      (try simp only[Act.put,List.setIfInBounds_toArray,List.set_cons_zero,List.set_cons_succ])
      refine takeC (i:=12) (d:=some 28) (v:=?_) rfl rfl (by kernel_rfl) (by kernel_rfl) (by kernel_rfl) (by kernel_rfl) (fun _ _ _ h=>h) (Or.inl ⟨by rfl,?_⟩) hC ?_
      rotate_left
      ·(intro w hSw;(try dsimp only at hSw);go_simp;(try with_reducible rfl))
      (try simp only[Act.put,List.setIfInBounds_toArray,List.set_cons_zero,List.set_cons_succ])
      refine takeC (i:=13) (d:=some 29) (v:=?_) rfl rfl (by kernel_rfl) (by kernel_rfl) (by kernel_rfl) (by kernel_rfl) (fun _ _ _ h=>h) (Or.inl ⟨by rfl,?_⟩) hC ?_
      rotate_left
      ·(intro w hSw;(try dsimp only at hSw);go_simp;(try with_reducible rfl))
      (try simp only[Act.put,List.setIfInBounds_toArray,List.set_cons_zero,List.set_cons_succ])
      refine takeC (i:=14) (d:=some 30) (v:=?_) rfl rfl (by kernel_rfl) (by kernel_rfl) (by kernel_rfl) (by kernel_rfl) (fun _ _ _ h=>h) (Or.inl ⟨by rfl,?_⟩) hC ?_
      rotate_left
      ·(intro w hSw;(try dsimp only at hSw);go_simp;(try with_reducible rfl))
      (try simp only[Act.put,List.setIfInBounds_toArray,List.set_cons_zero,List.set_cons_succ])
      refine takeC (i:=15) (d:=some 31) (v:=?_) rfl rfl (by kernel_rfl) (by kernel_rfl) (by kernel_rfl) (by kernel_rfl) (fun _ _ _ h=>h) (Or.inl ⟨by rfl,?_⟩) hC ?_
      rotate_left
      ·(intro w hSw;(try dsimp only at hSw);go_simp;(try with_reducible rfl))
      (try simp only[Act.put,List.setIfInBounds_toArray,List.set_cons_zero,List.set_cons_succ])
      refine takeC (i:=16) (d:=some 32) (v:=?_) rfl rfl (by kernel_rfl) (by kernel_rfl) (by kernel_rfl) (by kernel_rfl) (fun _ _ _ h=>h) (Or.inl ⟨by rfl,?_⟩) hC ?_
      rotate_left
      ·(intro w hSw;(try dsimp only at hSw);go_simp;(try with_reducible rfl))
      (try simp only[Act.put,List.setIfInBounds_toArray,List.set_cons_zero,List.set_cons_succ])
      refine takeC (i:=17) (d:=some 33) (v:=?_) rfl rfl (by kernel_rfl) (by kernel_rfl) (by kernel_rfl) (by kernel_rfl) (fun _ _ _ h=>h) (Or.inl ⟨by rfl,?_⟩) hC ?_
      rotate_left
      ·(intro w hSw;(try dsimp only at hSw);go_simp;(try with_reducible rfl))
      (try simp only[Act.put,List.setIfInBounds_toArray,List.set_cons_zero,List.set_cons_succ])
      refine takeC (i:=18) (d:=some 34) (v:=?_) rfl rfl (by kernel_rfl) (by kernel_rfl) (by kernel_rfl) (by kernel_rfl) (fun _ _ _ h=>h) (Or.inl ⟨by rfl,?_⟩) hC ?_
      rotate_left
      ·(intro w hSw;(try dsimp only at hSw);go_simp;(try with_reducible rfl))
      (try simp only[Act.put,List.setIfInBounds_toArray,List.set_cons_zero,List.set_cons_succ])
      refine takeC (i:=19) (d:=some 35) (v:=?_) rfl rfl (by kernel_rfl) (by kernel_rfl) (by kernel_rfl) (by kernel_rfl) (fun _ _ _ h=>h) (Or.inl ⟨by rfl,?_⟩) hC ?_
      rotate_left
      ·(intro w hSw;(try dsimp only at hSw);go_simp;(try with_reducible rfl))
      (try simp only[Act.put,List.setIfInBounds_toArray,List.set_cons_zero,List.set_cons_succ])
      refine oneR (i:=20) (by kernel_rfl) rfl (fun K hK=>?_);go_simp;go_at_call 49;refine h3H.out.mono ?_;rintro e w9 ⟨rfl,rfl⟩;refine hK.out _ _ ⟨fun _ _ _=>trivial,fun _ _=>hC⟩ ?_;clear hK K
      (try simp only[Act.put,List.setIfInBounds_toArray,List.set_cons_zero,List.set_cons_succ])
      cases bq
      ·refine takeC (i:=21) (d:=some 37) (v:=?_) rfl rfl (by kernel_rfl) (by kernel_rfl) (by kernel_rfl) (by kernel_rfl) (fun _ _ _ h=>h) (Or.inl ⟨by rfl,?_⟩) hC ?_
       rotate_left
       ·(intro w hSw;(try dsimp only at hSw);go_simp;(try with_reducible rfl))
       (try simp only[Act.put,List.setIfInBounds_toArray,List.set_cons_zero,List.set_cons_succ])
       refine takeC (i:=22) (d:=some 38) (v:=?_) rfl rfl (by kernel_rfl) (by kernel_rfl) (by kernel_rfl) (by kernel_rfl) (fun _ _ _ h=>h) (Or.inl ⟨by rfl,?_⟩) hC ?_
       rotate_left
       ·(intro w hSw;(try dsimp only at hSw);go_simp;(try with_reducible rfl))
       (try simp only[Act.put,List.setIfInBounds_toArray,List.set_cons_zero,List.set_cons_succ])
       refine doneR (by kernel_rfl) ?_ _;clear hC cx cz;go_wp2_with fail;exact RfH.out
      ·refine takeC (i:=21) (d:=some 37) (v:=?_) rfl rfl (by kernel_rfl) (by kernel_rfl) (by kernel_rfl) (by kernel_rfl) (fun _ _ _ h=>h) (Or.inl ⟨by rfl,?_⟩) hC ?_
       rotate_left
       ·(intro w hSw;(try dsimp only at hSw);go_simp;(try with_reducible rfl))
       (try simp only[Act.put,List.setIfInBounds_toArray,List.set_cons_zero,List.set_cons_succ])
       refine takeC (i:=22) (d:=some 38) (v:=?_) rfl rfl (by kernel_rfl) (by kernel_rfl) (by kernel_rfl) (by kernel_rfl) (fun _ _ _ h=>h) (Or.inl ⟨by rfl,?_⟩) hC ?_
       rotate_left
       ·(intro w hSw;(try dsimp only at hSw);go_simp;(try with_reducible rfl))
       (try simp only[Act.put,List.setIfInBounds_toArray,List.set_cons_zero,List.set_cons_succ])
       refine doneR (by kernel_rfl) ?_ _;clear hC cx cz;have R:=RnH.out (fun _=>by have:=hbqH.out;simpa using this);have RH:=Lib.hid R;clear R;go_wp2_with fail;exact⟨RH.out,by simp[intOf];omega⟩
    ·obtain rfl:t=k:=by omega
     have R:FtRel L w (.int .i64 ((t:Int)+1)) wr:=⟨t+1,by omega,by go_num,hb,fun a b y z ha hba hy hz he=>by
      rcases Nat.lt_or_ge a t with h9 | h9
      ·exact hallH.out a b y z h9 hba hy hz he
      ·obtain rfl:a=t:=by omega
       rw[hxH.out]at hy;injection hy with hy;subst hy;exact hno b z hba hz he⟩
     clear hno;obtain⟨hbH,RH⟩:=hq2 hb (Lib.hid R);clear hb R;go_wp2_with fail;exact⟨RH.out,by simp[intOf];omega⟩
  ·obtain rfl:k=n:=by omega
   have R:=hZ'H.out (.returned (.bool true)) wr ⟨true,rfl,hb,fun _ a b x z hba hx hz he=>hall a b x z (by have:=(List.getElem?_eq_some_iff.1 hx).1;omega) hba hx hz he⟩;clear hall;obtain⟨hbH,RH⟩:=hq2 hb (Lib.hid R);clear hb R;go_wp2_with fail;exact RH.out
def FhAns (l:List File) (w:World) (e:Ending) (w':World):Prop:=∃ b,e = .returned (.bool b)∧Below w.heap.size w w'∧(b=true→Faith (Cs 200 (l.map tfOf)))
theorem Cs_big {P:PartT}:∀ (N:Nat) (l:List TFi),WF P l→(∀ f∈l,f.path.length≤N)→l.length≤1000→N≤200→(∀ f∈l,f.bs.length≤100000)→∀ b∈Cs N l,b.length≤2000000
 | 0,l,_,_,_,_,_,b,hb=>by unfold Cs at hb;cases hb
 | N+1,l,hw,hp,hc,hN,hbs,b,hb=>by
  unfold Cs at hb
  rcases List.mem_cons.1 hb with rfl | hb
  ·exact TD_len P (N+1) l hw hp hc (by omega)
  ·obtain⟨y,hy,hb⟩:=List.mem_flatMap.1 hb;have hyg:=nodesS_mem.1 hy;unfold csN at hb
   cases hf:y.file with
   | some f =>
    rw[hf]at hb;rw[List.mem_singleton.1 hb];have:=hbs f (mem_file hyg hf).1;omega
   | none =>
    rw[hf]at hb;refine Cs_big N y.sub (hw.sub hyg hf) (fun f hfm=>by have:=sub_path hyg hf hp f hfm;omega) (Nat.le_trans (sub_count hyg) hc) (by omega) (fun f hfm=>?_) b hb;have hs:=node_sub hyg;have e:filesN y=y.sub.map (backF y.name):=by unfold filesN;rw[hf]
    rw[e]at hs;exact hbs (backF y.name f) (hs.subset (List.mem_map.2 ⟨f,hfm,rfl⟩))
theorem faithfulTree_any (A:Option Addr) (m c:Nat) (l:List File) (w:World) (hmx:MaxLenAt w) (hl:(RSl RFile).ok w ⟨A,m,c,l⟩) (hX:FilesX l) :
  Calls Tryz.prog 6 #[.slice A m c] w (FhAns l w):=by
 obtain⟨Z,hZ⟩:∃ Z,FhAns l w=Z:=⟨_,rfl⟩;have hZ':∀ e W,FhAns l w e W→Z e W:=fun e W h=>by rw[← hZ];exact h
 rw[hZ];clear hZ;have hlm:l.length=m:=hl.1.1;have hm:=hX.len;have hrow:∀ y∈l,pathB y.path=true∧y.bytes.l.length≤100000:=fun y hy=>by
  obtain⟨j,hj,rfl⟩:=List.mem_iff_getElem.1 hy;exact hX.row j _ (List.getElem?_eq_getElem hj)
 have hcn:=contents_any 199 (by omega) A m c l w w.heap.size hmx hl (by omega) (fun y hy=>pathB_le (hrow y hy).1) (fun y hy=>(hrow y hy).2) (wf_of hX) (Nat.le_refl _) (fun y hy hn ad hA=>sl_lt (hl.1.2.2 y hy).2.2 hn hA);obtain⟨hZ'H,hmxH,hlH,hXH,hrowH,hcnH⟩:=hq2 hZ' (hqb hmx hl hX hrow (Lib.hid hcn));clear hZ' hmx hl hX hrow hcn;go_enter Tryz.func6,Tryz.ntmps6;go_wp2_with fail;refine hcnH.out.mono ?_;rintro e w1 ⟨A1,c1,L,rfl,hown,hL,hLok,hb1⟩;have hwf:=wf_of hXH.out;have hLz:∀ x∈L,(RSl RU8).ok w1 x∧x.n≤2000000:=fun x hx=>by
  have h1:=(hLok x hx).1;have h2:x.l.length=x.n:=h1.1.1;have h3:x.l∈Cs 200 (l.map tfOf):=by
   have:x.l∈L.map (·.l):=List.mem_map.2 ⟨x,hx,rfl⟩;rw[hL]at this;exact this
  have h4:=Cs_big (P:=partT) 200 (l.map tfOf) hwf (fun f hf=>by
   obtain⟨y,hy,rfl⟩:=List.mem_map.1 hf;have:=pathB_le (hrowH.out y hy).1;rw[Lib.size_eq]at this;exact this) (by rw[List.length_map];omega) (Nat.le_refl _) (fun f hf=>by
   obtain⟨y,hy,rfl⟩:=List.mem_map.1 hf;exact(hrowH.out y hy).2) x.l h3
  exact⟨h1,by omega⟩
 have hLn:L.length≤1000000:=by
  have h1:=congrArg List.length hL;rw[List.length_map]at h1;have h2:=Cs_count partT (199+1) (l.map tfOf);rw[List.length_map]at h2;have h3:l.length*(199+1)≤1000*200:=Nat.mul_le_mul (by omega) (by omega);omega
 have hft:=faithful_any A1 L.length c1 L w1 hown.slAt hLz hLn;clear hown hLok hLz;obtain⟨hLH,hb1H,hftH⟩:=hq2 hL (hq2 hb1 (Lib.hid hft));clear hL hb1 hft;go_wp2_with fail;refine hftH.out.mono ?_;rintro e w2 ⟨b,rfl,hb2,hq⟩;have R:=hZ'H.out (.returned (.bool b)) w2 ⟨b,rfl,hb1H.out.trans (hb2.mono hb1H.out.size),fun hbt=>by
  have hq:=hq hbt;have hL2:L.map (·.l)=Cs 200 (l.map tfOf):=hLH.out;intro x hx z hz he;rw[← hL2]at hx hz;obtain⟨i,hi,hx9⟩:=List.getElem_of_mem hx;obtain⟨j,hj,hz9⟩:=List.getElem_of_mem hz;rw[List.getElem_map]at hx9 hz9;rw[List.length_map]at hi hj
  rcases Nat.lt_trichotomy i j with h | h | h
  ·have:=hq j i _ _ h (List.getElem?_eq_getElem hj) (List.getElem?_eq_getElem hi) (by rw[hx9,hz9];exact he.symm);rw[← hx9,← hz9];exact this.symm
  ·subst h;rw[← hx9,← hz9]
  ·have:=hq i j _ _ h (List.getElem?_eq_getElem hi) (List.getElem?_eq_getElem hj) (by rw[hx9,hz9];exact he);rw[← hx9,← hz9];exact this⟩
 have RH:=Lib.hid R;clear R;go_wp2_with fail;exact RH.out
end Go.Proofs.YtpdjjjiknijpkaaGreatDoor.C10
namespace Go.Proofs.YtpdjjjiknijpkaaGreatDoor.C10
open Go.ChangeShapes Go.WideShapes Go.Deep Go.RowKit
section
variable {w:World} {base:Nat} {v:Value} {l:List UInt8}
theorem strCells_vals (s:ByteArray):Lib.strCells s=s.data.toList.flatMap RU8.vals:=by
 unfold Lib.strCells;show s.data.toList.map _=_
 generalize s.data.toList=r
 induction r with
 | nil=>rfl
 | cons x r ih=>rw[List.map_cons,ih];rfl
theorem run_app_s (ty:TypeId) (hown:Own RU8 5 w base v l) (s:ByteArray) (hb:l.length+s.size≤140737488355328) (hbase:base≤w.heap.size) :
  ∃ A' c' w',(Builtin.append_ #[39,9] ty #[v,.string s]).run Tryz.prog w = .ok (.slice A' (l.length+s.size) c') w'∧Own RU8 5 w' base (.slice A' (l.length+s.size) c') (l++s.data.toList) ∧
   w.grownBy w' v.ownBlock∧(∀ b,(Value.slice A' (l.length+s.size) c').ownBlock=some b→v.ownBlock=some b∨w.heap.size≤b):=by
 obtain⟨i,z,hi,hz,hz1,hz2,hz3⟩:∃ i z,Tryz.prog.info? 5 = some i∧i.zero=some z∧i.size=1∧i.bytes=1∧z = .int .u8 0:=by
  obtain⟨i,h1,h2,h3,h4⟩:=info_parts (z:=.int .u8 0) (size:=1) (bytes:=1) (show (Tryz.prog.info? 5).map (fun i=>(i.zero,i.size,i.bytes))=some (some (.int .u8 0),1,1) by kernel_rfl);exact⟨i,_,h1,h2,h3,h4,rfl⟩
 subst hz3;have ht:=Tryz.underlying39;have hu:=Tryz.underlying9;have hm:l.length+s.size≤maxLen:=by unfold maxLen;omega
 obtain⟨v',w',hr,ho,hg,hnil⟩:=Lib.run_append_own_string (P:=Tryz.prog) w base 39 9 ty 5 i ht hu hi hz hz1 hz2 v l.length (l.flatMap RU8.vals) hown.1 s hm hb hbase;rw[strCells_vals,← List.flatMap_append]at ho;have hlen:(l++s.data.toList).length=l.length+s.size:=by rw[List.length_append,← Lib.size_eq]
 have hown':Own RU8 5 w' base v' (l++s.data.toList):=⟨by rw[hlen];exact ho,fun x _=>trivial⟩;obtain⟨A',c',hv'⟩:=hown'.form;rw[hlen]at hv';subst hv';refine⟨A',c',w',hr,hown',hg,fun b hb'=>?_⟩
 rcases hown.1.2 with ⟨rfl,hl0⟩ | ⟨g,cap,cur,rfl,hbg,hgg,hnc,hcm,hcs,htake⟩
 ·have hl0:l.length=0:=hl0
  rcases Nat.eq_zero_or_pos s.size with h0 | h0
  ·have:=hnil.2 ⟨rfl,h0⟩;rw[this]at hb'
   cases hb'
  ·have hr2:=run_append_nil_string (P:=Tryz.prog) w 39 9 ty 5 i (.int .u8 0) ht hu hi hz s h0 (by omega) (by rw[hz2];omega);rw[hr2]at hr;injection hr with h1 h2;injection h1 with h3 _ _;subst h3;exact .inr (by injection hb' with hb';exact Nat.le_of_eq hb')
 ·rcases Nat.lt_or_ge cap (l.length+s.size) with hroom | hroom
  ·have hr2:=Lib.run_append_grow_string (P:=Tryz.prog) w 39 9 ty 5 i (.int .u8 0) ht hu hi hz ⟨g,0,none⟩ l.length cap (l.flatMap RU8.vals) (by rw[hz1];exact hown.1.1) (hown.1.cells (g:=g) rfl) s hroom (by omega) (by rw[hz2];exact growslice_fits (by omega) (by omega));rw[hr2]at hr;injection hr with h1 h2;injection h1 with h3 _ _;subst h3;exact .inr (by injection hb' with hb';exact Nat.le_of_eq hb')
  ·have hcs':cur.size=cap:=by simpa[RU8]using hcs
   have hr2:=Lib.run_append_room_string (P:=Tryz.prog) w 39 9 ty 5 i ht hu hi hz1 g l.length cap cur hgg s hroom (by omega);rw[hr2]at hr;injection hr with h1 h2;injection h1 with h3 _ _;subst h3;exact .inl hb'
theorem step_app_s {ops:Array Oper} {o:Oper} {a:Act} {K:Act→World→Prop} {Q:Exit→Act→World→Prop} {E:Prop} (hgd:o.guard=none) (sl x:Operand)
  (ho:o.op = .call { callee:=.builtin .append,args:=#[sl,x],argTypes:=#[39,9] }) (hs:a.eval sl=v) (hown:Own RU8 5 w base v l) (s:ByteArray) (hx:a.eval x = .string s) (hb:l.length+s.size≤140737488355328) (hbase:base≤w.heap.size) (N:Nat) (hN:l.length+s.size=N)
  (h:∀ A' c' w',Own RU8 5 w' base (.slice A' N c') (l++s.data.toList)→w.grownBy w' v.ownBlock→(∀ b,(Value.slice A' N c').ownBlock=some b→v.ownBlock=some b∨w.heap.size≤b)→K (a.put o.dst (.slice A' N c')) w') :
  if Region.wanted o (yielded ops a.tmps)=true then Oper.wp Tryz.prog o a w K Q else E:=by
 subst hN;have hw:Region.wanted o (yielded ops a.tmps)=true:=by simp[Region.wanted,hgd]
 rw[if_pos hw];obtain⟨A',c',w',hr,h2,h3,h4⟩:=run_app_s o.type hown s hb hbase;unfold Oper.wp execOp;simp only[ho,resolve,invoke,builtin,Sem.run_bind,Sem.run_pure,Result.andThen_ok,List.map_toArray,List.map_cons,List.map_nil,hs,hx,hr];exact h A' c' w' h2 h3 h4
end
theorem digF_nil:digF []=⟨#[99,98,102,50,57,99,101,52,56,52,50,50,50,51,50,53]⟩:=by decide +kernel
theorem within_c (a b c:Int) (ha:-1000000≤a∧a≤10000000000) (hb:-1000000≤b∧b≤10000000000) (hc:-1000000≤c∧c≤10000000000) (h1:b≤a) (h2:a≤c) (w:World) :
  Calls Tryz.prog 84 #[.int .i64 a,.int .i64 b,.int .i64 c] w fun e w'=>e = .returned (.bool true)∧w'=w:=by
 go_enter Tryz.func84,Tryz.ntmps84;go_wp2;go_ret;exact⟨rfl,rfl⟩
theorem moment_c (a:Int) (h1:0≤a) (h2:a≤1000000000) (w:World):Calls Tryz.prog 119 #[.int .i64 a] w fun e w'=>e = .returned (.bool true)∧w'=w:=by
 go_enter Tryz.func119,Tryz.ntmps119;go_wp2_with fail;refine(within_c a 0 1000000000 (by omega) (by omega) (by omega) h1 h2 w).mono ?_;rintro e w1 ⟨rfl,rfl⟩;go_wp2;go_ret;exact⟨rfl,rfl⟩
theorem pairs_c (w:World):Calls Tryz.prog 118 #[.slice none 0 0] w fun e w'=>e = .returned (.int .i64 0)∧w'=w:=by
 go_enter Tryz.func118,Tryz.ntmps118;go_wp2_with fail
 go_loopw [10] (fun i wr=>w=wr∧i = .int .i64 0) (fun i _=>0)
 case atStart=>exact⟨rfl,rfl⟩
 case round =>
  obtain⟨rfl,rfl⟩:=hrel;go_wp2;go_ret;exact⟨rfl,rfl⟩
theorem stands_c (w:World):Calls Tryz.prog 120 #[.slice none 0 0] w fun e w'=>e = .returned (.int .i64 0)∧w'=w:=by
 go_enter Tryz.func120,Tryz.ntmps120;go_wp2_with fail
 go_loopw [10] (fun i wr=>w=wr∧i = .int .i64 0) (fun i _=>0)
 case atStart=>exact⟨rfl,rfl⟩
 case round =>
  obtain⟨rfl,rfl⟩:=hrel;go_wp2;go_ret;exact⟨rfl,rfl⟩
theorem worker_c (w:World):Calls Tryz.prog 83 #[.agg #[.string ⟨#[97]⟩,.slice none 0 0,.int .i64 1,.int .i64 2,.int .i64 0,.int .i64 1,.slice none 0 0]] w fun e w'=>e = .returned (.int .i64 0)∧Below w.heap.size w w':=by
 obtain⟨W,hW⟩:∃ W,w.alloc (.cells #[.string ⟨#[97]⟩,.slice none 0 0,.int .i64 1,.int .i64 2,.int .i64 0,.int .i64 1,.slice none 0 0] 60)=W:=⟨_,rfl⟩;have hb:Below w.heap.size w W:=by rw[← hW];exact(Below.refl _ _).alloc (Nat.le_refl _) _
 have hz:Blk W w.heap.size [.string ⟨#[97]⟩,.slice none 0 0,.int .i64 1,.int .i64 2,.int .i64 0,.int .i64 1,.slice none 0 0]:=by
  have h:=blk_new w [.string ⟨#[97]⟩,.slice none 0 0,.int .i64 1,.int .i64 2,.int .i64 0,.int .i64 1,.slice none 0 0] 60;rw[← hW];exact h
 obtain⟨c0,_⟩:=hz 0 _ rfl;have hwd:=word_any ⟨#[97]⟩ true W (by decide) (by decide);obtain⟨hbH,hzH,hwdH⟩:=hq2 hb (hq2 hz (Lib.hid hwd));clear hb hz hwd;go_enter Tryz.func83,Tryz.ntmps83;go_wp2_with fail;refine hwdH.out.mono ?_;rintro e w1 ⟨rfl,hb1⟩;have hz1:=blk_below hzH.out (by simp) hb1;obtain⟨c1,_⟩:=hz1 1 _ rfl;obtain⟨c2,_⟩:=hz1 2 _ rfl;obtain⟨c3,_⟩:=hz1 3 _ rfl;obtain⟨c4,_⟩:=hz1 4 _ rfl;obtain⟨c5,_⟩:=hz1 5 _ rfl;obtain⟨c6,_⟩:=hz1 6 _ rfl;have hbb:=hbH.out.trans (hb1.mono hbH.out.size);clear hb1;obtain⟨hz1H,hbbH⟩:=hq2 hz1 (Lib.hid hbb);clear hz1 hbb;go_wp2_with fail;refine(pairs_c _).mono ?_;rintro e w2 ⟨rfl,rfl⟩;go_wp2_with fail;refine(within_c 1 1 20 (by omega) (by omega) (by omega) (by omega) (by omega) _).mono ?_;rintro e w3 ⟨rfl,rfl⟩;go_wp2_with fail;refine(within_c 2 1 1000 (by omega) (by omega) (by omega) (by omega) (by omega) _).mono ?_;rintro e w4 ⟨rfl,rfl⟩;go_wp2_with fail;refine(moment_c 0 (by omega) (by omega) _).mono ?_;rintro e w5 ⟨rfl,rfl⟩;go_wp2_with fail;refine(moment_c 1 (by omega) (by omega) _).mono ?_;rintro e w6 ⟨rfl,rfl⟩;go_wp2_with fail;refine(stands_c _).mono ?_;rintro e w7 ⟨rfl,rfl⟩;go_wp2_with fail;go_ret;exact⟨rfl,hbbH.out⟩
theorem size_c (w:World):Calls Tryz.prog 46 #[.agg #[.string ⟨#[97]⟩,.slice none 0 0,.int .i64 1,.int .i64 2,.int .i64 0,.int .i64 1,.slice none 0 0],.int .i64 3] w fun e w'=>e = .returned (.int .i64 0)∧Below w.heap.size w w':=by
 obtain⟨W,hW⟩:∃ W,w.alloc (.cells #[.string ⟨#[97]⟩,.slice none 0 0,.int .i64 1,.int .i64 2,.int .i64 0,.int .i64 1,.slice none 0 0] 60)=W:=⟨_,rfl⟩;have hb:Below w.heap.size w W:=by rw[← hW];exact(Below.refl _ _).alloc (Nat.le_refl _) _
 have hz:Blk W w.heap.size [.string ⟨#[97]⟩,.slice none 0 0,.int .i64 1,.int .i64 2,.int .i64 0,.int .i64 1,.slice none 0 0]:=by
  have h:=blk_new w [.string ⟨#[97]⟩,.slice none 0 0,.int .i64 1,.int .i64 2,.int .i64 0,.int .i64 1,.slice none 0 0] 60;rw[← hW];exact h
 obtain⟨c0,_⟩:=hz 0 _ rfl;obtain⟨c1,_⟩:=hz 1 _ rfl;obtain⟨c2,_⟩:=hz 2 _ rfl;obtain⟨c3,_⟩:=hz 3 _ rfl;obtain⟨c4,_⟩:=hz 4 _ rfl;obtain⟨c5,_⟩:=hz 5 _ rfl;obtain⟨c6,_⟩:=hz 6 _ rfl;have hc:=worker_c W;obtain⟨hbH,hcH,hzH⟩:=hq2 hb (hq2 hc (Lib.hid hz));clear hb hc hz;go_enter Tryz.func46,Tryz.ntmps46;go_wp2_with fail;refine hcH.out.mono ?_;rintro e w1 ⟨rfl,hb1⟩;have hbb:=hbH.out.trans (hb1.mono hbH.out.size);clear hb1;have hbbH:=Lib.hid hbb;clear hbb;go_wp2_with fail;refine(within_c 3 1 1000000 (by omega) (by omega) (by omega) (by omega) (by omega) _).mono ?_;rintro e w3 ⟨rfl,rfl⟩;go_wp2_with fail;go_ret;exact⟨rfl,hbbH.out⟩
theorem secs_c (w:World):Calls Tryz.prog 47 #[.agg #[.string ⟨#[97]⟩,.slice none 0 0,.int .i64 1,.int .i64 2,.int .i64 0,.int .i64 1,.slice none 0 0],.int .i64 3] w fun e w'=>e = .returned (.int .i64 2)∧Below w.heap.size w w':=by
 obtain⟨W,hW⟩:∃ W,w.alloc (.cells #[.string ⟨#[97]⟩,.slice none 0 0,.int .i64 1,.int .i64 2,.int .i64 0,.int .i64 1,.slice none 0 0] 60)=W:=⟨_,rfl⟩;have hb:Below w.heap.size w W:=by rw[← hW];exact(Below.refl _ _).alloc (Nat.le_refl _) _
 have hz:Blk W w.heap.size [.string ⟨#[97]⟩,.slice none 0 0,.int .i64 1,.int .i64 2,.int .i64 0,.int .i64 1,.slice none 0 0]:=by
  have h:=blk_new w [.string ⟨#[97]⟩,.slice none 0 0,.int .i64 1,.int .i64 2,.int .i64 0,.int .i64 1,.slice none 0 0] 60;rw[← hW];exact h
 obtain⟨c3,_⟩:=hz 3 _ rfl;obtain⟨hbH,hzH⟩:=hq2 hb (Lib.hid hz);clear hb hz;go_enter Tryz.func47,Tryz.ntmps47;go_wp2_with fail;go_ret;exact⟨rfl,hbH.out⟩
theorem Seconds_c (w:World):Calls Tryz.prog 17 #[.agg #[.string ⟨#[97]⟩,.slice none 0 0,.int .i64 1,.int .i64 2,.int .i64 0,.int .i64 1,.slice none 0 0],.int .i64 3] w fun e w'=>e = .returned (.tuple #[.int .i64 2,.int .i64 0])∧Below w.heap.size w w':=by
 obtain⟨W,hW⟩:∃ W,w.alloc (.cells #[.string ⟨#[97]⟩,.slice none 0 0,.int .i64 1,.int .i64 2,.int .i64 0,.int .i64 1,.slice none 0 0] 60)=W:=⟨_,rfl⟩;have hb:Below w.heap.size w W:=by rw[← hW];exact(Below.refl _ _).alloc (Nat.le_refl _) _
 have hz:Blk W w.heap.size [.string ⟨#[97]⟩,.slice none 0 0,.int .i64 1,.int .i64 2,.int .i64 0,.int .i64 1,.slice none 0 0]:=by
  have h:=blk_new w [.string ⟨#[97]⟩,.slice none 0 0,.int .i64 1,.int .i64 2,.int .i64 0,.int .i64 1,.slice none 0 0] 60;rw[← hW];exact h
 obtain⟨c0,_⟩:=hz 0 _ rfl;obtain⟨c1,_⟩:=hz 1 _ rfl;obtain⟨c2,_⟩:=hz 2 _ rfl;obtain⟨c3,_⟩:=hz 3 _ rfl;obtain⟨c4,_⟩:=hz 4 _ rfl;obtain⟨c5,_⟩:=hz 5 _ rfl;obtain⟨c6,_⟩:=hz 6 _ rfl;have hc:=size_c W;obtain⟨hbH,hzH,hcH⟩:=hq2 hb (hq2 hz (Lib.hid hc));clear hb hz hc;go_enter Tryz.func17,Tryz.ntmps17;go_wp2_with fail;refine hcH.out.mono ?_;rintro e w1 ⟨rfl,hb1⟩;have hz1:=blk_below hzH.out (by simp) hb1;have hbb:=hbH.out.trans (hb1.mono hbH.out.size);clear hb1 c0 c1 c2 c3 c4 c5 c6;obtain⟨c0,_⟩:=hz1 0 _ rfl;obtain⟨c1,_⟩:=hz1 1 _ rfl;obtain⟨c2,_⟩:=hz1 2 _ rfl;obtain⟨c3,_⟩:=hz1 3 _ rfl;obtain⟨c4,_⟩:=hz1 4 _ rfl;obtain⟨c5,_⟩:=hz1 5 _ rfl;obtain⟨c6,_⟩:=hz1 6 _ rfl;obtain⟨hbbH,hz1H⟩:=hq2 hbb (Lib.hid hz1);clear hbb hz1;go_wp2_with fail;refine(secs_c _).mono ?_;rintro e w2 ⟨rfl,hb2⟩;have hbb2:=hbbH.out.trans (hb2.mono hbbH.out.size);clear hb2;have hbb2H:=Lib.hid hbb2;clear hbb2;go_wp2_with fail
 go_ret2
 exact⟨rfl,hbb2H.out⟩
theorem alive_any (w:World):Calls Tryz.prog 5 #[] w fun e w'=>e = .returned (.bool true)∧Below w.heap.size w w':=by
 go_enter Tryz.func5,Tryz.ntmps5;go_wp2_with fail;refine(Seconds_c w).mono ?_;rintro e w1 ⟨rfl,hb1⟩;have hb1H:=Lib.hid hb1;clear hb1;go_wp2_with fail;refine(digest_any none 0 0 [] w1 ⟨rfl,(fun h=>absurd h (by decide)),fun _ h=>by cases h⟩ (by decide)).mono ?_;rintro e w2 ⟨rfl,hb2⟩;rw[digF_nil];have hbb:=hb1H.out.trans (hb2.mono hb1H.out.size);clear hb2;have hbbH:=Lib.hid hbb;clear hbb;go_wp2_with fail;go_ret;exact⟨rfl,hbbH.out⟩
end Go.Proofs.YtpdjjjiknijpkaaGreatDoor.C10
namespace Go.Proofs.YtpdjjjiknijpkaaGreatDoor.C10
open Go.ChangeShapes Go.WideShapes Go.Deep Go.RowKit Go.Lib
theorem cell_obj {w:World} {m:Nat} {v0 v1 v:Value} {ty:TypeId} {z:Nat × Nat} {a:Addr} (hz:w.heap[m]? = some (.cells #[v0,v1] ty z)) (hc:w.cell? a=some v) (h0:v≠v0) (h1:v≠v1):a.block≠m:=by
 intro e;unfold World.cell? at hc;rw[e,hz]at hc;simp only at hc
 split at hc
 ·cases hc
 ·rcases h:a.off with _ | _ | k
  ·rw[h]at hc;have hc:some v0=some v:=hc;injection hc with hc;exact h0 hc.symm
  ·rw[h]at hc;have hc:some v1=some v:=hc;injection hc with hc;exact h1 hc.symm
  ·rw[h]at hc;have hc:none=some v:=by rw[← hc];simp
   cases hc
def Rcv (w:World) (rb:Nat) (v0 v1:Value):Prop:=Blk w rb [v0,v1]∧w.heap[rb]? = some (.cells #[v0,v1] 32 (0,0))
theorem Rcv.set {w:World} {rb:Nat} {v0 v1:Value} (h:Rcv w rb v0 v1) (a b:Value):Rcv ((w.setCell ⟨rb,0,none⟩ a).setCell ⟨rb,1,none⟩ b) rb a b :=
 ⟨two_set h.1 a b,by
  have h1:=heap_setCell_same w rb 0 _ _ a h.2;have h2:=heap_setCell_same _ rb 1 _ _ b h1;rw[h2];rfl⟩
theorem Rcv.below {w w':World} {rb:Nat} {v0 v1:Value} (h:Rcv w rb v0 v1) (hb:Below w.heap.size w w'):Rcv w' rb v0 v1 :=
 ⟨blk_below h.1 (by simp) hb,(hb.block rb (h.1.lt (by simp))).trans h.2⟩
theorem slAt_grown {α:Type} {R:Rd α} {w w':World} {m n:Nat} {A:Option Addr} {l:List α} (h:SlAt R w A n l) (hg:w.grownBy w' (some m)) (hne:0<n→∀ ad,A=some ad→ad.block≠m) (hok:∀ x∈l,R.ok w x→R.ok w' x):SlAt R w' A n l:=by
 refine⟨h.1,fun hn=>?_,fun x hx=>hok x hx (h.2.2 x hx)⟩;obtain⟨b,off,hA,hc⟩:=h.2.1 hn;exact⟨b,off,hA,fun i y hy j u hu=>hg.cell (hc i y hy j u hu) fun e=>hne hn _ hA (by injection e)⟩
theorem sl_apart {w:World} {m:Nat} {A1 A2:Option Addr} {n1 n2 c1 c2:Nat} {ty:TypeId} {z:Nat × Nat} (hz:w.heap[m]? = some (.cells #[.slice A1 n1 c1,.slice A2 n2 c2] ty z)) {x:SlD UInt8} (h:(RSl RU8).ok w x):0<x.n→∀ ad,x.A=some ad→ad.block≠m:=fun hn ad hA=>by
 obtain⟨b,off,h1,hc⟩:=h.1.2.1 hn;rw[hA]at h1;injection h1 with h1;subst h1;have hl:x.l.length=x.n:=h.1.1;obtain⟨u,hu⟩:∃ u,x.l[0]? = some u:=⟨x.l[0]'(by omega),List.getElem?_eq_getElem _⟩;have:=hc 0 u hu 0 _ rfl;exact cell_obj (a:=⟨b,_,none⟩) hz this (by intro e;cases e) (by intro e;cases e)
theorem str_apart {w:World} {m n:Nat} {A1 A2 A:Option Addr} {n1 n2 c1 c2:Nat} {ty:TypeId} {z:Nat × Nat} (hz:w.heap[m]? = some (.cells #[.slice A1 n1 c1,.slice A2 n2 c2] ty z)) {l:List ByteArray} (h:SlAt RStr w A n l):0<n→∀ ad,A=some ad→ad.block≠m:=fun hn ad hA=>by
 obtain⟨b,off,h1,hc⟩:=h.2.1 hn;rw[hA]at h1;injection h1 with h1;subst h1;have hl:=h.1;obtain⟨u,hu⟩:∃ u,l[0]? = some u:=⟨l[0]'(by omega),List.getElem?_eq_getElem _⟩;have:=hc 0 u hu 0 _ rfl;exact cell_obj (a:=⟨b,_,none⟩) hz this (by intro e;cases e) (by intro e;cases e)
theorem ob_apart {w:World} {m n:Nat} {A1 A2 A:Option Addr} {n1 n2 c1 c2:Nat} {ty:TypeId} {z:Nat × Nat} (hz:w.heap[m]? = some (.cells #[.slice A1 n1 c1,.slice A2 n2 c2] ty z)) {l:List ObT} (h:SlAt ROb w A n l):0<n→∀ ad,A=some ad→ad.block≠m:=fun hn ad hA=>by
 obtain⟨b,off,h1,hc⟩:=h.2.1 hn;rw[hA]at h1;injection h1 with h1;subst h1;have hl:=h.1;obtain⟨u,hu⟩:∃ u,l[0]? = some u:=⟨l[0]'(by omega),List.getElem?_eq_getElem _⟩;have:=hc 0 u hu 0 _ rfl;exact cell_obj (a:=⟨b,_,none⟩) hz this (by intro e;cases e) (by intro e;cases e)
theorem Store.grown {w w':World} {m n:Nat} {A1 A2 A:Option Addr} {n1 n2 c1 c2:Nat} {ty:TypeId} {z:Nat × Nat} {O:List ObT} (h:Store w A n O) (hz:w.heap[m]? = some (.cells #[.slice A1 n1 c1,.slice A2 n2 c2] ty z)) (hg:w.grownBy w' (some m)):Store w' A n O :=
 ⟨slAt_grown h.sl hg (ob_apart hz h.sl) fun x hx (hk:(RSl RU8).ok w x.bytes)=>sl_grown hk hg fun hn ad hA e=>sl_apart hz hk hn ad hA (by injection e),h.ord,h.n4,h.dig,h.big⟩
def lenAt (rb:Nat) (W:World):Nat:=match W.cell? ⟨rb,0,none⟩ with
 | some (.slice _ n _)=>n
 | _=>0
theorem lenAt_of {rb n c:Nat} {A:Option Addr} {v1:Value} {W:World} (h:Rcv W rb (.slice A n c) v1):lenAt rb W=n:=by
 obtain⟨h0,-⟩:=h.1 0 _ rfl;unfold lenAt;rw[h0]
structure Got (L:List TFi) (rb:Nat) (W2:World) (AD AP:Option Addr) (cD cP:Nat) (D:List ObT) (wr:World):Prop where
 rcv:Rcv wr rb (.slice AD D.length cD) (.slice AP 0 cP)
 st:Store wr AD D.length D
 good:Good L D
 c1:AD=none→cD=0
 c2:AP=none→cP=0
 bel:Below W2.heap.size W2 wr
theorem Got.below {L:List TFi} {rb:Nat} {W2 wr w':World} {AD AP:Option Addr} {cD cP:Nat} {D:List ObT} (h:Got L rb W2 AD AP cD cP D wr) (hb:Below wr.heap.size wr w'):Got L rb W2 AD AP cD cP D w' :=
 ⟨h.rcv.below hb,h.st.below hb,h.good,h.c1,h.c2,h.bel.trans (hb.mono h.bel.size)⟩
theorem Got.set {L:List TFi} {rb:Nat} {W2 wr:World} {AD AP AD' AP':Option Addr} {cD cP cD' cP':Nat} {D D':List ObT} (h:Got L rb W2 AD AP cD cP D wr) (hr:W2.heap.size≤rb) (hst:Store wr AD' D'.length D') (hg:Good L D') (c1:AD'=none→cD'=0) (c2:AP'=none→cP'=0):Got L rb W2 AD' AP' cD' cP' D' ((wr.setCell ⟨rb,0,none⟩ (.slice AD' D'.length cD')).setCell ⟨rb,1,none⟩ (.slice AP' 0 cP')) :=
 ⟨h.rcv.set _ _,hst.grown h.rcv.2 (two_grown _ _ _ _),hg,c1,c2,(h.bel.setCell (p:=⟨rb,0,none⟩) hr _).setCell (p:=⟨rb,1,none⟩) hr _⟩
def LtRel (L:List TFi) (rb:Nat) (W2:World) (v:Value) (wr:World):Prop:=∃ (AD AP:Option Addr) (cD cP:Nat) (D:List ObT),Got L rb W2 AD AP cD cP D wr
def InRel (L:List TFi) (rb:Nat) (W2:World) (AG:Option Addr) (G:List ByteArray) (n0:Nat) (i:Value) (wr:World):Prop :=
 ∃ (k:Nat) (AD AP:Option Addr) (cD cP:Nat) (D:List ObT),k≤G.length∧i = .int .i64 k∧Got L rb W2 AD AP cD cP D wr∧SlAt RStr wr AG G.length G∧D.length=n0+k∧∀ (j:Nat) d,k≤j→G[j]? = some d→¬ InS D d
def LwAns (w:World) (e:Ending) (w':World):Prop:=e = .returned (.bool true)∧Below w.heap.size w w'
end Go.Proofs.YtpdjjjiknijpkaaGreatDoor.C10