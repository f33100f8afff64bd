/-
 Several texts of mine as one, without what is not wanted here: XWrB, XWrC, XWrD.
-/
import Derived.Test.YtpdjjjiknijpkaaGreatDoorTvOC10
set_option linter.unusedVariables false
set_option linter.unusedSimpArgs false
set_option maxRecDepth 100000
set_option maxHeartbeats 8000000
namespace Go.Proofs.YtpdjjjiknijpkaaGreatDoor.C10
open Go.ChangeShapes Go.WideShapes Go.Deep Go.RowKit Go.Lib
def msgV (k:Int) (d:ByteArray) (f s:Nat) (vb:Value):Value:=.agg #[.int .i64 k,.string d,.int .i64 f,.int .i64 s,vb]
theorem checkBegin_any (d:ByteArray) (hd:digB d=true) (s:Nat) (hs:s≤100000) (w:World) :
  Calls Tryz.prog 97 #[msgV 1 d 0 s (.slice none 0 0),.int .i64 0] w (Chk0 w):=by
 obtain⟨Z,hZ⟩:∃ Z,Chk0 w=Z:=⟨_,rfl⟩;have hZ':∀ e W,Chk0 w e W→Z e W:=fun e W h=>by rw[← hZ];exact h
 rw[hZ];clear hZ;unfold msgV;obtain⟨W1,hW1⟩:∃ W,w.alloc (.cells #[.int .i64 1,.string d,.int .i64 0,.int .i64 s,.slice none 0 0] 131)=W:=⟨_,rfl⟩;have hb1:Below w.heap.size w W1:=by rw[← hW1];exact(Below.refl _ _).alloc (Nat.le_refl _) _
 have hz1:Blk W1 w.heap.size [.int .i64 1,.string d,.int .i64 0,.int .i64 s,.slice none 0 0]:=by rw[← hW1];exact blk_new w _ _
 obtain⟨xb,hxb⟩:∃ b,w.heap.size=b:=⟨_,rfl⟩;have hdg:=dig_any d W1 true hd;have hw1:=within_w 1 1 6 W1 true (by decide);have hw2:=fun W=>within_w 0 0 2000000 W true (by decide);have hw3:=fun W=>within_w (s:Int) 0 2000000 W true (by simp;omega);rw[hxb]at hz1;obtain⟨z0,-⟩:=hz1 0 _ rfl;obtain⟨z1,-⟩:=hz1 1 _ rfl;obtain⟨hZ'H,hb1H,hz1H,hdgH,hdH,hw1H,hw2H,hw3H⟩:=hq2 hZ' (hq2 hb1 (hq2 hz1 (hqb hdg hd hw1 hw2 (Lib.hid hw3))));clear hZ' hb1 hz1 hdg hd hw1 hw2 hw3;go_enter Tryz.func97,Tryz.ntmps97;go_wp2_with fail;refine hw1H.out.mono ?_;rintro e wz ⟨rfl,rfl⟩;go_wp2_with fail;refine hdgH.out.mono ?_;rintro e w2 ⟨rfl,hb2⟩;have hz2:=blk_below hz1H.out (by simp) hb2;obtain⟨y0,-⟩:=hz2 0 _ rfl;obtain⟨y1,-⟩:=hz2 1 _ rfl;obtain⟨y2,-⟩:=hz2 2 _ rfl;obtain⟨y3,-⟩:=hz2 3 _ rfl;have R:=hZ'H.out (.returned (.int .i64 0)) w2 ⟨rfl,hb1H.out.trans (hb2.mono hb1H.out.size)⟩;clear z0 z1;obtain⟨hb2H,hz2H,RH⟩:=hq2 hb2 (hq2 hz2 (Lib.hid R));clear hb2 hz2 R;go_wp2_with fail;refine(hw2H.out _).mono ?_;rintro e wz ⟨rfl,rfl⟩;go_wp2_with fail;refine(hw3H.out _).mono ?_;rintro e wz ⟨rfl,rfl⟩;go_wp2_with fail;exact RH.out
theorem checkData_any (d:ByteArray) (hd:digB d=true) (f:Nat) (hf:f≤100000) (A:Option Addr) (n c:Nat) (hn:0<n) (hn2:n≤65536) (w:World) :
  Calls Tryz.prog 97 #[msgV 2 d f 0 (.slice A n c),.int .i64 n] w (Chk0 w):=by
 obtain⟨Z,hZ⟩:∃ Z,Chk0 w=Z:=⟨_,rfl⟩;have hZ':∀ e W,Chk0 w e W→Z e W:=fun e W h=>by rw[← hZ];exact h
 rw[hZ];clear hZ;unfold msgV;obtain⟨W1,hW1⟩:∃ W,w.alloc (.cells #[.int .i64 2,.string d,.int .i64 f,.int .i64 0,.slice A n c] 131)=W:=⟨_,rfl⟩;have hb1:Below w.heap.size w W1:=by rw[← hW1];exact(Below.refl _ _).alloc (Nat.le_refl _) _
 have hz1:Blk W1 w.heap.size [.int .i64 2,.string d,.int .i64 f,.int .i64 0,.slice A n c]:=by rw[← hW1];exact blk_new w _ _
 obtain⟨xb,hxb⟩:∃ b,w.heap.size=b:=⟨_,rfl⟩;have hdg:=dig_any d W1 true hd;have hw1:=within_w 2 1 6 W1 true (by decide);have hw2:=fun W=>within_w (f:Int) 0 2000000 W true (by simp;omega);have hw3:=fun W=>within_w 0 0 2000000 W true (by decide);have e1:¬ (65536:Int)<(n:Int):=by omega
 rw[hxb]at hz1;obtain⟨z0,-⟩:=hz1 0 _ rfl;obtain⟨z1,-⟩:=hz1 1 _ rfl;obtain⟨hZ'H,hb1H,hz1H,hdgH,hdH,hw1H,hw2H,hw3H⟩:=hq2 hZ' (hq2 hb1 (hq2 hz1 (hqb hdg hd hw1 hw2 (Lib.hid hw3))));clear hZ' hb1 hz1 hdg hd hw1 hw2 hw3;go_enter Tryz.func97,Tryz.ntmps97;go_wp2_with fail;refine hw1H.out.mono ?_;rintro e wz ⟨rfl,rfl⟩;go_wp2_with fail;refine hdgH.out.mono ?_;rintro e w2 ⟨rfl,hb2⟩;have hz2:=blk_below hz1H.out (by simp) hb2;obtain⟨y0,-⟩:=hz2 0 _ rfl;obtain⟨y1,-⟩:=hz2 1 _ rfl;obtain⟨y2,-⟩:=hz2 2 _ rfl;obtain⟨y3,-⟩:=hz2 3 _ rfl;have R:=hZ'H.out (.returned (.int .i64 0)) w2 ⟨rfl,hb1H.out.trans (hb2.mono hb1H.out.size)⟩;clear z0 z1;obtain⟨hb2H,hz2H,RH⟩:=hq2 hb2 (hq2 hz2 (Lib.hid R));clear hb2 hz2 R;go_wp2_with fail;refine(hw2H.out _).mono ?_;rintro e wz ⟨rfl,rfl⟩;go_wp2_with fail;refine(hw3H.out _).mono ?_;rintro e wz ⟨rfl,rfl⟩;go_wp2_with fail;exact RH.out
theorem own_apart {α:Type} {R:Rd α} {e:TypeId} {w:World} {base:Nat} {v:Value} {l:List α} (h:Own R e w base v l) {p:Addr} (u:Value) (hp:∀ g,v.ownBlock=some g→g≠p.block) (hok:∀ x,R.ok w x→R.ok (w.setCell p u) x):Own R e (w.setCell p u) base v l:=by
 refine h.kept (grown_setc w p u) ?_ (fun x _=>hok x)
 cases hv:v.ownBlock with
 | none=>exact .inl rfl
 | some g=>exact .inr fun e=>by injection e with e;exact hp g hv e
def DfAns (d:ByteArray) (l:List UInt8) (f m:Nat) (w:World) (e:Ending) (w':World):Prop :=
 Below w.heap.size w w'∧∃ (A:Option Addr) (k c:Nat),e = .returned (msgV 2 d f 0 (.slice A k c))∧Own RU8 5 w' w.heap.size (.slice A k c) ((l.drop f).take m)∧k=min m (l.length-f)
theorem dataFrom_any (d:ByteArray) (A:Option Addr) (n c:Nat) (l:List UInt8) (f m:Nat) (hf:f<n) (hn:n≤100000) (hm:0<m) (hm2:m≤65536) (w:World) (hl:(RSl RU8).ok w ⟨A,n,c,l⟩) :
  Calls Tryz.prog 65 #[.string d,.slice A n c,.int .i64 f,.int .i64 m] w (DfAns d l f m w):=by
 obtain⟨Z,hZ⟩:∃ Z,DfAns d l f m w=Z:=⟨_,rfl⟩;have hZ':∀ e W,DfAns d l f m w e W→Z e W:=fun e W h=>by rw[← hZ];exact h
 rw[hZ];clear hZ;have hln:l.length=n:=hl.1.1;have hnc:n≤c:=hl.2.1;have hcm:c≤maxLen:=hl.2.2.1;obtain⟨b,off,hA,_⟩:=hl.1.2.1 (by show 0<n;omega);have hA:A=some ⟨b,off,none⟩:=hA;subst hA;obtain⟨q,hq⟩:∃ q,min (f+m) n=q:=⟨_,rfl⟩;have hqn:q≤n:=by omega
 have hqf:f≤q:=by omega
 have hmin:min ((f:Int)+(m:Int)) (n:Int)=(q:Int):=by omega
 have hcf:¬ c=f:=by omega
 obtain⟨W1,hW1⟩:∃ W,w.alloc (.cells #[.int .i64 0,.string ⟨#[]⟩,.int .i64 0,.int .i64 0,.slice none 0 0] 131)=W:=⟨_,rfl⟩;have hb1:Below w.heap.size w W1:=by rw[← hW1];exact(Below.refl _ _).alloc (Nat.le_refl _) _
 have hz1:Blk W1 w.heap.size [.int .i64 0,.string ⟨#[]⟩,.int .i64 0,.int .i64 0,.slice none 0 0]:=by rw[← hW1];exact blk_new w _ _
 have hl1:=hl.1.below hb1;have hsd:=slAt_drop hl1 f (by show f≤n;omega) hnc 1 rfl;rw[if_neg hcf]at hsd;have hst:=slAt_take hsd (q-f) (by show q-f≤n-f;omega);have hed:(l.drop f).take (q-f)=(l.drop f).take m:=by
  by_cases h:f+m≤n
  ·rw[show q-f=m by omega]
  ·rw[List.take_of_length_le (by rw[List.length_drop];omega),List.take_of_length_le (by rw[List.length_drop];omega)]
 rw[hed]at hst;have hok:(RSl RU8).ok W1 ⟨some ⟨b,off+f,none⟩,q-f,c-f,(l.drop f).take m⟩:=by
  refine⟨by simpa[Addr.add_lit]using hst,?_,?_,fun h=>by cases h⟩
  ·show q-f≤c-f;omega
  ·show c-f≤maxLen;omega
 have hcl:=clone_bytes _ _ _ _ W1 hok (by omega);have j0:(f:Int)≤(q:Int):=by omega
 have j1:(q:Int)≤(c:Int):=by omega
 have hsl:∀ W,(Instr.slice 39 (.slice (some ⟨b,off,none⟩) n c) (some (.int .i64 (f:Int))) (some (.int .i64 (q:Int))) none).run Tryz.prog W = .ok (.slice (some ⟨b,off+f,none⟩) (q-f) (c-f)) W:=fun W=>by
  have hsz:(sizeOf (Tryz.prog.elem 39)).run Tryz.prog W = .ok 1 W:=by kernel_rfl
  rw[run_slice_lh (P:=Tryz.prog) W 39 (some ⟨b,off,none⟩) n c (by kernel_rfl) .i64 .i64 (f:Int) (q:Int) (by omega) j0 j1,hsz];simp[Result.andThen,sliced,hcf,Addr.add_lit]
 obtain⟨hZ'H,hb1H,hz1H,hlH,hl1H,hsdH,hstH,hokH,hclH,hqH,hedH,hlnH⟩:=hq2 hZ' (hq2 hb1 (hq2 hz1 (hqc hl hl1 hsd hst hok hcl hq hed (Lib.hid hln))));clear hZ' hb1 hz1 hl hl1 hsd hst hok hcl hq hed hln;go_enter Tryz.func65,Tryz.ntmps65;go_wp2_with fail;refine hclH.out.mono ?_;rintro e w2 ⟨A2,c2,rfl,hown2,hb2⟩;have hz2:=blk_below hz1H.out (by simp) hb2;obtain⟨y0,z0⟩:=hz2 0 _ rfl;obtain⟨y1,z1⟩:=hz2 1 _ rfl;obtain⟨y2,z2⟩:=hz2 2 _ rfl;obtain⟨y3,z3⟩:=hz2 3 _ rfl;obtain⟨y4,z4⟩:=hz2 4 _ rfl;obtain⟨xb,hxb⟩:∃ b,w.heap.size=b:=⟨_,rfl⟩;rw[hxb]at y0 y1 y2 y3 y4 z0 z1 z2 z3 z4;have hlt:∀ g,(Value.slice A2 (q-f) c2).ownBlock=some g→g≠xb:=fun g hg e=>by
  have h1:=(hown2.1.lt g hg).1;have h2:=hz1H.out.lt (by simp);omega
 rw[hxb]at hz2;have hz5:=((((hz2.set (k:=0) (by simp) (.int .i64 2)).set (k:=1) (by simp) (.string d)).set (k:=2) (by simp) (.int .i64 (f:Nat))).set (k:=3) (by simp) (.int .i64 0)).set (k:=4) (by simp) (.slice A2 (q-f) c2);have hown5:=own_apart (own_apart (own_apart (own_apart (own_apart hown2 (p:=⟨xb,0,none⟩) (.int .i64 2) hlt (fun _ h=>h)) (p:=⟨xb,1,none⟩) (.string d) hlt (fun _ h=>h)) (p:=⟨xb,2,none⟩) (.int .i64 (f:Nat)) hlt (fun _ h=>h)) (p:=⟨xb,3,none⟩) (.int .i64 0) hlt (fun _ h=>h)) (p:=⟨xb,4,none⟩) (.slice A2 (q-f) c2) hlt (fun _ h=>h);have hb02:Below w.heap.size w w2:=hb1H.out.trans (hb2.mono hb1H.out.size);have hx9:∀ (k:Nat),w.heap.size≤(⟨xb,k,none⟩:Addr).block:=fun k=>by show w.heap.size≤xb;omega
 have hb5:=((((hb02.setCell (hx9 0) (.int .i64 2)).setCell (hx9 1) (.string d)).setCell (hx9 2) (.int .i64 (f:Nat))).setCell (hx9 3) (.int .i64 0)).setCell (hx9 4) (.slice A2 (q-f) c2);clear hx9;obtain⟨hown2H,hb2H,hz2H⟩:=hq2 hown2 (hq2 hb2 (Lib.hid hz2));clear hown2 hb2 hz2;go_wp2_with fail;obtain⟨W3,hW3⟩:∃ W,((((w2.setCell ⟨xb,0,none⟩ (.int .i64 2)).setCell ⟨xb,1,none⟩ (.string d)).setCell ⟨xb,2,none⟩ (.int .i64 (f:Nat))).setCell ⟨xb,3,none⟩ (.int .i64 0)).setCell ⟨xb,4,none⟩ (.slice A2 (q-f) c2)=W:=⟨_,rfl⟩;rw[hW3]at hz5 hown5 hb5 ⊢;obtain⟨t0,-⟩:=hz5 0 _ rfl;obtain⟨t1,-⟩:=hz5 1 _ rfl;obtain⟨t2,-⟩:=hz5 2 _ rfl;obtain⟨t3,-⟩:=hz5 3 _ rfl;obtain⟨t4,-⟩:=hz5 4 _ rfl;have R:=hZ'H.out (.returned (msgV 2 d f 0 (.slice A2 (q-f) c2))) W3 ⟨hb5,A2,q-f,c2,rfl,own_lower hown5 hb1H.out.size,by rw[hlnH.out];have:=hqH.out;omega⟩;exact bodyPost_ret (v:=msgV 2 d f 0 (.slice A2 (q-f) c2)) (by simp[results,Tryz.results65,go_sem,t0,t1,t2,t3,t4,msgV]) rfl R
theorem elem_PaT:Elem Tryz.prog 125 RPv.size 48:=elem_of (z:=.agg #[.string ⟨#[]⟩,.int .i64 0,.slice none 0 0]) (by kernel_rfl) (by decide)
theorem clone_obs (A:Option Addr) (m c:Nat) (l:List ObT) (w:World) (h:SlAt ROv w A m l) (hc:A=none→c=0) (hm:m≤1000000) :
  Calls Tryz.prog 61 #[.slice A m c] w fun e w' =>
   ∃ A' c',e = .returned (.slice A' m c')∧Own ROv 41 w' w.heap.size (.slice A' m c') l∧Below w.heap.size w w':=by
 cases A with
 | none =>
  obtain rfl:c=0:=hc rfl;obtain rfl:m=0:=by
   rcases Nat.eq_zero_or_pos m with h0 | h0
   ·exact h0
   ·obtain⟨_,_,h1,_⟩:=h.2.1 h0;cases h1
  obtain rfl:l = []:=List.eq_nil_of_length_eq_zero h.1;clear h;have he:=fun W:World=>Lib.run_eql_slice_nil (P:=Tryz.prog) W 24 41 none 0 0 0 0 Tryz.underlying24;go_enter Tryz.func61,Tryz.ntmps61;go_wp2;go_ret;exact⟨none,0,rfl,Own.nil _ _,Below.refl _ _⟩
 | some ad =>
  have hH:=Lib.hid h;clear h;have he:=fun W:World=>Lib.run_eql_slice_nil (P:=Tryz.prog) W 24 41 (some ad) m c 0 0 Tryz.underlying24;go_enter Tryz.func61,Tryz.ntmps61;go_wp2_with (at_builtin;go_loud (refine wpList_app rfl (.tmp 5) (.tmp 6) 24 rfl Tryz.underlying24 elem_ObT (by decide) rfl (Own.empty w) (some ad) m c l rfl ?rd ?nn ?ok ?c1 ?c2 ?c3 m ?c4 ?_))
  case rd=>exact hH.out.below ((Below.refl _ _).alloc (Nat.le_refl _) _)
  case nn=>intro _ h;cases h
  case ok=>exact fun _ _ _ _ h=>h
  case c1=>simp[maxLen];omega
  case c2=>simp;omega
  case c3=>simp
  case c4=>simp
  intro A' c' w1 hown hg hat hb;go_wp2;go_ret;exact⟨A',c',rfl,hown,((Below.refl _ _).alloc (Nat.le_refl _) _).trans hb⟩
theorem clone_pas (A:Option Addr) (m c:Nat) (l:List PaT) (w:World) (h:SlAt RPv w A m l) (hc:A=none→c=0) (hm:m≤1000000) :
  Calls Tryz.prog 62 #[.slice A m c] w fun e w' =>
   ∃ A' c',e = .returned (.slice A' m c')∧Own RPv 125 w' w.heap.size (.slice A' m c') l∧Below w.heap.size w w':=by
 cases A with
 | none =>
  obtain rfl:c=0:=hc rfl;obtain rfl:m=0:=by
   rcases Nat.eq_zero_or_pos m with h0 | h0
   ·exact h0
   ·obtain⟨_,_,h1,_⟩:=h.2.1 h0;cases h1
  obtain rfl:l = []:=List.eq_nil_of_length_eq_zero h.1;clear h;have he:=fun W:World=>Lib.run_eql_slice_nil (P:=Tryz.prog) W 30 125 none 0 0 0 0 Tryz.underlying30;go_enter Tryz.func62,Tryz.ntmps62;go_wp2;go_ret;exact⟨none,0,rfl,Own.nil _ _,Below.refl _ _⟩
 | some ad =>
  have hH:=Lib.hid h;clear h;have he:=fun W:World=>Lib.run_eql_slice_nil (P:=Tryz.prog) W 30 125 (some ad) m c 0 0 Tryz.underlying30;go_enter Tryz.func62,Tryz.ntmps62;go_wp2_with (at_builtin;go_loud (refine wpList_app rfl (.tmp 5) (.tmp 6) 30 rfl Tryz.underlying30 elem_PaT (by decide) rfl (Own.empty w) (some ad) m c l rfl ?rd ?nn ?ok ?c1 ?c2 ?c3 m ?c4 ?_))
  case rd=>exact hH.out.below ((Below.refl _ _).alloc (Nat.le_refl _) _)
  case nn=>intro _ h;cases h
  case ok=>exact fun _ _ _ _ h=>h
  case c1=>simp[maxLen];omega
  case c2=>simp;omega
  case c3=>simp
  case c4=>simp
  intro A' c' w1 hown hg hat hb;go_wp2;go_ret;exact⟨A',c',rfl,hown,((Below.refl _ _).alloc (Nat.le_refl _) _).trans hb⟩
theorem clone_ints (A:Option Addr) (m c:Nat) (l:List Int) (w:World) (h:SlAt RInt w A m l) (hc:A=none→c=0) (hm:m≤1000000) :
  Calls Tryz.prog 31 #[.slice A m c] w fun e w' =>
   ∃ A' c',e = .returned (.slice A' m c')∧Own RInt 3 w' w.heap.size (.slice A' m c') l∧Below w.heap.size w w':=by
 cases A with
 | none =>
  obtain rfl:c=0:=hc rfl;obtain rfl:m=0:=by
   rcases Nat.eq_zero_or_pos m with h0 | h0
   ·exact h0
   ·obtain⟨_,_,h1,_⟩:=h.2.1 h0;cases h1
  obtain rfl:l = []:=List.eq_nil_of_length_eq_zero h.1;clear h;have he:=fun W:World=>Lib.run_eql_slice_nil (P:=Tryz.prog) W 23 3 none 0 0 0 0 Tryz.underlying23;go_enter Tryz.func31,Tryz.ntmps31;go_wp2;go_ret;exact⟨none,0,rfl,Own.nil _ _,Below.refl _ _⟩
 | some ad =>
  have hH:=Lib.hid h;clear h;have he:=fun W:World=>Lib.run_eql_slice_nil (P:=Tryz.prog) W 23 3 (some ad) m c 0 0 Tryz.underlying23;go_enter Tryz.func31,Tryz.ntmps31;go_wp2_with (at_builtin;go_loud (refine wpList_app rfl (.tmp 5) (.tmp 6) 23 rfl Tryz.underlying23 elem_Int1 (by decide) rfl (Own.empty w) (some ad) m c l rfl ?rd ?nn ?ok ?c1 ?c2 ?c3 m ?c4 ?_))
  case rd=>exact hH.out.below ((Below.refl _ _).alloc (Nat.le_refl _) _)
  case nn=>intro _ h;cases h
  case ok=>exact fun _ _ _ _ h=>h
  case c1=>simp[maxLen];omega
  case c2=>simp;omega
  case c3=>simp
  case c4=>simp
  intro A' c' w1 hown hg hat hb;go_wp2;go_ret;exact⟨A',c',rfl,hown,((Below.refl _ _).alloc (Nat.le_refl _) _).trans hb⟩
def SameO (D D':List ObT):Prop:=D'.length=D.length∧∀ (j:Nat) x y,D[j]? = some x→D'[j]? = some y→y.dig=x.dig∧y.bytes.l=x.bytes.l
theorem SameO.refl (D:List ObT):SameO D D:=⟨rfl,fun j x y h1 h2=>by rw[h1]at h2;injection h2 with h2;subst h2;exact⟨rfl,rfl⟩⟩
structure OwM (D:List ObT) (T B:Nat) (AD AP:Option Addr) (cD cP:Nat) (D':List ObT) (w:World):Prop where
 oD:Own ROv 41 w B (.slice AD D.length cD) D'
 oP:Own RPv 125 w B (.slice AP 0 cP) []
 same:SameO D D'
 dj:Dj (.slice AD D.length cD) (.slice AP 0 cP)
 el:∀ x∈D',(RSl RU8).ok w x.bytes∧Far T B (.slice AD D.length cD) x.bytes∧Far T B (.slice AP 0 cP) x.bytes
def OwAns (D:List ObT) (T0:Nat) (w:World) (e:Ending) (w':World):Prop :=
 Below w.heap.size w w'∧∃ (AD AP:Option Addr) (cD cP:Nat) (D':List ObT),e = .returned (.agg #[.slice AD D.length cD,.slice AP 0 cP])∧OwM D T0 (w.heap.size+2) AD AP cD cP D' w'
def OwRel (D:List ObT) (T0:Nat) (w0:World) (rb:Nat) (AD AP:Option Addr) (cD cP:Nat) (i:Value) (wr:World):Prop :=
 ∃ (k:Nat) (D':List ObT),k≤D.length∧i = .int .i64 k∧Blk wr rb [.slice AD D.length cD,.slice AP 0 cP]∧Blk wr (rb+1) [.slice none 0 0,.slice none 0 0]∧OwM D T0 (rb+2) AD AP cD cP D' wr∧Below w0.heap.size w0 wr
theorem OwM.below {D D':List ObT} {T B:Nat} {AD AP:Option Addr} {cD cP:Nat} {w w':World} (h:OwM D T B AD AP cD cP D' w) (hb:Below w.heap.size w w'):OwM D T B AD AP cD cP D' w' :=
 ⟨h.oD.below hb,h.oP.below hb,h.same,h.dj,fun x hx=>⟨(RSl RU8).mono _ _ _ hb (h.el x hx).1,(h.el x hx).2⟩⟩
theorem own_any (AD0 AP0:Option Addr) (cD0 cP0:Nat) (D:List ObT) (w:World) (hst:Store w AD0 D.length D) (hc1:AD0=none→cD0=0) (hc2:AP0=none→cP0=0) (T0:Nat) (hT0:T0≤w.heap.size) (hold:∀ x∈D,0<x.bytes.n→∀ ad,x.bytes.A=some ad→ad.block<T0) :
  Calls Tryz.prog 30 #[.agg #[.slice AD0 D.length cD0,.slice AP0 0 cP0]] w (OwAns D T0 w):=by
 obtain⟨Z,hZ⟩:∃ Z,OwAns D T0 w=Z:=⟨_,rfl⟩;have hZ':∀ e W,OwAns D T0 w e W→Z e W:=fun e W h=>by rw[← hZ];exact h
 rw[hZ];clear hZ;have hn4:=hst.n4;obtain⟨W2,hW2⟩:∃ W,(w.alloc (.cells #[.slice AD0 D.length cD0,.slice AP0 0 cP0] 32)).alloc (.cells #[.slice none 0 0,.slice none 0 0] 32)=W:=⟨_,rfl⟩;have hb2:Below w.heap.size w W2:=by rw[← hW2];exact((Below.refl _ _).alloc (Nat.le_refl _) _).alloc (by simp) _
 have hz1:Blk W2 w.heap.size [.slice AD0 D.length cD0,.slice AP0 0 cP0]:=by
  rw[← hW2];exact blk_below (blk_new w _ _) (by simp) ((Below.refl _ _).alloc (Nat.le_refl _) _)
 have hz2:Blk W2 (w.heap.size+1) [.slice none 0 0,.slice none 0 0]:=by
  rw[← hW2];have:=blk_new (w.alloc (.cells #[.slice AD0 D.length cD0,.slice AP0 0 cP0] 32)) [.slice none 0 0,.slice none 0 0] 32
  simpa using this
 have hs2:W2.heap.size=w.heap.size+2:=by rw[← hW2];simp
 obtain⟨rb,hrb⟩:∃ b,w.heap.size=b:=⟨_,rfl⟩;rw[hrb]at hz1 hz2 hs2;obtain⟨r0,f0⟩:=hz1 0 _ rfl;obtain⟨r1,f1⟩:=hz1 1 _ rfl;have hbd:Below W2.heap.size W2 W2.drew:=(Below.refl _ _).drew;have hslD:=((ob_v hst.sl).below hb2).below hbd;have hcl1:=clone_obs AD0 D.length cD0 D W2.drew hslD hc1 (by omega);have hcl2:=fun W=>clone_pas AP0 0 cP0 [] W ⟨rfl,fun h=>absurd h (by decide),fun x h=>by cases h⟩ hc2 (by decide);obtain⟨hZ'H,hstH,hb2H,hz1H,hz2H,hbdH,hslDH,hcl1H,hcl2H,hc1H,hc2H,holdH⟩:=hq2 hZ' (hq2 hst (hq2 hb2 (hqc hz1 hz2 hbd hslD hcl1 hcl2 hc1 hc2 (Lib.hid hold))));clear hZ' hst hb2 hz1 hz2 hbd hslD hcl1 hcl2 hc1 hc2 hold;go_enter Tryz.func30,Tryz.ntmps30;go_wp2_with fail;refine startR (R:=Rk (fun V=>V.cell? ⟨rb,0,none⟩=some (.slice AD0 D.length cD0)∧V.cell? ⟨rb,1,none⟩=some (.slice AP0 0 cP0)) (fun _=>True) 7 9) (by kernel_rfl) ?_;have hF:W2.drew.cell? ⟨rb,0,none⟩=some (.slice AD0 D.length cD0)∧W2.drew.cell? ⟨rb,1,none⟩=some (.slice AP0 0 cP0):=⟨r0,r1⟩;have hC:True:=trivial;refine takeC (i:=0) (d:=some 5) (v:=?_) rfl rfl (by kernel_rfl) (by kernel_rfl) (by kernel_rfl) (by kernel_rfl) (fun _ _ _ h=>h) (Or.inl ⟨by rfl,?_⟩) hC ?_
 rotate_left
 ·(intro w hSw;(try dsimp only at hSw);go_simp;(try with_reducible rfl))
 (try simp only[Act.put,List.setIfInBounds_toArray,List.set_cons_zero,List.set_cons_succ])
 refine tfS [(1,6)] ?_;(iterate 1 (refine tfL (v:=?_) (hy:=Or.inl ⟨by rfl,?_⟩) (hS:=hF) (h:=?_);rotate_left;(· (intro w hSw;(try dsimp only at hSw);go_simp;(try with_reducible rfl)));(try simp only[Act.put,List.setIfInBounds_toArray,List.set_cons_zero,List.set_cons_succ])));refine tfE ?_;refine takeC (i:=3) (d:=some 8) (v:=?_) rfl rfl (by kernel_rfl) (by kernel_rfl) (by kernel_rfl) (by kernel_rfl) (fun _ _ _ h=>h) (Or.inl ⟨by rfl,?_⟩) hC ?_
 rotate_left
 ·(intro w hSw;(try dsimp only at hSw);go_simp;(try with_reducible rfl))
 (try simp only[Act.put,List.setIfInBounds_toArray,List.set_cons_zero,List.set_cons_succ])
 refine tfS [(4,9)] ?_;(iterate 1 (refine tfL (v:=?_) (hy:=Or.inl ⟨by rfl,?_⟩) (hS:=hF) (h:=?_);rotate_left;(· (intro w hSw;(try dsimp only at hSw);go_simp;(try with_reducible rfl)));(try simp only[Act.put,List.setIfInBounds_toArray,List.set_cons_zero,List.set_cons_succ])));refine tfE ?_;refine oneR (i:=2) (by kernel_rfl) rfl (fun K hK=>?_);go_simp;go_at_call 61;refine hcl1H.out.mono ?_;rintro e w3 ⟨AD,cD,rfl,hoD,hb3⟩;have hb23:Below W2.heap.size W2 w3:=hbdH.out.trans hb3;have hF3:w3.cell? ⟨rb,0,none⟩=some (.slice AD0 D.length cD0)∧w3.cell? ⟨rb,1,none⟩=some (.slice AP0 0 cP0):=⟨keepC hb23 r0,keepC hb23 r1⟩;obtain⟨hoDH,hb3H,hb23H⟩:=hq2 hoD (hq2 hb3 (Lib.hid hb23));clear hoD hb3 hb23;refine hK.out _ _ ⟨fun _ _ _=>hF3,fun _ _=>trivial⟩ ?_;clear hK K
 (try simp only[Act.put,List.setIfInBounds_toArray,List.set_cons_zero,List.set_cons_succ])
 clear hF;refine takeC (i:=6) (d:=some 11) (v:=?_) rfl rfl (by kernel_rfl) (by kernel_rfl) (by kernel_rfl) (by kernel_rfl) (fun _ _ _ h=>h) (Or.inl ⟨by rfl,?_⟩) hC ?_
 rotate_left
 ·(intro w hSw;(try dsimp only at hSw);go_simp;(try with_reducible rfl))
 (try simp only[Act.put,List.setIfInBounds_toArray,List.set_cons_zero,List.set_cons_succ])
 refine oneR (i:=5) (by kernel_rfl) rfl (fun K hK=>?_);go_simp;go_at_call 62;refine(hcl2H.out w3).mono ?_;rintro e w4 ⟨AP,cP,rfl,hoP,hb4⟩;have hb24:=hb23H.out.trans (hb4.mono hb23H.out.size);have hF4:w4.cell? ⟨rb,0,none⟩=some (.slice AD0 D.length cD0)∧w4.cell? ⟨rb,1,none⟩=some (.slice AP0 0 cP0):=⟨keepC hb24 r0,keepC hb24 r1⟩;have hz14:=blk_below hz1H.out (by simp) hb24;have hz24:=blk_below hz2H.out (by simp) hb24;obtain⟨s0,t0⟩:=hz14 0 _ rfl;have hs3:rb+2≤w3.heap.size:=by have:=hb23H.out.size;omega
 have hoD4:=hoDH.out.below hb4;have hdj:Dj (.slice AD D.length cD) (.slice AP 0 cP):=fun x hx e=>by
  have h1:=(hoDH.out.1.lt x hx).2;have h2:=(hoP.1.lt x e).1;omega
 have hz5:=hz14.set (k:=0) (by simp) (.slice AD D.length cD);obtain⟨W5,hW5⟩:∃ W,w4.setCell ⟨rb,0,none⟩ (.slice AD D.length cD)=W:=⟨_,rfl⟩;rw[hW5]at hz5;obtain⟨s1,t1⟩:=hz5 1 _ rfl;have hz6:=hz5.set (k:=1) (by simp) (.slice AP 0 cP);obtain⟨W6,hW6⟩:∃ W,W5.setCell ⟨rb,1,none⟩ (.slice AP 0 cP)=W:=⟨_,rfl⟩;rw[hW6]at hz6;have hap:∀ (v:Value) {w9:World} {R:Rd ObT} ,True:=fun _ _ _=>trivial;have hneD:∀ g,(Value.slice AD D.length cD).ownBlock=some g→g≠rb:=fun g hg=>by have h1:=(hoDH.out.1.lt g hg).1;have h2:W2.heap.size≤g:=h1;omega
 have hneP:∀ g,(Value.slice AP 0 cP).ownBlock=some g→g≠rb:=fun g hg=>by have h1:=(hoP.1.lt g hg).1;omega
 have hb06:Below w.heap.size w W6:=by
  rw[← hW6,← hW5];have h1:w.heap.size≤rb:=by omega
  exact((hb2H.out.trans (hb24.mono hb2H.out.size)).setCell h1 _).setCell h1 _
 have hM6:OwM D T0 (rb+2) AD AP cD cP D W6:=by
  refine⟨?_,?_,SameO.refl D,hdj,fun x hx=>?_⟩
  ·rw[← hW6,← hW5];exact own_apart (own_apart (own_lower hoD4 (by show rb+2≤W2.drew.heap.size;show rb+2≤W2.heap.size;omega)) (p:=⟨rb,0,none⟩) _ hneD (fun _ h=>h)) (p:=⟨rb,1,none⟩) _ hneD (fun _ h=>h)
  ·rw[← hW6,← hW5];exact own_apart (own_apart (own_lower hoP hs3) (p:=⟨rb,0,none⟩) _ hneP (fun _ h=>h)) (p:=⟨rb,1,none⟩) _ hneP (fun _ h=>h)
  ·have h1:=hstH.out.sl.2.2 x hx;have hfar:∀ v,Far T0 (rb+2) v x.bytes:=fun v hn ad hA=>.inl (holdH.out x hx hn ad hA);exact⟨(RSl RU8).mono _ _ _ hb06 h1,hfar _,hfar _⟩
 have hz26:Blk W6 (rb+1) [.slice none 0 0,.slice none 0 0]:=by
  rw[← hW6,← hW5];exact(hz24.keep (Below.heap_setCell _ _ _ _ (by simp))).keep (Below.heap_setCell _ _ _ _ (by simp))
 have hst0:OwRel D T0 w rb AD AP cD cP (.int .i64 0) W6:=⟨0,D,Nat.zero_le _,rfl,hz6,hz26,hM6,hb06⟩;obtain⟨x0,-⟩:=hz6 0 _ rfl;clear hap hneD hneP hoP hoD4 hM6;obtain⟨hb4H,hb24H,hz14H,hz24H,hdjH,hb06H,hz26H,hst0H,hz5H,hz6H⟩:=hq2 hb4 (hqc hb24 hz14 hz24 hdj hb06 hz26 hst0 hz5 (Lib.hid hz6));clear hb4 hb24 hz14 hz24 hdj hb06 hz26 hst0 hz5 hz6;refine hK.out _ _ ⟨fun _ _ _=>hF4,fun _ _=>trivial⟩ ?_;clear hK K
 (try simp only[Act.put,List.setIfInBounds_toArray,List.set_cons_zero,List.set_cons_succ])
 refine oneR (i:=7) (by kernel_rfl) rfl (fun K hK=>?_);go_simp;refine hK.out _ _ ⟨fun _ h=>absurd rfl h,fun _ _=>trivial⟩ ?_;clear hK K
 (try simp only[Act.put,List.setIfInBounds_toArray,List.set_cons_zero,List.set_cons_succ])
 refine takeC (i:=8) (d:=some 12) (v:=?_) rfl rfl (by kernel_rfl) (by kernel_rfl) (by kernel_rfl) (by kernel_rfl) (fun _ _ _ h=>h) (Or.inl ⟨by rfl,?_⟩) hC ?_
 rotate_left
 ·(intro w hSw;(try dsimp only at hSw);go_simp;(try with_reducible rfl))
 (try simp only[Act.put,List.setIfInBounds_toArray,List.set_cons_zero,List.set_cons_succ])
 refine oneR (i:=9) (by kernel_rfl) rfl (fun K hK=>?_);go_simp;refine hK.out _ _ ⟨fun h=>absurd rfl h,fun h=>absurd rfl h⟩ ?_;clear hK K
 (try simp only[Act.put,List.setIfInBounds_toArray,List.set_cons_zero,List.set_cons_succ])
 refine doneR (by kernel_rfl) ?_ _;clear hC hF3 hF4 s0 t0 s1 t1 r0 r1 f0 f1;go_wp2_with fail
 go_loopw [16] (fun i wr=>OwRel D T0 w rb AD AP cD cP i wr) (fun i _=>D.length-(intOf i).toNat)
 case atStart=>exact hst0H.out
 case round =>
  clear hst0H x0;obtain⟨k,D',hk,rfl,hz,hz2',hM,hb⟩:=hrel;obtain⟨r0,f0⟩:=hz 0 _ rfl
  by_cases hlt:k<D.length
  ·have hDl:D'.length=D.length:=hM.same.1;obtain⟨x,hx⟩:∃ x,D'[k]? = some x:=⟨D'[k]'(by omega),List.getElem?_eq_getElem _⟩;obtain⟨g,hA⟩:=own_form hM.oD (by omega);subst hA;obtain⟨-,c1⟩:=cells_ObT hM.oD.slAt hx;have hfz:=own_frozen hM.oD (k*2+1);have hxm:=List.mem_of_getElem? hx;obtain⟨hxu,hxf,hxg⟩:=hM.el x hxm;have hxn:x.bytes.n≤2000000:=by
    obtain⟨y,hy⟩:∃ y,D[k]? = some y:=⟨D[k]'hlt,List.getElem?_eq_getElem _⟩;have h1:=(hM.same.2 k y x hy hx).2;have h2:=hstH.out.big y (List.mem_of_getElem? hy);have h3:x.bytes.l.length=x.bytes.n:=hxu.1.1;rw[h1]at h3;omega
   have hgr:=hM.oD.1.lt g rfl;obtain⟨xd,⟨xA,xn,xc,xl⟩⟩:=x;simp only at c1 hxu hxn;have c1:wr.cell? ⟨g,k*2+1,none⟩=some (.slice xA xn xc):=by simpa using c1
   have hbd:Below wr.heap.size wr wr.drew:=(Below.refl _ _).drew;have hcl:=clone_bytes xA xn xc xl wr.drew ((RSl RU8).mono _ _ _ hbd hxu) (by omega);obtain⟨hzH,hz2'H,hMH,hbH,hxH,hxmH,hxuH,hxfH,hxgH,hclH,hbdH⟩:=hq2 hz (hq2 hz2' (hqc hM hb hx hxm hxu hxf hxg hcl (Lib.hid hbd)));clear hz hz2' hM hb hx hxm hxu hxf hxg hcl hbd;go_wp2_with fail;refine startR (R:=Rk (fun V=>V.cell? ⟨rb,0,none⟩=some (.slice (some ⟨g,0,none⟩) D.length cD)∧V.cell? ⟨g,k*2+1,none⟩=some (.slice xA xn xc)) (fun V=>True) 12 99) (by kernel_rfl) ?_;have hF:wr.drew.cell? ⟨rb,0,none⟩=some (.slice (some ⟨g,0,none⟩) D.length cD)∧wr.drew.cell? ⟨g,k*2+1,none⟩=some (.slice xA xn xc):=⟨r0,c1⟩;have hC:True:=trivial;refine takeC (i:=0) (d:=some 19) (v:=?_) rfl rfl (by kernel_rfl) (by kernel_rfl) (by kernel_rfl) (by kernel_rfl) (fun _ _ _ h=>h) (Or.inl ⟨by rfl,?_⟩) hC ?_
   rotate_left
   ·(intro w hSw;(try dsimp only at hSw);go_simp;(try with_reducible rfl))
   (try simp only[Act.put,List.setIfInBounds_toArray,List.set_cons_zero,List.set_cons_succ])
   refine tfS [(1,20)] ?_;(iterate 1 (refine tfL (v:=?_) (hy:=Or.inl ⟨by rfl,?_⟩) (hS:=hF) (h:=?_);rotate_left;(· (intro w hSw;(try dsimp only at hSw);go_simp;(try with_reducible rfl)));(try simp only[Act.put,List.setIfInBounds_toArray,List.set_cons_zero,List.set_cons_succ])));refine tfE ?_;refine takeC (i:=2) (d:=some 21) (v:=?_) rfl rfl (by kernel_rfl) (by kernel_rfl) (by kernel_rfl) (by kernel_rfl) (fun _ _ _ h=>h) (Or.inl ⟨by rfl,?_⟩) hC ?_
   rotate_left
   ·(intro w hSw;(try dsimp only at hSw);go_simp;(try with_reducible rfl))
   (try simp only[Act.put,List.setIfInBounds_toArray,List.set_cons_zero,List.set_cons_succ])
   refine takeC (i:=3) (d:=some 22) (v:=?_) rfl rfl (by kernel_rfl) (by kernel_rfl) (by kernel_rfl) (by kernel_rfl) (fun _ _ _ h=>h) (Or.inl ⟨by rfl,?_⟩) hC ?_
   rotate_left
   ·(intro w hSw;(try dsimp only at hSw);go_simp;(try with_reducible rfl))
   (try simp only[Act.put,List.setIfInBounds_toArray,List.set_cons_zero,List.set_cons_succ])
   refine tfS [(4,23)] ?_;(iterate 1 (refine tfL (v:=?_) (hy:=Or.inl ⟨by rfl,?_⟩) (hS:=hF) (h:=?_);rotate_left;(· (intro w hSw;(try dsimp only at hSw);go_simp;(try with_reducible rfl)));(try simp only[Act.put,List.setIfInBounds_toArray,List.set_cons_zero,List.set_cons_succ])));refine tfE ?_;refine takeC (i:=5) (d:=some 24) (v:=?_) rfl rfl (by kernel_rfl) (by kernel_rfl) (by kernel_rfl) (by kernel_rfl) (fun _ _ _ h=>h) (Or.inl ⟨by rfl,?_⟩) hC ?_
   rotate_left
   ·(intro w hSw;(try dsimp only at hSw);go_simp;(try with_reducible rfl))
   (try simp only[Act.put,List.setIfInBounds_toArray,List.set_cons_zero,List.set_cons_succ])
   refine takeC (i:=6) (d:=some 25) (v:=?_) rfl rfl (by kernel_rfl) (by kernel_rfl) (by kernel_rfl) (by kernel_rfl) (fun _ _ _ h=>h) (Or.inl ⟨by rfl,?_⟩) hC ?_
   rotate_left
   ·(intro w hSw;(try dsimp only at hSw);go_simp;(try with_reducible rfl))
   (try simp only[Act.put,List.setIfInBounds_toArray,List.set_cons_zero,List.set_cons_succ])
   refine takeC (i:=7) (d:=some 26) (v:=?_) rfl rfl (by kernel_rfl) (by kernel_rfl) (by kernel_rfl) (by kernel_rfl) (fun _ _ _ h=>h) (Or.inl ⟨by rfl,?_⟩) hC ?_
   rotate_left
   ·(intro w hSw;(try dsimp only at hSw);go_simp;(try with_reducible rfl))
   (try simp only[Act.put,List.setIfInBounds_toArray,List.set_cons_zero,List.set_cons_succ])
   refine tfS [(8,27)] ?_;(iterate 1 (refine tfL (v:=?_) (hy:=Or.inl ⟨by rfl,?_⟩) (hS:=hF) (h:=?_);rotate_left;(· (intro w hSw;(try dsimp only at hSw);go_simp;(try with_reducible rfl)));(try simp only[Act.put,List.setIfInBounds_toArray,List.set_cons_zero,List.set_cons_succ])));refine tfE ?_;refine oneR (i:=9) (by kernel_rfl) rfl (fun K hK=>?_);go_simp;go_at_call 63;refine hclH.out.mono ?_;rintro e w6 ⟨A6,c6,rfl,hown6,hb6⟩;have hbr6:Below wr.heap.size wr w6:=hbdH.out.trans hb6;have hF6:w6.cell? ⟨rb,0,none⟩=some (.slice (some ⟨g,0,none⟩) D.length cD)∧w6.cell? ⟨g,k*2+1,none⟩=some (.slice xA xn xc):=⟨keepC hbr6 r0,keepC hbr6 c1⟩;have hfz6:w6.frozen? ⟨g,k*2+1,none⟩=false:=(World.frozen?_of_block (a:=⟨g,k*2+1,none⟩) (hbr6.block g hgr.2)).trans hfz;have hM6:=hMH.out.below hbr6;obtain⟨W7,hW7⟩:∃ W,w6.setCell ⟨g,k*2+1,none⟩ (.slice A6 xn c6)=W:=⟨_,rfl⟩;have hrbg:rb+2≤g:=hgr.1;have hgs:=grown_setc w6 ⟨g,k*2+1,none⟩ (.slice A6 xn c6);have hM7:OwM D T0 (rb+2) (some ⟨g,0,none⟩) AP cD cP (D'.set k ⟨xd,⟨A6,xn,c6,xl⟩⟩) W7:=by
    rw[← hW7];refine⟨own_setc hM6.oD (j:=1) (x':=⟨xd,⟨A6,xn,c6,xl⟩⟩) hxH.out (by decide) rfl (fun _ _=>trivial),own_apart hM6.oP _ (fun g2 hg2 e=>hM6.dj g2 (by rw[e];rfl) hg2) (fun _ h=>h),⟨by rw[List.length_set];exact hM6.same.1,fun j y z hy hz=>?_⟩,hM6.dj,fun y hy=>?_⟩
    ·rw[List.getElem?_set]at hz
     split at hz
     ·rename_i hjk
      subst hjk
      split at hz
      ·injection hz with hz;subst hz;have h9:=hM6.same.2 _ y _ hy hxH.out;exact⟨h9.1,h9.2⟩
      ·cases hz
     ·exact hM6.same.2 j y z hy hz
    ·rcases List.mem_or_eq_of_mem_set hy with h1 | h1
     ·have h2:=hM6.el y h1;refine⟨sl_grown h2.1 hgs fun hn ad hA e=>?_,h2.2⟩;injection e with e;have e2:ad.block=g:=e
      rcases h2.2.1 hn ad hA with h3 | h3
      ·omega
      ·exact h3.2 (by rw[e2];rfl)
     ·subst h1;have hnb:∀ ad,A6=some ad→wr.heap.size≤ad.block:=fun ad hA=>(hown6.1.lt ad.block (by rw[hA];rfl)).1;refine⟨sl_grown (own_u8_ok hown6) hgs fun hn ad hA e=>?_,fun hn ad hA=>.inr ⟨?_,fun e=>?_⟩,fun hn ad hA=>.inr ⟨?_,fun e=>?_⟩⟩
      ·injection e with e;have e2:ad.block=g:=e;have:=hnb ad hA;omega
      ·have:=hnb ad hA;omega
      ·have e2:some g=some ad.block:=e;injection e2 with e2;have:=hnb ad hA;omega
      ·have:=hnb ad hA;omega
      ·have h1:=(hMH.out.oP.1.lt _ e).2;have:=hnb ad hA;omega
   have hz7:Blk W7 rb [.slice (some ⟨g,0,none⟩) D.length cD,.slice AP 0 cP]:=by rw[← hW7];exact(blk_below hzH.out (by simp) hbr6).keep (Below.heap_setCell _ _ _ _ (by show rb≠g;omega))
   have hz27:Blk W7 (rb+1) [.slice none 0 0,.slice none 0 0]:=by rw[← hW7];exact(blk_below hz2'H.out (by simp) hbr6).keep (Below.heap_setCell _ _ _ _ (by show rb+1≠g;omega))
   have hb7:Below w.heap.size w W7:=by rw[← hW7];exact(hbH.out.trans (hbr6.mono hbH.out.size)).setCell (by show w.heap.size≤g;omega) _
   have R:OwRel D T0 w rb (some ⟨g,0,none⟩) AP cD cP (.int .i64 ((k:Int)+1)) W7:=⟨k+1,_,by omega,by go_num,hz7,hz27,hM7,hb7⟩;clear hown6 hM6 hM7 hz7 hz27 hb7 hgs;obtain⟨hb6H,hbr6H,RH⟩:=hq2 hb6 (hq2 hbr6 (Lib.hid R));clear hb6 hbr6 R;refine hK.out _ _ ⟨fun _ _ _=>hF6,fun _ _=>trivial⟩ ?_;clear hK K
   (try simp only[Act.put,List.setIfInBounds_toArray,List.set_cons_zero,List.set_cons_succ])
   refine takeC (i:=10) (d:=some 29) (v:=?_) rfl rfl (by kernel_rfl) (by kernel_rfl) (by kernel_rfl) (by kernel_rfl) (fun _ _ _ h=>h) (Or.inl ⟨by rfl,?_⟩) hC ?_
   rotate_left
   ·(intro w hSw;(try dsimp only at hSw);go_simp;(try with_reducible rfl))
   (try simp only[Act.put,List.setIfInBounds_toArray,List.set_cons_zero,List.set_cons_succ])
   refine takeC (i:=11) (d:=some 30) (v:=?_) rfl rfl (by kernel_rfl) (by kernel_rfl) (by kernel_rfl) (by kernel_rfl) (fun _ _ _ h=>h) (Or.inl ⟨by rfl,?_⟩) hC ?_
   rotate_left
   ·(intro w hSw;(try dsimp only at hSw);go_simp;(try with_reducible rfl))
   (try simp only[Act.put,List.setIfInBounds_toArray,List.set_cons_zero,List.set_cons_succ])
   refine oneR (i:=12) (by kernel_rfl) rfl (fun K hK=>?_);go_simp;refine hK.out _ _ ⟨fun _ h=>absurd rfl h,fun _ _=>trivial⟩ ?_;clear hK K
   (try simp only[Act.put,List.setIfInBounds_toArray,List.set_cons_zero,List.set_cons_succ])
   refine doneR (by kernel_rfl) ?_ _;clear hC hF hF6 r0 c1 hfz hfz6 f0;go_wp2_with fail;exact⟨RH.out,by simp[intOf];omega⟩
  ·obtain rfl:k=D.length:=by omega
   obtain⟨r1,f1⟩:=hz 1 _ rfl;obtain⟨q0,y0⟩:=hz2' 0 _ rfl;obtain⟨q1,y1⟩:=hz2' 1 _ rfl;have hz2s:=(hz2'.set (k:=0) (by simp) (.slice AD D.length cD)).set (k:=1) (by simp) (.slice AP 0 cP);have hneD:∀ g,(Value.slice AD D.length cD).ownBlock=some g→g≠rb+1:=fun g hg=>by have h1:=(hM.oD.1.lt g hg).1;omega
   have hneP:∀ g,(Value.slice AP 0 cP).ownBlock=some g→g≠rb+1:=fun g hg=>by have h1:=(hM.oP.1.lt g hg).1;omega
   have hw1:w.heap.size≤rb+1:=by omega
   have hM9:OwM D T0 (rb+2) AD AP cD cP D' ((wr.setCell ⟨rb+1,0,none⟩ (.slice AD D.length cD)).setCell ⟨rb+1,1,none⟩ (.slice AP 0 cP)):=by
    refine⟨own_apart (own_apart hM.oD (p:=⟨rb+1,0,none⟩) _ hneD (fun _ h=>h)) (p:=⟨rb+1,1,none⟩) _ hneD (fun _ h=>h),own_apart (own_apart hM.oP (p:=⟨rb+1,0,none⟩) _ hneP (fun _ h=>h)) (p:=⟨rb+1,1,none⟩) _ hneP (fun _ h=>h),hM.same,hM.dj,fun x hx=>?_⟩;have h1:=hM.el x hx;have hq:∀ (o:Nat),0<x.bytes.n→∀ ad,x.bytes.A=some ad→some ad.block≠some (⟨rb+1,o,none⟩:Addr).block:=fun o hn ad hA e=>by
     injection e with e;have e2:ad.block=rb+1:=e
     rcases h1.2.1 hn ad hA with h2 | h2 <;> omega
    exact⟨sl_grown (sl_grown h1.1 (grown_setc wr ⟨rb+1,0,none⟩ _) (hq 0)) (grown_setc _ ⟨rb+1,1,none⟩ _) (hq 1),h1.2⟩
   have hb9:=(hb.setCell (p:=⟨rb+1,0,none⟩) hw1 (.slice AD D.length cD)).setCell (p:=⟨rb+1,1,none⟩) hw1 (.slice AP 0 cP);have hex:∃ AD9 AP9 cD9 cP9 D9,(Ending.returned (.agg #[.slice AD D.length cD,.slice AP 0 cP]) = .returned (.agg #[.slice AD9 D.length cD9,.slice AP9 0 cP9]))∧OwM D T0 (w.heap.size+2) AD9 AP9 cD9 cP9 D9 ((wr.setCell ⟨rb+1,0,none⟩ (.slice AD D.length cD)).setCell ⟨rb+1,1,none⟩ (.slice AP 0 cP)):=⟨AD,AP,cD,cP,D',rfl,by rw[hrb];exact hM9⟩;have R:=hZ'H.out (.returned (.agg #[.slice AD D.length cD,.slice AP 0 cP])) _ ⟨hb9,hex⟩;clear hM9 hb9 hex hneD hneP;obtain⟨hzH,hz2'H,hMH,hbH,RH,hz2sH⟩:=hq2 hz (hqb hz2' hM hb R (Lib.hid hz2s));clear hz hz2' hM hb R hz2s;go_wp2_with fail
   go_loopw [35] (fun i w9=>i = .int .i64 0∧w9=wr) (fun i _=>0)
   case atStart=>exact⟨rfl,rfl⟩
   case round =>
    obtain⟨rfl,hwe⟩:=hrel;replace hwe:=hwe.symm;subst hwe;go_wp2_with fail;obtain⟨t0,-⟩:=hz2sH.out 0 _ rfl;obtain⟨t1,-⟩:=hz2sH.out 1 _ rfl;exact bodyPost_ret (v:=.agg #[.slice AD D.length cD,.slice AP 0 cP]) (by simp[results,Tryz.results30,go_sem,t0,t1]) rfl RH.out
end Go.Proofs.YtpdjjjiknijpkaaGreatDoor.C10