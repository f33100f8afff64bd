/-
 Several texts of mine as one, without what is not wanted here: XTopE, XRdL, XAlvX, XAlwX, XLawTel, XRdO.
-/
import Derived.Test.YtdiaabeollcjaaaGreatDoorMtTC10
import Derived.Lib.SlBytesConst
set_option linter.unusedVariables false
set_option linter.unusedSimpArgs false
set_option maxRecDepth 100000
set_option maxHeartbeats 8000000
namespace Go.Proofs.YtdiaabeollcjaaaGreatDoor.C10
open Go.ChangeShapes Go.WideShapes Go.Deep Go.RowKit Go.Lib Go.Maps
def ExInfo (x:Action) (l:List File) (r:Rs):Prop :=
 ∃ (R:(Int × Int) × ES) (fp lp:List ByteArray),BothOk x l∧r.code=R.1.1∧r.told=R.2.told∧r.cmd=R.1.2∧r.ls=lp.map (lkE R.2)∧Rising fp∧Rising lp∧r.fs.map flat=fp.map (flatW R.2)∧(∀ p∈lp,p.size≤maxLen) ∧
  (∀ p,p.size≤maxLen→(p∈lp↔(R.2.lk p).isSome=true))∧((R.1.1=0∧∀ p,p.size≤maxLen→(p∈fp↔(R.2.wr p).isSome=true))∨(R.1.1≠0∧fp = []))∧(∀ p∈fp,p.size≤maxLen)∧(NoList x→runM (epOf x) (cmds x) 0 (inpF l) es0=R)
def RsAns (x:Action) (l:List File) (w:World) (e:Ending) (w':World):Prop :=
 ∃ (c:Int) (r:Rs),e = .returned (.tuple #[.agg r.cells.toArray,.int .i64 c])∧r.ok w'∧r.Ln≤600000∧(c≠0→r.Ln=0)∧(c=0→ExInfo x l r)∧Below w.heap.size w w'
theorem flat_sz {w:World} {fs:List File} {s:ES} {fp:List ByteArray} (hok:∀ y∈fs,RFile.ok w y) (h:fs.map flat=fp.map (flatW s)):∀ p∈fp,p.size≤maxLen:=by
 intro p hp;have h1:flatW s p∈fs.map flat:=by rw[h];exact List.mem_map.2 ⟨p,hp,rfl⟩
 obtain⟨y,hy,e⟩:=List.mem_map.1 h1;unfold flat flatW at e;simp only[Prod.mk.injEq]at e;rw[← e.1];exact(hok y hy).1
theorem execute_rs (x:Action) (A:Option Addr) (m c:Nat) (l:List File) (w:World) (hmx:MaxLenAt w) (hpw:PowJ w) (hx:RAction.ok w x) (hl:(RSl RFile).ok w ⟨A,m,c,l⟩) :
  Calls Tryz.prog 5 #[actV x,.slice A m c] w (RsAns x l w):=by
 refine(execute_all x A m c l w hmx hpw hx hl).mono ?_;rintro e w' (⟨c,hc,rfl,hb⟩ | ⟨R,FA,LA,Fn,Fc,Ln,Lc,fs,fp,lp,hok,rfl,hF,hL,hfr,hlr,hfl,⟨hln,hlz⟩,hlm,hcode,hrun,hb⟩)
 ·exact⟨c,⟨0,⟨#[]⟩,none,0,0,none,0,0,0,[],[]⟩,rfl,⟨⟨⟨rfl,fun h=>absurd h (by show ¬ 0<0;omega),fun y hy=>by cases hy⟩,Nat.le_refl _,Nat.zero_le _,fun _=>rfl⟩,⟨⟨rfl,fun h=>absurd h (by show ¬ 0<0;omega),fun y hy=>by cases hy⟩,Nat.le_refl _,Nat.zero_le _,fun _=>rfl⟩⟩,Nat.zero_le _,fun _=>rfl,fun h=>absurd h hc,hb⟩
 ·refine⟨0,⟨R.1.1,R.2.told,FA,Fn,Fc,LA,Ln,Lc,R.1.2,fs,lp.map (lkE R.2)⟩,rfl,⟨hF,hL⟩,?_,fun h=>absurd rfl h,fun _=>⟨R,fp,lp,hok,rfl,rfl,rfl,rfl,hfr,hlr,hfl,hlz,hlm,hcode,flat_sz hF.1.2.2 hfl,hrun⟩,hb⟩;have:=hL.1.1;simp only[List.length_map]at this;show Ln≤600000;omega
theorem tell_all {x:Action} {l1 l2:List File} {a b:Rs} (ha:ExInfo x l1 a) (hb:ExInfo x l2 b) (hn:NoList x) (T:TestReads) (hT:T.test=wT) (hp:T.paths.l=hitL a.ls) (hq:T.looked.l=missL a.ls) (hpn:T.paths.l.length=T.paths.n)
  (L:List ByteArray) (hL:Rising L) (hLz:∀ p∈L,p.size≤maxLen) (hLm:∀ p,p.size≤maxLen→(p∈L↔p∈l1.map (·.path)++l2.map (·.path))) (ch:List TreeChange) (hch:ch=L.filterMap (chOf (inpF l1) (inpF l2))) :
  ((affF [T] ch).2=0∨(affF [T] ch).2=2)∧(T.looked.n≤1000→ch.length≤1000→(affF [T] ch).2=0)∧((affF [T] ch).2=0→(affF [T] ch).1 = [wT]∨((affF [T] ch).1 = []∧a.same b)):=by
 obtain⟨R,fp,lp,hok,h1,h2,h3,h4,h5,h6,h7,h8,h9,h10,h11,hrun⟩:=ha;obtain⟨R2,fp2,lp2,hok2,g1,g2,g3,g4,g5,g6,g7,g8,g9,g10,g11,hrun2⟩:=hb;rw[h4]at hp hq;have hr:=hrun hn;have htop:=topOk_of hr hok hn h8 h9 h6 hT hp hq;have hLb:∀ p∈L,pathB p=true:=fun p hpL=>by
  have:=(hLm p (hLz p hpL)).1 hpL
  rcases List.mem_append.1 this with h | h
  ·obtain⟨y,hy,rfl⟩:=List.mem_map.1 h;exact(hok.fp y hy).1
  ·obtain⟨y,hy,rfl⟩:=List.mem_map.1 h;exact(hok2.fp y hy).1
 obtain⟨f1,f2,f3⟩:=htop.fault (l2:=l2) hL hLb hch;refine⟨f1,fun hq2 hc=>f2 (by rw[← hpn];exact htop.hits hok.fn) hq2 hc,fun h0=>?_⟩;rw[f3 h0]
 by_cases haff:affP (oldL ch) (newL ch) (overL ch) T=true
 ·rw[if_pos haff];exact .inl rfl
 ·rw[if_neg haff];refine .inr ⟨rfl,?_⟩;have hsame:=htop.same hLm hch (by simpa using haff);have hr2:=htop.run hr hok hn hsame;have hRR:R2=R:=by rw[← hrun2 hn];exact hr2
  subst hRR;have hlp:lp=lp2:=h6.eq g6 fun p=>⟨fun hm=>(g9 p (h8 p hm)).2 ((h9 p (h8 p hm)).1 hm),fun hm=>(h9 p (g8 p hm)).2 ((g9 p (g8 p hm)).1 hm)⟩;have hfp:fp=fp2:=by
   rcases h10 with ⟨e1,m1⟩ | ⟨e1,m1⟩
   ·rcases g10 with ⟨e2,m2⟩ | ⟨e2,m2⟩
    ·exact h5.eq g5 fun p=>⟨fun hm=>(m2 p (h11 p hm)).2 ((m1 p (h11 p hm)).1 hm),fun hm=>(m1 p (g11 p hm)).2 ((m2 p (g11 p hm)).1 hm)⟩
    ·exact absurd e1 e2
   ·rcases g10 with ⟨e2,m2⟩ | ⟨e2,m2⟩
    ·exact absurd e2 e1
    ·rw[m1,m2]
  exact⟨h1.trans g1.symm,h2.trans g2.symm,by rw[h7,g7,hfp],by rw[h4,g4,hlp],h3.trans g3.symm⟩
theorem hitL_snoc (l:List Lk) (y:Lk):hitL (l ++ [y])=if y.digest=⟨#[]⟩ then hitL l else hitL l ++ [y.path]:=by
 unfold hitL;rw[List.filter_append,List.map_append]
 by_cases h:y.digest=⟨#[]⟩
 ·rw[if_pos h];simp[h]
 ·rw[if_neg h];simp[h]
theorem missL_snoc (l:List Lk) (y:Lk):missL (l ++ [y])=if y.digest=⟨#[]⟩ then missL l ++ [y.path] else missL l:=by
 unfold missL;rw[List.filter_append,List.map_append]
 by_cases h:y.digest=⟨#[]⟩
 ·rw[if_pos h];simp[h]
 ·rw[if_neg h];simp[h]
structure Rd2 (tb B:Nat) (ls:List Lk) (A1:Option Addr) (n1 c1:Nat) (A2:Option Addr) (n2 c2:Nat) (W wr:World):Prop where
 blk:Blk wr tb [.string wT,.slice A1 n1 c1,.slice A2 n2 c2]
 hit:Own RStr 9 wr B (.slice A1 n1 c1) (hitL ls)
 miss:Own RStr 9 wr B (.slice A2 n2 c2) (missL ls)
 dis:∀ g,(Value.slice A1 n1 c1).ownBlock=some g→(Value.slice A2 n2 c2).ownBlock≠some g
 kp:Kp (QS tb B) W wr
 lt:tb<B
 le:B≤wr.heap.size
theorem Rd2.below {tb B:Nat} {ls:List Lk} {A1:Option Addr} {n1 c1:Nat} {A2:Option Addr} {n2 c2:Nat} {W wr w':World} (h:Rd2 tb B ls A1 n1 c1 A2 n2 c2 W wr) (hb:Below wr.heap.size wr w'):Rd2 tb B ls A1 n1 c1 A2 n2 c2 W w' :=
 ⟨blk_below h.blk (by simp) hb,h.hit.below hb,h.miss.below hb,h.dis,h.kp.trans (Kp.of_below hb),h.lt,Nat.le_trans h.le hb.size⟩
theorem Rd2.start {tb:Nat} {W:World} (hz:Blk W tb [.string wT,.slice none 0 0,.slice none 0 0]) (hlt:tb<W.heap.size):Rd2 tb W.heap.size [] none 0 0 none 0 0 W W :=
 ⟨hz,Own.nil _ _,Own.nil _ _,fun g h=>(by cases h),Kp.refl _ _,hlt,Nat.le_refl _⟩
theorem Rd2.putH {tb B:Nat} {ls:List Lk} {A1:Option Addr} {n1 c1:Nat} {A2:Option Addr} {n2 c2:Nat} {W w8 w9:World} (h:Rd2 tb B ls A1 n1 c1 A2 n2 c2 W w8) {y:Lk} (hy:¬ y.digest=⟨#[]⟩) {A9:Option Addr} {c9:Nat}
  (hown9:Own RStr 9 w9 B (.slice A9 (n1+1) c9) (hitL ls ++ [y.path])) (hg9:w8.grownBy w9 ((Value.slice A1 n1 c1).ownBlock)) (hd9:∀ b,(Value.slice A9 (n1+1) c9).ownBlock=some b→(Value.slice A1 n1 c1).ownBlock=some b∨w8.heap.size≤b) :
  Blk w9 tb [.string wT,.slice A1 n1 c1,.slice A2 n2 c2]∧Rd2 tb B (ls ++ [y]) A9 (n1+1) c9 A2 n2 c2 W (w9.setCell ⟨tb,1,none⟩ (.slice A9 (n1+1) c9)):=by
 have hlt:=h.lt;have hob:∀ b,(Value.slice A1 n1 c1).ownBlock=some b→B≤b:=fun b hb=>(h.hit.1.lt b hb).1;have hkg:Kp (fun b=>(Value.slice A1 n1 c1).ownBlock=some b) w8 w9:=Kp.of_grown hg9 fun b hb=>hb;have hkgQ:Kp (QS tb B) w8 w9:=hkg.mono fun b _ hb=>.inr (hob b hb);have hkF:Kp (fun b=>b=tb) w9 (w9.setCell ⟨tb,1,none⟩ (.slice A9 (n1+1) c9)):=(Kp.refl (fun b=>b=tb) w9).setCell (a:=⟨tb,1,none⟩) (.inr rfl) _;have hkFQ:Kp (QS tb B) w9 (w9.setCell ⟨tb,1,none⟩ (.slice A9 (n1+1) c9)):=hkF.mono fun b _ e=>.inl e;have hz9:Blk w9 tb [.string wT,.slice A1 n1 c1,.slice A2 n2 c2]:=hkg.blk h.blk (by simp) (fun e=>by have:=hob tb e;omega);have hm9:=hkg.own h.miss (fun b hb hs=>h.dis b hs hb) (fun _ h=>h);refine⟨hz9,hz9.set (k:=1) (by simp) (.slice A9 (n1+1) c9),?_,?_,fun b hb hL=>?_,(h.kp.trans hkgQ).trans hkFQ,hlt,Nat.le_trans h.le (hkgQ.trans hkFQ).size⟩
 ·rw[hitL_snoc,if_neg hy];exact hkF.own hown9 (fun b hb e=>by have e:b=tb:=e;have:=(hown9.1.lt b hb).1;omega) (fun _ h=>h)
 ·rw[missL_snoc,if_neg hy];exact hkF.own hm9 (fun b hb e=>by have e:b=tb:=e;have:=(hm9.1.lt b hb).1;omega) (fun _ h=>h)
 ·rcases hd9 _ hb with h1 | h1
  ·exact h.dis b h1 hL
  ·exact absurd h1 (by have:=(h.miss.1.lt b hL).2;omega)
theorem Rd2.putM {tb B:Nat} {ls:List Lk} {A1:Option Addr} {n1 c1:Nat} {A2:Option Addr} {n2 c2:Nat} {W w8 w9:World} (h:Rd2 tb B ls A1 n1 c1 A2 n2 c2 W w8) {y:Lk} (hy:y.digest=⟨#[]⟩) {A9:Option Addr} {c9:Nat}
  (hown9:Own RStr 9 w9 B (.slice A9 (n2+1) c9) (missL ls ++ [y.path])) (hg9:w8.grownBy w9 ((Value.slice A2 n2 c2).ownBlock)) (hd9:∀ b,(Value.slice A9 (n2+1) c9).ownBlock=some b→(Value.slice A2 n2 c2).ownBlock=some b∨w8.heap.size≤b) :
  Blk w9 tb [.string wT,.slice A1 n1 c1,.slice A2 n2 c2]∧Rd2 tb B (ls ++ [y]) A1 n1 c1 A9 (n2+1) c9 W (w9.setCell ⟨tb,2,none⟩ (.slice A9 (n2+1) c9)):=by
 have hlt:=h.lt;have hob:∀ b,(Value.slice A2 n2 c2).ownBlock=some b→B≤b:=fun b hb=>(h.miss.1.lt b hb).1;have hkg:Kp (fun b=>(Value.slice A2 n2 c2).ownBlock=some b) w8 w9:=Kp.of_grown hg9 fun b hb=>hb;have hkgQ:Kp (QS tb B) w8 w9:=hkg.mono fun b _ hb=>.inr (hob b hb);have hkF:Kp (fun b=>b=tb) w9 (w9.setCell ⟨tb,2,none⟩ (.slice A9 (n2+1) c9)):=(Kp.refl (fun b=>b=tb) w9).setCell (a:=⟨tb,2,none⟩) (.inr rfl) _;have hkFQ:Kp (QS tb B) w9 (w9.setCell ⟨tb,2,none⟩ (.slice A9 (n2+1) c9)):=hkF.mono fun b _ e=>.inl e;have hz9:Blk w9 tb [.string wT,.slice A1 n1 c1,.slice A2 n2 c2]:=hkg.blk h.blk (by simp) (fun e=>by have:=hob tb e;omega);have hm9:=hkg.own h.hit (fun b hb hs=>h.dis b hb hs) (fun _ h=>h);refine⟨hz9,hz9.set (k:=2) (by simp) (.slice A9 (n2+1) c9),?_,?_,fun b hb hL=>?_,(h.kp.trans hkgQ).trans hkFQ,hlt,Nat.le_trans h.le (hkgQ.trans hkFQ).size⟩
 ·rw[hitL_snoc,if_pos hy];exact hkF.own hm9 (fun b hb e=>by have e:b=tb:=e;have:=(hm9.1.lt b hb).1;omega) (fun _ h=>h)
 ·rw[missL_snoc,if_pos hy];exact hkF.own hown9 (fun b hb e=>by have e:b=tb:=e;have:=(hown9.1.lt b hb).1;omega) (fun _ h=>h)
 ·rcases hd9 _ hL with h1 | h1
  ·exact h.dis b hb h1
  ·exact absurd h1 (by have:=(h.hit.1.lt b hb).2;omega)
theorem hitL_len (l:List Lk):(hitL l).length≤l.length:=by unfold hitL;rw[List.length_map];exact List.length_filter_le _ _
theorem missL_len (l:List Lk):(missL l).length≤l.length:=by unfold missL;rw[List.length_map];exact List.length_filter_le _ _
end Go.Proofs.YtdiaabeollcjaaaGreatDoor.C10
namespace Go.Proofs.YtdiaabeollcjaaaGreatDoor.C10
open Go.ChangeShapes Go.WideShapes Go.Deep Go.RowKit
theorem digF_nil:digF []=⟨#[99,98,102,50,57,99,101,52,56,52,50,50,50,51,50,53]⟩:=by decide +kernel
theorem within_c (a b c:Int) (ha:-1000000≤a∧a≤10000000000) (hb:-1000000≤b∧b≤10000000000) (hc:-1000000≤c∧c≤10000000000) (h1:b≤a) (h2:a≤c) (w:World) :
  Calls Tryz.prog 74 #[.int .i64 a,.int .i64 b,.int .i64 c] w fun e w'=>e = .returned (.bool true)∧w'=w:=by
 go_enter Tryz.func74,Tryz.ntmps74;go_wp2;go_ret;exact⟨rfl,rfl⟩
theorem moment_c (a:Int) (h1:0≤a) (h2:a≤1000000000) (w:World):Calls Tryz.prog 115 #[.int .i64 a] w fun e w'=>e = .returned (.bool true)∧w'=w:=by
 go_enter Tryz.func115,Tryz.ntmps115;go_wp2_with fail;refine(within_c a 0 1000000000 (by omega) (by omega) (by omega) h1 h2 w).mono ?_;rintro e w1 ⟨rfl,rfl⟩;go_wp2;go_ret;exact⟨rfl,rfl⟩
theorem pairs_c (w:World):Calls Tryz.prog 114 #[.slice none 0 0] w fun e w'=>e = .returned (.int .i64 0)∧w'=w:=by
 go_enter Tryz.func114,Tryz.ntmps114;go_wp2_with fail
 go_loopw [10] (fun i wr=>w=wr∧i = .int .i64 0) (fun i _=>0)
 case atStart=>exact⟨rfl,rfl⟩
 case round =>
  obtain⟨rfl,rfl⟩:=hrel;go_wp2;go_ret;exact⟨rfl,rfl⟩
theorem stands_c (w:World):Calls Tryz.prog 116 #[.slice none 0 0] w fun e w'=>e = .returned (.int .i64 0)∧w'=w:=by
 go_enter Tryz.func116,Tryz.ntmps116;go_wp2_with fail
 go_loopw [10] (fun i wr=>w=wr∧i = .int .i64 0) (fun i _=>0)
 case atStart=>exact⟨rfl,rfl⟩
 case round =>
  obtain⟨rfl,rfl⟩:=hrel;go_wp2;go_ret;exact⟨rfl,rfl⟩
theorem worker_c (w:World):Calls Tryz.prog 73 #[.agg #[.string ⟨#[97]⟩,.slice none 0 0,.int .i64 1,.int .i64 2,.int .i64 0,.int .i64 1,.slice none 0 0]] w fun e w'=>e = .returned (.int .i64 0)∧Below w.heap.size w w':=by
 obtain⟨W,hW⟩:∃ W,w.alloc (.cells #[.string ⟨#[97]⟩,.slice none 0 0,.int .i64 1,.int .i64 2,.int .i64 0,.int .i64 1,.slice none 0 0] 87)=W:=⟨_,rfl⟩;have hb:Below w.heap.size w W:=by rw[← hW];exact(Below.refl _ _).alloc (Nat.le_refl _) _
 have hz:Blk W w.heap.size [.string ⟨#[97]⟩,.slice none 0 0,.int .i64 1,.int .i64 2,.int .i64 0,.int .i64 1,.slice none 0 0]:=by
  have h:=blk_new w [.string ⟨#[97]⟩,.slice none 0 0,.int .i64 1,.int .i64 2,.int .i64 0,.int .i64 1,.slice none 0 0] 87;rw[← hW];exact h
 obtain⟨c0,_⟩:=hz 0 _ rfl;have hwd:=word_any ⟨#[97]⟩ true W (by decide) (by decide);obtain⟨hbH,hzH,hwdH⟩:=hq2 hb (hq2 hz (Lib.hid hwd));clear hb hz hwd;go_enter Tryz.func73,Tryz.ntmps73;go_wp2_with fail;refine hwdH.out.mono ?_;rintro e w1 ⟨rfl,hb1⟩;have hz1:=blk_below hzH.out (by simp) hb1;obtain⟨c1,_⟩:=hz1 1 _ rfl;obtain⟨c2,_⟩:=hz1 2 _ rfl;obtain⟨c3,_⟩:=hz1 3 _ rfl;obtain⟨c4,_⟩:=hz1 4 _ rfl;obtain⟨c5,_⟩:=hz1 5 _ rfl;obtain⟨c6,_⟩:=hz1 6 _ rfl;have hbb:=hbH.out.trans (hb1.mono hbH.out.size);clear hb1;obtain⟨hz1H,hbbH⟩:=hq2 hz1 (Lib.hid hbb);clear hz1 hbb;go_wp2_with fail;refine(pairs_c _).mono ?_;rintro e w2 ⟨rfl,rfl⟩;go_wp2_with fail;refine(within_c 1 1 20 (by omega) (by omega) (by omega) (by omega) (by omega) _).mono ?_;rintro e w3 ⟨rfl,rfl⟩;go_wp2_with fail;refine(within_c 2 1 1000 (by omega) (by omega) (by omega) (by omega) (by omega) _).mono ?_;rintro e w4 ⟨rfl,rfl⟩;go_wp2_with fail;refine(moment_c 0 (by omega) (by omega) _).mono ?_;rintro e w5 ⟨rfl,rfl⟩;go_wp2_with fail;refine(moment_c 1 (by omega) (by omega) _).mono ?_;rintro e w6 ⟨rfl,rfl⟩;go_wp2_with fail;refine(stands_c _).mono ?_;rintro e w7 ⟨rfl,rfl⟩;go_wp2_with fail;go_ret;exact⟨rfl,hbbH.out⟩
theorem size_c (w:World):Calls Tryz.prog 50 #[.agg #[.string ⟨#[97]⟩,.slice none 0 0,.int .i64 1,.int .i64 2,.int .i64 0,.int .i64 1,.slice none 0 0],.int .i64 3] w fun e w'=>e = .returned (.int .i64 0)∧Below w.heap.size w w':=by
 obtain⟨W,hW⟩:∃ W,w.alloc (.cells #[.string ⟨#[97]⟩,.slice none 0 0,.int .i64 1,.int .i64 2,.int .i64 0,.int .i64 1,.slice none 0 0] 87)=W:=⟨_,rfl⟩;have hb:Below w.heap.size w W:=by rw[← hW];exact(Below.refl _ _).alloc (Nat.le_refl _) _
 have hz:Blk W w.heap.size [.string ⟨#[97]⟩,.slice none 0 0,.int .i64 1,.int .i64 2,.int .i64 0,.int .i64 1,.slice none 0 0]:=by
  have h:=blk_new w [.string ⟨#[97]⟩,.slice none 0 0,.int .i64 1,.int .i64 2,.int .i64 0,.int .i64 1,.slice none 0 0] 87;rw[← hW];exact h
 obtain⟨c0,_⟩:=hz 0 _ rfl;obtain⟨c1,_⟩:=hz 1 _ rfl;obtain⟨c2,_⟩:=hz 2 _ rfl;obtain⟨c3,_⟩:=hz 3 _ rfl;obtain⟨c4,_⟩:=hz 4 _ rfl;obtain⟨c5,_⟩:=hz 5 _ rfl;obtain⟨c6,_⟩:=hz 6 _ rfl;have hc:=worker_c W;obtain⟨hbH,hcH,hzH⟩:=hq2 hb (hq2 hc (Lib.hid hz));clear hb hc hz;go_enter Tryz.func50,Tryz.ntmps50;go_wp2_with fail;refine hcH.out.mono ?_;rintro e w1 ⟨rfl,hb1⟩;have hbb:=hbH.out.trans (hb1.mono hbH.out.size);clear hb1;have hbbH:=Lib.hid hbb;clear hbb;go_wp2_with fail;refine(within_c 3 1 1000000 (by omega) (by omega) (by omega) (by omega) (by omega) _).mono ?_;rintro e w3 ⟨rfl,rfl⟩;go_wp2_with fail;go_ret;exact⟨rfl,hbbH.out⟩
theorem secs_c (w:World):Calls Tryz.prog 51 #[.agg #[.string ⟨#[97]⟩,.slice none 0 0,.int .i64 1,.int .i64 2,.int .i64 0,.int .i64 1,.slice none 0 0],.int .i64 3] w fun e w'=>e = .returned (.int .i64 2)∧Below w.heap.size w w':=by
 obtain⟨W,hW⟩:∃ W,w.alloc (.cells #[.string ⟨#[97]⟩,.slice none 0 0,.int .i64 1,.int .i64 2,.int .i64 0,.int .i64 1,.slice none 0 0] 87)=W:=⟨_,rfl⟩;have hb:Below w.heap.size w W:=by rw[← hW];exact(Below.refl _ _).alloc (Nat.le_refl _) _
 have hz:Blk W w.heap.size [.string ⟨#[97]⟩,.slice none 0 0,.int .i64 1,.int .i64 2,.int .i64 0,.int .i64 1,.slice none 0 0]:=by
  have h:=blk_new w [.string ⟨#[97]⟩,.slice none 0 0,.int .i64 1,.int .i64 2,.int .i64 0,.int .i64 1,.slice none 0 0] 87;rw[← hW];exact h
 obtain⟨c3,_⟩:=hz 3 _ rfl;obtain⟨hbH,hzH⟩:=hq2 hb (Lib.hid hz);clear hb hz;go_enter Tryz.func51,Tryz.ntmps51;go_wp2_with fail;go_ret;exact⟨rfl,hbH.out⟩
theorem Seconds_c (w:World):Calls Tryz.prog 28 #[.agg #[.string ⟨#[97]⟩,.slice none 0 0,.int .i64 1,.int .i64 2,.int .i64 0,.int .i64 1,.slice none 0 0],.int .i64 3] w fun e w'=>e = .returned (.tuple #[.int .i64 2,.int .i64 0])∧Below w.heap.size w w':=by
 obtain⟨W,hW⟩:∃ W,w.alloc (.cells #[.string ⟨#[97]⟩,.slice none 0 0,.int .i64 1,.int .i64 2,.int .i64 0,.int .i64 1,.slice none 0 0] 87)=W:=⟨_,rfl⟩;have hb:Below w.heap.size w W:=by rw[← hW];exact(Below.refl _ _).alloc (Nat.le_refl _) _
 have hz:Blk W w.heap.size [.string ⟨#[97]⟩,.slice none 0 0,.int .i64 1,.int .i64 2,.int .i64 0,.int .i64 1,.slice none 0 0]:=by
  have h:=blk_new w [.string ⟨#[97]⟩,.slice none 0 0,.int .i64 1,.int .i64 2,.int .i64 0,.int .i64 1,.slice none 0 0] 87;rw[← hW];exact h
 obtain⟨c0,_⟩:=hz 0 _ rfl;obtain⟨c1,_⟩:=hz 1 _ rfl;obtain⟨c2,_⟩:=hz 2 _ rfl;obtain⟨c3,_⟩:=hz 3 _ rfl;obtain⟨c4,_⟩:=hz 4 _ rfl;obtain⟨c5,_⟩:=hz 5 _ rfl;obtain⟨c6,_⟩:=hz 6 _ rfl;have hc:=size_c W;obtain⟨hbH,hzH,hcH⟩:=hq2 hb (hq2 hz (Lib.hid hc));clear hb hz hc;go_enter Tryz.func28,Tryz.ntmps28;go_wp2_with fail;refine hcH.out.mono ?_;rintro e w1 ⟨rfl,hb1⟩;have hz1:=blk_below hzH.out (by simp) hb1;have hbb:=hbH.out.trans (hb1.mono hbH.out.size);clear hb1 c0 c1 c2 c3 c4 c5 c6;obtain⟨c0,_⟩:=hz1 0 _ rfl;obtain⟨c1,_⟩:=hz1 1 _ rfl;obtain⟨c2,_⟩:=hz1 2 _ rfl;obtain⟨c3,_⟩:=hz1 3 _ rfl;obtain⟨c4,_⟩:=hz1 4 _ rfl;obtain⟨c5,_⟩:=hz1 5 _ rfl;obtain⟨c6,_⟩:=hz1 6 _ rfl;obtain⟨hbbH,hz1H⟩:=hq2 hbb (Lib.hid hz1);clear hbb hz1;go_wp2_with fail;refine(secs_c _).mono ?_;rintro e w2 ⟨rfl,hb2⟩;have hbb2:=hbbH.out.trans (hb2.mono hbbH.out.size);clear hb2;have hbb2H:=Lib.hid hbb2;clear hbb2;go_wp2_with fail
 go_ret2
 exact⟨rfl,hbb2H.out⟩
theorem alive_any (w:World):Calls Tryz.prog 12 #[] w fun e w'=>e = .returned (.bool true)∧Below w.heap.size w w':=by
 go_enter Tryz.func12,Tryz.ntmps12;go_wp2_with fail;refine(Seconds_c w).mono ?_;rintro e w1 ⟨rfl,hb1⟩;have hb1H:=Lib.hid hb1;clear hb1;go_wp2_with fail;refine(digest_any none 0 0 [] w1 ⟨rfl,(fun h=>absurd h (by decide)),fun _ h=>by cases h⟩ (by decide)).mono ?_;rintro e w2 ⟨rfl,hb2⟩;rw[digF_nil];have hbb:=hb1H.out.trans (hb2.mono hb1H.out.size);clear hb2;have hbbH:=Lib.hid hbb;clear hbb;go_wp2_with fail;go_ret;exact⟨rfl,hbbH.out⟩
end Go.Proofs.YtdiaabeollcjaaaGreatDoor.C10
namespace Go.Proofs.YtdiaabeollcjaaaGreatDoor.C10
open Go.ChangeShapes Go.WideShapes Go.Deep Go.RowKit Go.Lib Go.Maps
theorem blk_of {w:World} (l:List Value) (t:TypeId) {W:World} (h:w.alloc (.cells l.toArray t)=W):Blk W w.heap.size l:=by rw[← h];exact blk_new w l t
theorem bel_of {w:World} {o:Obj} {W:World} (h:w.alloc o=W):Below w.heap.size w W:=by rw[← h];exact(Below.refl _ _).alloc (Nat.le_refl _) _
theorem siz_of {w:World} {o:Obj} {W:World} (h:w.alloc o=W):W.heap.size=w.heap.size+1:=by rw[← h];simp
def RtRel (ls:List Lk) (tb B:Nat) (W:World) (i:Value) (wr:World):Prop :=
 ∃ (k:Nat) (A1:Option Addr) (n1 c1:Nat) (A2:Option Addr) (n2 c2:Nat),k≤ls.length∧i = .int .i64 k∧Rd2 tb B (ls.take k) A1 n1 c1 A2 n2 c2 W wr
theorem ExInfo.path {x:Action} {l:List File} {r:Rs} (h:ExInfo x l r) (hn:NoList x):∀ y∈r.ls,y.path.size≤maxLen:=by
 obtain⟨R,fp,lp,hok,h1,h2,h3,h4,h5,h6,h7,h8,h9,h10,h11,hrun⟩:=h;intro y hy;rw[h4]at hy;obtain⟨p,hp,rfl⟩:=List.mem_map.1 hy;have hl:=run_looks (cmds x) (cmds_P hok hn) (inpF l);rw[hrun hn]at hl;obtain⟨v,hv⟩:=Option.isSome_iff_exists.1 ((h9 p (h8 p hp)).1 hp);obtain⟨_,b⟩:=hl p v hv;unfold lkE;rw[hv,Option.getD_some,b,look_path];exact h8 p hp
def CmRel (x:Action) (W:World) (i:Value) (wr:World):Prop:=W=wr∧∃ k:Nat,k≤x.commands.l.length∧i = .int .i64 k∧∀ (j:Nat) c,j<k→x.commands.l[j]? = some c→wd c.l 0≠wList
theorem listsIn_any (x:Action) (w:World) (hx:RAction.ok w x) :
  Calls Tryz.prog 11 #[actV x] w fun e w'=>∃ b,e = .returned (.bool b)∧(b=false→NoList x)∧Below w.heap.size w w':=by
 obtain⟨Z,hZ⟩:∃ Z,(fun (e:Ending) (w':World)=>∃ b,e = .returned (.bool b)∧(b=false→NoList x)∧Below w.heap.size w w')=Z:=⟨_,rfl⟩;have hZ':∀ b W,(b=false→NoList x)→Below w.heap.size w W→Z (.returned (.bool b)) W:=fun b W h1 h2=>by rw[← hZ];exact⟨b,rfl,h1,h2⟩
 rw[hZ];clear hZ;obtain⟨W0,hW0⟩:∃ W,w.alloc (.cells #[.string x.tool,.slice x.commands.A x.commands.n x.commands.cap,.slice x.vars.A x.vars.n x.vars.cap,.slice x.outputs.A x.outputs.n x.outputs.cap,.slice x.needs.A x.needs.n x.needs.cap,.int .i64 x.time] 26)=W:=⟨_,rfl⟩;have hb0:=bel_of hW0;have hz0:=blk_of [.string x.tool,.slice x.commands.A x.commands.n x.commands.cap,.slice x.vars.A x.vars.n x.vars.cap,.slice x.outputs.A x.outputs.n x.outputs.cap,.slice x.needs.A x.needs.n x.needs.cap,.int .i64 x.time] _ hW0;obtain⟨d1,-⟩:=hz0 1 _ rfl;obtain⟨CA,hCA⟩:∃ A,x.commands.A=A:=⟨_,rfl⟩;obtain⟨Cn,hCn⟩:∃ A,x.commands.n=A:=⟨_,rfl⟩;obtain⟨Cc,hCc⟩:∃ A,x.commands.cap=A:=⟨_,rfl⟩;have hsl0:SlAt RWords W0 x.commands.A x.commands.n x.commands.l:=(RAction.mono _ _ _ hb0 hx).2.1.1;have cnn:x.commands.l.length=x.commands.n:=hsl0.1;have hcz:x.commands.n≤maxLen:=Nat.le_trans hx.2.1.2.1 hx.2.1.2.2.1;unfold maxLen at hcz;rw[hCA,hCn]at hsl0;rw[hCA,hCn,hCc]at d1;rw[hCn]at cnn hcz;have hst:CmRel x W0 (.int .i64 0) W0:=⟨rfl,0,Nat.zero_le _,rfl,fun j c h=>absurd h (by omega)⟩;clear hCA hCn hCc;obtain⟨hZ'H,hxH,hb0H,hz0H,hsl0H,hstH,cnnH⟩:=hq2 hZ' (hq2 hx (hqb hb0 hz0 hsl0 hst (Lib.hid cnn)));clear hZ' hx hb0 hz0 hsl0 hst cnn;unfold actV;go_enter Tryz.func11,Tryz.ntmps11;go_wp2_with fail;have hW0H:=Lib.hid hW0;clear hW0
 go_loopw [8] (fun i wr=>CmRel x W0 i wr) (fun i _=>Cn-(intOf i).toNat)
 case atStart=>exact hstH.out
 case round =>
  clear hstH;obtain⟨rfl,k,hk,rfl,hall⟩:=hrel;have hcnn:=cnnH.out
  by_cases hlt:k<Cn
  ·obtain⟨y,hy⟩:∃ y,x.commands.l[k]? = some y:=⟨x.commands.l[k]'(by omega),List.getElem?_eq_getElem _⟩;have hsl:=hsl0H.out;obtain⟨bl,ol,hAL,-⟩:=hsl.2.1 (by omega);subst hAL;have cy:=cell_Words hsl hy;have hym:=List.mem_of_getElem? hy;have hyw:SlAt RStr W0 y.A y.n y.l:=(hsl.2.2 y hym).1;have hynz:y.n≤maxLen:=Nat.le_trans (hsl.2.2 y hym).2.1 (hsl.2.2 y hym).2.2.1;unfold maxLen at hynz;have hyn:y.l.length=y.n:=hyw.1;have Rn:wd y.l 0≠wList→∃ k_1:Nat,k_1≤x.commands.l.length∧Value.int .i64 ((k:Int)+1)=Value.int .i64 k_1∧∀ (j:Nat) c,j<k_1→x.commands.l[j]? = some c→wd c.l 0≠wList:=fun hsw=>⟨k+1,by omega,by go_num,fun j c hj hc=>by
    rcases Nat.lt_or_ge j k with h | h
    ·exact hall j c h hc
    ·obtain rfl:j=k:=by omega
     rw[hy]at hc;injection hc with hc;subst hc;exact hsw⟩
   clear hall
   by_cases hn0:y.n=0
   ·have hl0:y.l = []:=List.eq_nil_of_length_eq_zero (by omega);have R:=Rn (by rw[hl0];decide);obtain⟨yA,yn,yc,yl⟩:=y;simp only at hn0 cy;subst hn0;clear Rn hyw;obtain⟨hslH,hyH,hymH,RH⟩:=hq2 hsl (hq2 hy (hq2 hym (Lib.hid R)));clear hsl hy hym R;go_wp2_with fail;exact⟨⟨rfl,RH.out⟩,by simp[intOf];omega⟩
   ·obtain⟨bw,ow,hAW,-⟩:=hyw.2.1 (by omega);have hyw2:=hyw;rw[hAW]at hyw2;have cw:=cell_Str hyw2 (wd_get (c:=y.l) (k:=0) (by omega));obtain⟨yA,yn,yc,yl⟩:=y;simp only at cy cw hyn hAW Rn hn0 hynz;subst hAW;obtain⟨s0,hs0w⟩:∃ s,wd yl 0=s:=⟨_,rfl⟩;rw[hs0w]at Rn;rw[hs0w,Nat.add_zero]at cw;have hwl:wList.toList = [108,105,115,116]:=by rw[ByteArray.toList_eq];rfl
    have i0:(0:Int)<(yn:Int):=by omega
    have i00:0<yn:=by omega
    by_cases hsw:s0=wList
    ·subst hsw;have R:=hZ'H.out true W0 (fun h=>by cases h) hb0H.out;clear hyw hyw2 Rn;obtain⟨hslH,hyH,hymH,hs0wH,RH⟩:=hqb hsl hy hym hs0w (Lib.hid R);clear hsl hy hym hs0w R;go_wp2_with fail;exact RH.out
    ·have hne:(s0.toList == [108,105,115,116])=false:=by rw[← hwl,beq_data];exact decide_eq_false hsw
     have R:=Rn hsw;clear hyw hyw2 Rn;obtain⟨hslH,hyH,hymH,hs0wH,RH⟩:=hqb hsl hy hym hs0w (Lib.hid R);clear hsl hy hym hs0w R;go_wp2_with fail;exact⟨⟨rfl,RH.out⟩,by simp[intOf];omega⟩
  ·obtain rfl:k=Cn:=by omega
   have R:=hZ'H.out false W0 (fun _ c hc=>by
    obtain⟨j,hj,rfl⟩:=List.mem_iff_getElem.1 hc;exact hall j _ (by omega) (List.getElem?_eq_getElem hj)) hb0H.out
   clear hall;have RH:=Lib.hid R;clear R;go_wp2_with fail;exact RH.out
def RoAns (ls:List Lk) (w:World) (e:Ending) (w':World):Prop :=
 ∃ A1 n1 c1 A2 n2 c2,e = .returned (.agg #[.string wT,.slice A1 n1 c1,.slice A2 n2 c2])∧(RSl RStr).ok w' ⟨A1,n1,c1,hitL ls⟩∧(RSl RStr).ok w' ⟨A2,n2,c2,missL ls⟩∧Below w.heap.size w w'
theorem readsOf_any (LA:Option Addr) (Ln Lc:Nat) (ls:List Lk) (w:World) (hl:SlAt RLk w LA Ln ls) (hz:∀ y∈ls,y.path.size≤maxLen) (hn:Ln≤600000) :
  Calls Tryz.prog 13 #[.string wT,.slice LA Ln Lc] w (RoAns ls w):=by
 obtain⟨Z,hZ⟩:∃ Z,RoAns ls w=Z:=⟨_,rfl⟩;have hZ':∀ e W,RoAns ls w e W→Z e W:=fun e W h=>by rw[← hZ];exact h
 rw[hZ];clear hZ;obtain⟨W0,hW0⟩:∃ W,w.alloc (.cells #[.string ⟨#[]⟩,.slice none 0 0,.slice none 0 0] 36)=W:=⟨_,rfl⟩;have hb0:=bel_of hW0;have hzo:=blk_of [.string ⟨#[]⟩,.slice none 0 0,.slice none 0 0] _ hW0;have hs0:=siz_of hW0;obtain⟨W,hW⟩:∃ V,W0.alloc (.cells #[.string wT,.slice none 0 0,.slice none 0 0] 36)=V:=⟨_,rfl⟩;have hb1:=bel_of hW;have hzt:=blk_of [.string wT,.slice none 0 0,.slice none 0 0] _ hW;have hs1:=siz_of hW;have hbW:=hb0.trans (hb1.mono hb0.size);have hzo1:=blk_below hzo (by simp) hb1;have hlW:=hl.below hbW;have hln:=hl.1;obtain⟨tb,htb⟩:∃ b,W0.heap.size=b:=⟨_,rfl⟩;rw[htb]at hzt hs1;have hst:RtRel ls tb W.heap.size W (.int .i64 0) W:=⟨0,none,0,0,none,0,0,Nat.zero_le _,rfl,Rd2.start hzt (by omega)⟩;have hot:w.heap.size<tb:=by omega
 have htb:w.heap.size+1=tb:=by omega
 clear hs0;obtain⟨hZ'H,hlH,hzH,hb0H,hzoH,hb1H,hztH,hbWH,hzo1H,hlWH,hstH,hW0H,hWH,htbH⟩:=hq2 hZ' (hqb hl hz hb0 hzo (hqc hb1 hzt hbW hzo1 hlW hst hW0 hW (Lib.hid htb)));clear hZ' hl hz hb0 hzo hb1 hzt hbW hzo1 hlW hst hW0 hW htb;go_enter Tryz.func13,Tryz.ntmps13;go_wp2_with fail;rw[hW0H.out,hWH.out,htbH.out]
 go_loopw [12] (fun i wr=>RtRel ls tb W.heap.size W i wr) (fun i _=>Ln-(intOf i).toNat)
 case atStart=>exact hstH.out
 case round =>
  clear hstH;obtain⟨k,AH,nH,cH,AM,nM,cM,hk,rfl,hRd⟩:=hrel;obtain⟨t1,-⟩:=hRd.blk 1 _ rfl;obtain⟨t2,-⟩:=hRd.blk 2 _ rfl;have hnH:nH≤k:=by
   have h1:=hRd.hit.len;have h2:=hitL_len (ls.take k);rw[List.length_take]at h2;omega
  have hnM:nM≤k:=by
   have h1:=hRd.miss.len;have h2:=missL_len (ls.take k);rw[List.length_take]at h2;omega
  have hbt:Below tb W wr:=hRd.kp.below (by omega) (fun b hb=>by rcases hb with hb | hb <;> omega)
  by_cases hlt:k<Ln
  ·obtain⟨y,hy⟩:∃ y,ls[k]? = some y:=⟨ls[k]'(by omega),List.getElem?_eq_getElem _⟩;obtain⟨bl,ol,hA,-⟩:=hlH.out.2.1 (by omega);subst hA;have hblt:bl<w.heap.size:=slAt_lt hlH.out (by omega) (by decide);have hslr:=hRd.kp.slAt hlWH.out (fun h0 ad hA hs=>by injection hA with hA;subst hA;rcases hs with hs | hs <;> simp at hs <;> omega) (fun _ h=>h);have hypz:=hzH.out y (List.mem_of_getElem? hy);obtain⟨y0,y1,y2⟩:=cells_Lk hslr hy;obtain⟨yp,yd,yr⟩:=y;simp only at y0 y1 y2 hypz;clear hslr hbt
   by_cases hdg:yd=⟨#[]⟩
   ·subst hdg;obtain⟨hRdH,hyH⟩:=hq2 hRd (Lib.hid hy);clear hRd hy;have q2:=keepC ((Below.refl wr.heap.size wr).alloc (Nat.le_refl _) (.cells #[.string yp,.string ⟨#[]⟩,.bool yr] 38)) t2;have hb8:Below wr.heap.size wr ((wr.alloc (.cells #[.string yp,.string ⟨#[]⟩,.bool yr] 38)).alloc (.cells #[.string yp] 9)):=((Below.refl _ _).alloc (Nat.le_refl _) _).alloc (by simp) _;have h8:=hRdH.out.below hb8;have hown8:=h8.miss;have hlen8:=hown8.len;have hnew:SlAt RStr ((wr.alloc (.cells #[.string yp,.string ⟨#[]⟩,.bool yr] 38)).alloc (.cells #[.string yp] 9)) (some ⟨wr.heap.size+1,0,none⟩) 1 [yp]:=by
     have:=slAt_new (R:=RStr) (wr.alloc (.cells #[.string yp,.string ⟨#[]⟩,.bool yr] 38)) 9 yp hypz;simp only[World.size_alloc]at this;exact this
    obtain⟨h8H,hown8H,hnewH,hb8H,hlen8H⟩:=hqb h8 hown8 hnew hb8 (Lib.hid hlen8);clear h8 hown8 hnew hb8 hlen8;go_wp2_with (at_builtin;go_loud (refine wpList_app rfl (.tmp 20) (.tmp 23) 24 rfl Tryz.underlying24 elem_Str (by decide) rfl hown8H.out (some ⟨wr.heap.size+1,0,none⟩) 1 1 [yp] rfl hnewH.out ?nn ?ok ?c1 ?c2 ?c3 (nM+1) ?c4 ?_))
    case nn=>intro h;cases h
    case ok=>exact fun _ _ _ _ h=>h
    case c1=>rw[hlen8H.out];unfold maxLen;omega
    case c2=>rw[hlen8H.out];omega
    case c3=>exact h8H.out.le
    case c4=>rw[hlen8H.out]
    intro A9 c9 w9 hown9 hg9 hat9 hb9;rw[← hs1]at hown9;obtain⟨hz9,h9⟩:=h8H.out.putM (y:=⟨yp,⟨#[]⟩,yr⟩) rfl hown9 hg9 (fun b hb=>by
     rcases hat9 with h | h
     ·exact .inl (by rw[← h];exact hb)
     ·rw[hb]at h;injection h with h;exact .inr (by rw[h];simp))
    obtain⟨z2,f2⟩:=hz9 2 _ rfl;have R:RtRel ls tb W.heap.size W (.int .i64 ((k:Int)+1)) (w9.setCell ⟨tb,2,none⟩ (.slice A9 (nM+1) c9)):=by
     have htk:ls.take (k+1)=ls.take k ++ [⟨yp,⟨#[]⟩,yr⟩]:=by rw[List.take_add_one,hyH.out];rfl
     refine⟨k+1,AH,nH,cH,A9,nM+1,c9,by omega,by go_num,?_⟩;rw[htk];exact h9
    clear hown9 hg9 hat9 hb9 hz9 h9;have RH:=Lib.hid R;clear R;go_wp2;refine⟨?rel,?measure⟩
    case measure=>(simp[intOf];omega)
    case rel=>first | exact RH.out | exact⟨rfl,RH.out⟩
   ·have hde:yd.toList.isEmpty=false:=by
     have h2:=beq_data yd ⟨#[]⟩;rw[decide_eq_false hdg,show (⟨#[]⟩:ByteArray).toList = [] from by rw[ByteArray.toList_eq]]at h2
     cases he:yd.toList with
     | nil=>rw[he]at h2;cases h2
     | cons a l=>rfl
    obtain⟨hRdH,hyH⟩:=hq2 hRd (Lib.hid hy);clear hRd hy;have q1:=keepC ((Below.refl wr.heap.size wr).alloc (Nat.le_refl _) (.cells #[.string yp,.string yd,.bool yr] 38)) t1;have hb8:Below wr.heap.size wr ((wr.alloc (.cells #[.string yp,.string yd,.bool yr] 38)).alloc (.cells #[.string yp] 9)):=((Below.refl _ _).alloc (Nat.le_refl _) _).alloc (by simp) _;have h8:=hRdH.out.below hb8;have hown8:=h8.hit;have hlen8:=hown8.len;have hnew:SlAt RStr ((wr.alloc (.cells #[.string yp,.string yd,.bool yr] 38)).alloc (.cells #[.string yp] 9)) (some ⟨wr.heap.size+1,0,none⟩) 1 [yp]:=by
     have:=slAt_new (R:=RStr) (wr.alloc (.cells #[.string yp,.string yd,.bool yr] 38)) 9 yp hypz;simp only[World.size_alloc]at this;exact this
    obtain⟨h8H,hown8H,hnewH,hb8H,hlen8H⟩:=hqb h8 hown8 hnew hb8 (Lib.hid hlen8);clear h8 hown8 hnew hb8 hlen8;go_wp2_with (at_builtin;go_loud (refine wpList_app rfl (.tmp 27) (.tmp 30) 24 rfl Tryz.underlying24 elem_Str (by decide) rfl hown8H.out (some ⟨wr.heap.size+1,0,none⟩) 1 1 [yp] rfl hnewH.out ?nn ?ok ?c1 ?c2 ?c3 (nH+1) ?c4 ?_))
    case nn=>intro h;cases h
    case ok=>exact fun _ _ _ _ h=>h
    case c1=>rw[hlen8H.out];unfold maxLen;omega
    case c2=>rw[hlen8H.out];omega
    case c3=>exact h8H.out.le
    case c4=>rw[hlen8H.out]
    intro A9 c9 w9 hown9 hg9 hat9 hb9;rw[← hs1]at hown9;obtain⟨hz9,h9⟩:=h8H.out.putH (y:=⟨yp,yd,yr⟩) hdg hown9 hg9 (fun b hb=>by
     rcases hat9 with h | h
     ·exact .inl (by rw[← h];exact hb)
     ·rw[hb]at h;injection h with h;exact .inr (by rw[h];simp))
    obtain⟨z1,f1⟩:=hz9 1 _ rfl;have R:RtRel ls tb W.heap.size W (.int .i64 ((k:Int)+1)) (w9.setCell ⟨tb,1,none⟩ (.slice A9 (nH+1) c9)):=by
     have htk:ls.take (k+1)=ls.take k ++ [⟨yp,yd,yr⟩]:=by rw[List.take_add_one,hyH.out];rfl
     refine⟨k+1,A9,nH+1,c9,AM,nM,cM,by omega,by go_num,?_⟩;rw[htk];exact h9
    clear hown9 hg9 hat9 hb9 hz9 h9;have RH:=Lib.hid R;clear R;go_wp2;refine⟨?rel,?measure⟩
    case measure=>(simp[intOf];omega)
    case rel=>first | exact RH.out | exact⟨rfl,RH.out⟩
  ·obtain rfl:k=Ln:=by omega
   rw[List.take_of_length_le (by omega)]at hRd;have hno:¬ QS tb W.heap.size w.heap.size:=fun e=>by rcases e with e | e <;> omega
   have hzoR:=hRd.kp.blk hzo1H.out (by simp) hno;obtain⟨o0,p0⟩:=hzoR 0 _ rfl;obtain⟨o1,p1⟩:=hzoR 1 _ rfl;obtain⟨o2,p2⟩:=hzoR 2 _ rfl;obtain⟨t0,-⟩:=hRd.blk 0 _ rfl;have hzF:=((hzoR.set (k:=0) (by simp) (.string wT)).set (k:=1) (by simp) (.slice AH nH cH)).set (k:=2) (by simp) (.slice AM nM cM);have hkF:Kp (fun b=>b=w.heap.size) wr _:=(((Kp.refl (fun b=>b=w.heap.size) wr).setCell (a:=⟨w.heap.size,0,none⟩) (.inr rfl) (.string wT)).setCell (a:=⟨w.heap.size,1,none⟩) (.inr rfl) (.slice AH nH cH)).setCell (a:=⟨w.heap.size,2,none⟩) (.inr rfl) (.slice AM nM cM);have ho1:=hkF.own hRd.hit (fun b hb e=>by have e:b=w.heap.size:=e;have:=(hRd.hit.1.lt b hb).1;omega) (fun _ h=>h);have ho2:=hkF.own hRd.miss (fun b hb e=>by have e:b=w.heap.size:=e;have:=(hRd.miss.1.lt b hb).1;omega) (fun _ h=>h);have hwr:=hRd.le;have hbF:=(hbWH.out.trans (hbt.mono (by omega))).trans (hkF.below (B:=w.heap.size) (by omega) (fun b e=>by have e:b=w.heap.size:=e;omega));have R:=hZ'H.out (.returned (.agg #[.string wT,.slice AH nH cH,.slice AM nM cM])) _ ⟨AH,nH,cH,AM,nM,cM,rfl,⟨ho1.slAt,ho1.cap_le,(own_capx ho1).2.1,(own_capx ho1).1⟩,⟨ho2.slAt,ho2.cap_le,(own_capx ho2).2.1,(own_capx ho2).1⟩,hbF⟩;clear hkF ho1 ho2 hbF hbt;obtain⟨hRdH,hzoRH,hzFH,RH⟩:=hq2 hRd (hq2 hzoR (hq2 hzF (Lib.hid R)));clear hRd hzoR hzF R;go_wp2_with fail;have hzF:=hzFH.out;have R:=RH.out;clear hzFH RH hRdH hzoRH o0 o1 o2 p0 p1 p2 t0 t1 t2
   generalize ((wr.setCell ⟨w.heap.size,0,none⟩ (.string wT)).setCell ⟨w.heap.size,1,none⟩ (.slice AH nH cH)).setCell ⟨w.heap.size,2,none⟩ (.slice AM nM cM)=wE at hzF R ⊢
   obtain⟨g0,_⟩:=hzF 0 _ rfl;obtain⟨g1,_⟩:=hzF 1 _ rfl;obtain⟨g2,_⟩:=hzF 2 _ rfl;exact bodyPost_ret (v:=.agg #[.string wT,.slice AH nH cH,.slice AM nM cM]) (by simp[results,Tryz.results13,go_sem,g0,g1,g2]) rfl R
end Go.Proofs.YtdiaabeollcjaaaGreatDoor.C10