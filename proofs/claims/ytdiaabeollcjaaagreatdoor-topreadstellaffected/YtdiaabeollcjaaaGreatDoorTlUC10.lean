/-
 Several texts of mine as one, without what is not wanted here: XTopE, XRdL, XAlvX.
-/
import Derived.Test.YtdiaabeollcjaaaGreatDoorTlTC10
import Derived.Lib.SlBytesConst
set_option linter.unusedVariables false
set_option linter.unusedSimpArgs false
set_option maxRecDepth 100000
set_option maxHeartbeats 8000000
namespace Go.Proofs.YtdiaabeollcjaaaGreatDoor.C10
open Go.ChangeShapes Go.WideShapes Go.Deep Go.RowKit Go.Lib Go.Maps
def ExInfo (x:Action) (l:List File) (r:Rs):Prop :=
 ∃ (R:(Int × Int) × ES) (fp lp:List ByteArray),BothOk x l∧r.code=R.1.1∧r.told=R.2.told∧r.cmd=R.1.2∧r.ls=lp.map (lkE R.2)∧Rising fp∧Rising lp∧r.fs.map flat=fp.map (flatW R.2)∧(∀ p∈lp,p.size≤maxLen) ∧
  (∀ p,p.size≤maxLen→(p∈lp↔(R.2.lk p).isSome=true))∧((R.1.1=0∧∀ p,p.size≤maxLen→(p∈fp↔(R.2.wr p).isSome=true))∨(R.1.1≠0∧fp = []))∧(∀ p∈fp,p.size≤maxLen)∧(NoList x→runM (epOf x) (cmds x) 0 (inpF l) es0=R)
def RsAns (x:Action) (l:List File) (w:World) (e:Ending) (w':World):Prop :=
 ∃ (c:Int) (r:Rs),e = .returned (.tuple #[.agg r.cells.toArray,.int .i64 c])∧r.ok w'∧r.Ln≤600000∧(c≠0→r.Ln=0)∧(c=0→ExInfo x l r)∧Below w.heap.size w w'
theorem flat_sz {w:World} {fs:List File} {s:ES} {fp:List ByteArray} (hok:∀ y∈fs,RFile.ok w y) (h:fs.map flat=fp.map (flatW s)):∀ p∈fp,p.size≤maxLen:=by
 intro p hp;have h1:flatW s p∈fs.map flat:=by rw[h];exact List.mem_map.2 ⟨p,hp,rfl⟩
 obtain⟨y,hy,e⟩:=List.mem_map.1 h1;unfold flat flatW at e;simp only[Prod.mk.injEq]at e;rw[← e.1];exact(hok y hy).1
theorem execute_rs (x:Action) (A:Option Addr) (m c:Nat) (l:List File) (w:World) (hmx:MaxLenAt w) (hpw:PowJ w) (hx:RAction.ok w x) (hl:(RSl RFile).ok w ⟨A,m,c,l⟩) :
  Calls Tryz.prog 5 #[actV x,.slice A m c] w (RsAns x l w):=by
 refine(execute_all x A m c l w hmx hpw hx hl).mono ?_;rintro e w' (⟨c,hc,rfl,hb⟩ | ⟨R,FA,LA,Fn,Fc,Ln,Lc,fs,fp,lp,hok,rfl,hF,hL,hfr,hlr,hfl,⟨hln,hlz⟩,hlm,hcode,hrun,hb⟩)
 ·exact⟨c,⟨0,⟨#[]⟩,none,0,0,none,0,0,0,[],[]⟩,rfl,⟨⟨⟨rfl,fun h=>absurd h (by show ¬ 0<0;omega),fun y hy=>by cases hy⟩,Nat.le_refl _,Nat.zero_le _,fun _=>rfl⟩,⟨⟨rfl,fun h=>absurd h (by show ¬ 0<0;omega),fun y hy=>by cases hy⟩,Nat.le_refl _,Nat.zero_le _,fun _=>rfl⟩⟩,Nat.zero_le _,fun _=>rfl,fun h=>absurd h hc,hb⟩
 ·refine⟨0,⟨R.1.1,R.2.told,FA,Fn,Fc,LA,Ln,Lc,R.1.2,fs,lp.map (lkE R.2)⟩,rfl,⟨hF,hL⟩,?_,fun h=>absurd rfl h,fun _=>⟨R,fp,lp,hok,rfl,rfl,rfl,rfl,hfr,hlr,hfl,hlz,hlm,hcode,flat_sz hF.1.2.2 hfl,hrun⟩,hb⟩;have:=hL.1.1;simp only[List.length_map]at this;show Ln≤600000;omega
theorem tell_all {x:Action} {l1 l2:List File} {a b:Rs} (ha:ExInfo x l1 a) (hb:ExInfo x l2 b) (hn:NoList x) (T:TestReads) (hT:T.test=wT) (hp:T.paths.l=hitL a.ls) (hq:T.looked.l=missL a.ls) (hpn:T.paths.l.length=T.paths.n)
  (L:List ByteArray) (hL:Rising L) (hLz:∀ p∈L,p.size≤maxLen) (hLm:∀ p,p.size≤maxLen→(p∈L↔p∈l1.map (·.path)++l2.map (·.path))) (ch:List TreeChange) (hch:ch=L.filterMap (chOf (inpF l1) (inpF l2))) :
  ((affF [T] ch).2=0∨(affF [T] ch).2=2)∧(T.looked.n≤1000→ch.length≤1000→(affF [T] ch).2=0)∧((affF [T] ch).2=0→(affF [T] ch).1 = [wT]∨((affF [T] ch).1 = []∧a.same b)):=by
 obtain⟨R,fp,lp,hok,h1,h2,h3,h4,h5,h6,h7,h8,h9,h10,h11,hrun⟩:=ha;obtain⟨R2,fp2,lp2,hok2,g1,g2,g3,g4,g5,g6,g7,g8,g9,g10,g11,hrun2⟩:=hb;rw[h4]at hp hq;have hr:=hrun hn;have htop:=topOk_of hr hok hn h8 h9 h6 hT hp hq;have hLb:∀ p∈L,pathB p=true:=fun p hpL=>by
  have:=(hLm p (hLz p hpL)).1 hpL
  rcases List.mem_append.1 this with h | h
  ·obtain⟨y,hy,rfl⟩:=List.mem_map.1 h;exact(hok.fp y hy).1
  ·obtain⟨y,hy,rfl⟩:=List.mem_map.1 h;exact(hok2.fp y hy).1
 obtain⟨f1,f2,f3⟩:=htop.fault (l2:=l2) hL hLb hch;refine⟨f1,fun hq2 hc=>f2 (by rw[← hpn];exact htop.hits hok.fn) hq2 hc,fun h0=>?_⟩;rw[f3 h0]
 by_cases haff:affP (oldL ch) (newL ch) (overL ch) T=true
 ·rw[if_pos haff];exact .inl rfl
 ·rw[if_neg haff];refine .inr ⟨rfl,?_⟩;have hsame:=htop.same hLm hch (by simpa using haff);have hr2:=htop.run hr hok hn hsame;have hRR:R2=R:=by rw[← hrun2 hn];exact hr2
  subst hRR;have hlp:lp=lp2:=h6.eq g6 fun p=>⟨fun hm=>(g9 p (h8 p hm)).2 ((h9 p (h8 p hm)).1 hm),fun hm=>(h9 p (g8 p hm)).2 ((g9 p (g8 p hm)).1 hm)⟩;have hfp:fp=fp2:=by
   rcases h10 with ⟨e1,m1⟩ | ⟨e1,m1⟩
   ·rcases g10 with ⟨e2,m2⟩ | ⟨e2,m2⟩
    ·exact h5.eq g5 fun p=>⟨fun hm=>(m2 p (h11 p hm)).2 ((m1 p (h11 p hm)).1 hm),fun hm=>(m1 p (g11 p hm)).2 ((m2 p (g11 p hm)).1 hm)⟩
    ·exact absurd e1 e2
   ·rcases g10 with ⟨e2,m2⟩ | ⟨e2,m2⟩
    ·exact absurd e2 e1
    ·rw[m1,m2]
  exact⟨h1.trans g1.symm,h2.trans g2.symm,by rw[h7,g7,hfp],by rw[h4,g4,hlp],h3.trans g3.symm⟩
theorem hitL_snoc (l:List Lk) (y:Lk):hitL (l ++ [y])=if y.digest=⟨#[]⟩ then hitL l else hitL l ++ [y.path]:=by
 unfold hitL;rw[List.filter_append,List.map_append]
 by_cases h:y.digest=⟨#[]⟩
 ·rw[if_pos h];simp[h]
 ·rw[if_neg h];simp[h]
theorem missL_snoc (l:List Lk) (y:Lk):missL (l ++ [y])=if y.digest=⟨#[]⟩ then missL l ++ [y.path] else missL l:=by
 unfold missL;rw[List.filter_append,List.map_append]
 by_cases h:y.digest=⟨#[]⟩
 ·rw[if_pos h];simp[h]
 ·rw[if_neg h];simp[h]
structure Rd2 (tb B:Nat) (ls:List Lk) (A1:Option Addr) (n1 c1:Nat) (A2:Option Addr) (n2 c2:Nat) (W wr:World):Prop where
 blk:Blk wr tb [.string wT,.slice A1 n1 c1,.slice A2 n2 c2]
 hit:Own RStr 9 wr B (.slice A1 n1 c1) (hitL ls)
 miss:Own RStr 9 wr B (.slice A2 n2 c2) (missL ls)
 dis:∀ g,(Value.slice A1 n1 c1).ownBlock=some g→(Value.slice A2 n2 c2).ownBlock≠some g
 kp:Kp (QS tb B) W wr
 lt:tb<B
 le:B≤wr.heap.size
theorem Rd2.below {tb B:Nat} {ls:List Lk} {A1:Option Addr} {n1 c1:Nat} {A2:Option Addr} {n2 c2:Nat} {W wr w':World} (h:Rd2 tb B ls A1 n1 c1 A2 n2 c2 W wr) (hb:Below wr.heap.size wr w'):Rd2 tb B ls A1 n1 c1 A2 n2 c2 W w' :=
 ⟨blk_below h.blk (by simp) hb,h.hit.below hb,h.miss.below hb,h.dis,h.kp.trans (Kp.of_below hb),h.lt,Nat.le_trans h.le hb.size⟩
theorem Rd2.start {tb:Nat} {W:World} (hz:Blk W tb [.string wT,.slice none 0 0,.slice none 0 0]) (hlt:tb<W.heap.size):Rd2 tb W.heap.size [] none 0 0 none 0 0 W W :=
 ⟨hz,Own.nil _ _,Own.nil _ _,fun g h=>(by cases h),Kp.refl _ _,hlt,Nat.le_refl _⟩
theorem Rd2.putH {tb B:Nat} {ls:List Lk} {A1:Option Addr} {n1 c1:Nat} {A2:Option Addr} {n2 c2:Nat} {W w8 w9:World} (h:Rd2 tb B ls A1 n1 c1 A2 n2 c2 W w8) {y:Lk} (hy:¬ y.digest=⟨#[]⟩) {A9:Option Addr} {c9:Nat}
  (hown9:Own RStr 9 w9 B (.slice A9 (n1+1) c9) (hitL ls ++ [y.path])) (hg9:w8.grownBy w9 ((Value.slice A1 n1 c1).ownBlock)) (hd9:∀ b,(Value.slice A9 (n1+1) c9).ownBlock=some b→(Value.slice A1 n1 c1).ownBlock=some b∨w8.heap.size≤b) :
  Blk w9 tb [.string wT,.slice A1 n1 c1,.slice A2 n2 c2]∧Rd2 tb B (ls ++ [y]) A9 (n1+1) c9 A2 n2 c2 W (w9.setCell ⟨tb,1,none⟩ (.slice A9 (n1+1) c9)):=by
 have hlt:=h.lt;have hob:∀ b,(Value.slice A1 n1 c1).ownBlock=some b→B≤b:=fun b hb=>(h.hit.1.lt b hb).1;have hkg:Kp (fun b=>(Value.slice A1 n1 c1).ownBlock=some b) w8 w9:=Kp.of_grown hg9 fun b hb=>hb;have hkgQ:Kp (QS tb B) w8 w9:=hkg.mono fun b _ hb=>.inr (hob b hb);have hkF:Kp (fun b=>b=tb) w9 (w9.setCell ⟨tb,1,none⟩ (.slice A9 (n1+1) c9)):=(Kp.refl (fun b=>b=tb) w9).setCell (a:=⟨tb,1,none⟩) (.inr rfl) _;have hkFQ:Kp (QS tb B) w9 (w9.setCell ⟨tb,1,none⟩ (.slice A9 (n1+1) c9)):=hkF.mono fun b _ e=>.inl e;have hz9:Blk w9 tb [.string wT,.slice A1 n1 c1,.slice A2 n2 c2]:=hkg.blk h.blk (by simp) (fun e=>by have:=hob tb e;omega);have hm9:=hkg.own h.miss (fun b hb hs=>h.dis b hs hb) (fun _ h=>h);refine⟨hz9,hz9.set (k:=1) (by simp) (.slice A9 (n1+1) c9),?_,?_,fun b hb hL=>?_,(h.kp.trans hkgQ).trans hkFQ,hlt,Nat.le_trans h.le (hkgQ.trans hkFQ).size⟩
 ·rw[hitL_snoc,if_neg hy];exact hkF.own hown9 (fun b hb e=>by have e:b=tb:=e;have:=(hown9.1.lt b hb).1;omega) (fun _ h=>h)
 ·rw[missL_snoc,if_neg hy];exact hkF.own hm9 (fun b hb e=>by have e:b=tb:=e;have:=(hm9.1.lt b hb).1;omega) (fun _ h=>h)
 ·rcases hd9 _ hb with h1 | h1
  ·exact h.dis b h1 hL
  ·exact absurd h1 (by have:=(h.miss.1.lt b hL).2;omega)
theorem Rd2.putM {tb B:Nat} {ls:List Lk} {A1:Option Addr} {n1 c1:Nat} {A2:Option Addr} {n2 c2:Nat} {W w8 w9:World} (h:Rd2 tb B ls A1 n1 c1 A2 n2 c2 W w8) {y:Lk} (hy:y.digest=⟨#[]⟩) {A9:Option Addr} {c9:Nat}
  (hown9:Own RStr 9 w9 B (.slice A9 (n2+1) c9) (missL ls ++ [y.path])) (hg9:w8.grownBy w9 ((Value.slice A2 n2 c2).ownBlock)) (hd9:∀ b,(Value.slice A9 (n2+1) c9).ownBlock=some b→(Value.slice A2 n2 c2).ownBlock=some b∨w8.heap.size≤b) :
  Blk w9 tb [.string wT,.slice A1 n1 c1,.slice A2 n2 c2]∧Rd2 tb B (ls ++ [y]) A1 n1 c1 A9 (n2+1) c9 W (w9.setCell ⟨tb,2,none⟩ (.slice A9 (n2+1) c9)):=by
 have hlt:=h.lt;have hob:∀ b,(Value.slice A2 n2 c2).ownBlock=some b→B≤b:=fun b hb=>(h.miss.1.lt b hb).1;have hkg:Kp (fun b=>(Value.slice A2 n2 c2).ownBlock=some b) w8 w9:=Kp.of_grown hg9 fun b hb=>hb;have hkgQ:Kp (QS tb B) w8 w9:=hkg.mono fun b _ hb=>.inr (hob b hb);have hkF:Kp (fun b=>b=tb) w9 (w9.setCell ⟨tb,2,none⟩ (.slice A9 (n2+1) c9)):=(Kp.refl (fun b=>b=tb) w9).setCell (a:=⟨tb,2,none⟩) (.inr rfl) _;have hkFQ:Kp (QS tb B) w9 (w9.setCell ⟨tb,2,none⟩ (.slice A9 (n2+1) c9)):=hkF.mono fun b _ e=>.inl e;have hz9:Blk w9 tb [.string wT,.slice A1 n1 c1,.slice A2 n2 c2]:=hkg.blk h.blk (by simp) (fun e=>by have:=hob tb e;omega);have hm9:=hkg.own h.hit (fun b hb hs=>h.dis b hb hs) (fun _ h=>h);refine⟨hz9,hz9.set (k:=2) (by simp) (.slice A9 (n2+1) c9),?_,?_,fun b hb hL=>?_,(h.kp.trans hkgQ).trans hkFQ,hlt,Nat.le_trans h.le (hkgQ.trans hkFQ).size⟩
 ·rw[hitL_snoc,if_pos hy];exact hkF.own hm9 (fun b hb e=>by have e:b=tb:=e;have:=(hm9.1.lt b hb).1;omega) (fun _ h=>h)
 ·rw[missL_snoc,if_pos hy];exact hkF.own hown9 (fun b hb e=>by have e:b=tb:=e;have:=(hown9.1.lt b hb).1;omega) (fun _ h=>h)
 ·rcases hd9 _ hL with h1 | h1
  ·exact h.dis b hb h1
  ·exact absurd h1 (by have:=(h.hit.1.lt b hb).2;omega)
theorem hitL_len (l:List Lk):(hitL l).length≤l.length:=by unfold hitL;rw[List.length_map];exact List.length_filter_le _ _
theorem missL_len (l:List Lk):(missL l).length≤l.length:=by unfold missL;rw[List.length_map];exact List.length_filter_le _ _
end Go.Proofs.YtdiaabeollcjaaaGreatDoor.C10
namespace Go.Proofs.YtdiaabeollcjaaaGreatDoor.C10
open Go.ChangeShapes Go.WideShapes Go.Deep Go.RowKit
theorem digF_a:digF [97]=⟨#[97,102,54,51,100,99,52,99,56,54,48,49,101,99,56,99]⟩:=by decide +kernel
theorem lives_any (w:World):Calls Tryz.prog 6 #[] w fun e w'=>e = .returned (.bool true)∧Below w.heap.size w w':=by
 have hcv:=Lib.run_convert_bytes_const (P:=Tryz.prog) w 56 5 #[.int .u8 97] 1 1 Tryz.underlying56 Tryz.underlying5;obtain⟨W,hW⟩:∃ W,w.alloc (.cells #[.int .u8 97] 5 (1,2))=W:=⟨_,rfl⟩;have hcv:(convert 56 56 (.slice (some ⟨w.heap.size,0,none⟩) 1 1)).run Tryz.prog (w.alloc (.cells #[.int .u8 97] 5)) = .ok (.slice (some ⟨w.heap.size,0,none⟩) 1 1) W:=by rw[← hW];exact hcv
 have hb:Below w.heap.size w W:=by rw[← hW];exact(Below.refl _ _).alloc (Nat.le_refl _) _
 have hsl:SlAt RU8 W (some ⟨w.heap.size,0,none⟩) 1 [97]:=by
  refine⟨rfl,fun _=>⟨_,_,rfl,fun i x hx j v hv=>?_⟩,fun _ _=>trivial⟩;have hi:i<1:=(List.getElem?_eq_some_iff.1 hx).1;have hj:j<1:=(List.getElem?_eq_some_iff.1 hv).1;obtain rfl:i=0:=by omega
  obtain rfl:j=0:=by omega
  injection hx with hx;subst hx;injection hv with hv;subst hv;rw[← hW];exact World.cell?_alloc_mark w _ _ _ 0
 have hd:=digest_any (some ⟨w.heap.size,0,none⟩) 1 1 [97] W hsl (by decide);obtain⟨hbH,hslH,hdH⟩:=hq2 hb (hq2 hsl (Lib.hid hd));clear hb hsl hd;go_enter Tryz.func6,Tryz.ntmps6;go_wp2_with fail;refine hdH.out.mono ?_;rintro e w2 ⟨rfl,hb2⟩;rw[digF_a];have hbb:=hbH.out.trans (hb2.mono hbH.out.size);clear hb2;have hbbH:=Lib.hid hbb;clear hbb;go_wp2_with fail;go_ret;exact⟨rfl,hbbH.out⟩
end Go.Proofs.YtdiaabeollcjaaaGreatDoor.C10