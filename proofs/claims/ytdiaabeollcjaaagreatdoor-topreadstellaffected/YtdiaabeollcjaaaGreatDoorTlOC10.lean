/-
 Several texts of mine as one, without what is not wanted here: XExE.
-/
import Derived.Test.YtdiaabeollcjaaaGreatDoorTlNC10
set_option linter.unusedVariables false
set_option linter.unusedSimpArgs false
set_option maxRecDepth 100000
set_option maxHeartbeats 8000000
namespace Go.Proofs.YtdiaabeollcjaaaGreatDoor.C10
open Go.ChangeShapes Go.WideShapes Go.Deep Go.RowKit Go.Maps
structure BothOk (x:Action) (l:List File):Prop where
 cmds:CmdsOk x
 vars:VarsOk x.vars.l
 outn:x.outputs.l.length≤100
 outp:∀ p∈x.outputs.l,pathB p=true
 fn:l.length≤1000
 fp:∀ y∈l,pathB y.path=true∧y.bytes.l.length≤100000
 fx:FilesX l
def ChkAns (x:Action) (l:List File) (w:World) (e:Ending) (w':World):Prop:=∃ c:Int,e = .returned (.int .i64 c)∧(c=0→BothOk x l)∧Below w.heap.size w w'
def pfOf (y:File):PF:=⟨y.run,y.bytes.l⟩
def inpF (l:List File):Inp:=l.foldl (fun g y=>updE g y.path (pfOf y)) fun _=>none
theorem inpF_snoc (l:List File) (y:File):inpF (l ++ [y])=updE (inpF l) y.path (pfOf y):=by unfold inpF;rw[List.foldl_append];rfl
theorem inpF_mem (l:List File):∀ p,(inpF l p).isSome=true→p∈l.map (·.path):=by
 have key:∀ (l:List File) (g:Inp) (M:List ByteArray),(∀ p,(g p).isSome=true→p∈M)→∀ p,((l.foldl (fun g y=>updE g y.path (pfOf y)) g) p).isSome=true→p∈M++l.map (·.path):=by
  intro l
  induction l with
  | nil=>intro g M hg p hp;simpa using hg p hp
  | cons y r ih =>
   intro g M hg p hp;have:=ih (updE g y.path (pfOf y)) (M ++ [y.path]) (fun q hq=>by
    unfold updE at hq
    by_cases e:q=y.path
    ·rw[e];exact List.mem_append.2 (.inr List.mem_cons_self)
    ·rw[if_neg e]at hq;exact List.mem_append.2 (.inl (hg q hq))) p hp
   simpa using this
 intro p hp;have:=key l (fun _=>none) [] (fun q hq=>by cases hq) p hp
 simpa using this
def fvOf (y:File):FV:=⟨y.path,y.run,y.bytes.A,y.bytes.n,y.bytes.cap⟩
def ExAns (x:Action) (l:List File) (w:World) (e:Ending) (w':World):Prop :=
 (∃ c:Int,c≠0∧e = .returned (.tuple #[.agg #[.int .i64 0,.string ⟨#[]⟩,.slice none 0 0,.slice none 0 0,.int .i64 0],.int .i64 c])∧Below w.heap.size w w') ∨
 ∃ (r:(Int × Int) × ES) (FA LA:Option Addr) (Fn Fc Ln Lc:Nat) (fs:List File) (fp lp:List ByteArray),BothOk x l ∧
  e = .returned (.tuple #[.agg #[.int .i64 r.1.1,.string r.2.told,.slice FA Fn Fc,.slice LA Ln Lc,.int .i64 r.1.2],.int .i64 0]) ∧
  (RSl RFile).ok w' ⟨FA,Fn,Fc,fs⟩∧(RSl RLk).ok w' ⟨LA,Ln,Lc,lp.map (lkE r.2)⟩∧Rising fp∧Rising lp∧fs.map flat=fp.map (flatW r.2)∧(lp.length≤600000∧∀ p∈lp,p.size≤maxLen)∧(∀ p,p.size≤maxLen→(p∈lp↔(r.2.lk p).isSome=true)) ∧
  ((r.1.1=0∧∀ p,p.size≤maxLen→(p∈fp↔(r.2.wr p).isSome=true))∨(r.1.1≠0∧fp = []))∧(NoList x→runM (epOf x) (cmds x) 0 (inpF l) es0=r)∧Below w.heap.size w w'
theorem bts_in {w:World} {d:SlD UInt8} {n T:Nat} (h:(RSl RU8).ok w d) (hT:w.heap.size≤n) (hTT:T=w.heap.size:=by rfl):Bts (TS n T) w d.A d.n d.cap d.l:=by
 subst hTT;refine⟨h,fun h0 ad hA hs=>?_⟩;have hsl:=h.1;rw[hA]at hsl;have hlt:=slAt_lt hsl h0 (by decide)
 rcases hs with hs | hs
 ·have:=wS_ge hs;omega
 ·omega
theorem WA.file {W0:World} {n T:Nat} {x:Action} {I:Inp} {s:ES} {cl:Nat} {w:World} (h:WA W0 n T x I s cl w) {y:File} (hb:Bts (TS n T) W0 y.bytes.A y.bytes.n y.bytes.cap y.bytes.l) (hz:y.path.size≤maxLen) (hl:y.bytes.l.length≤100000) {L:List ByteArray} (hL:∀ p,(I p).isSome=true→p∈L) (hLn:L.length≤100000) (hT:T≤W0.heap.size) (hW:W0.heap.size≤w.heap.size)
  {wX:World} (hX:Below w.heap.size w wX):∃ w6,(Instr.mapUpdate 52 (.map (some n)) (.string y.path) (.agg #[.string y.path,.bool y.run,.slice y.bytes.A y.bytes.n y.bytes.cap])).run Tryz.prog wX = .ok () w6∧WA W0 n T x (updE I y.path (pfOf y)) s cl w6∧Kp (fun k=>k=n) wX w6:=by
 have hX1:=h.below hX;obtain⟨f,c,hf,hf2⟩:=hX1.fi;have hc:c≤L.length:=tmap_count hf L fun p _ hp=>by
  rcases hf2 p with ⟨h1,_⟩ | ⟨v,z,h1,h2,_⟩
  ·rw[h1]at hp;cases hp
  ·exact hL p (by rw[h2];rfl)
 obtain⟨w6,hrun,hm6,ht6⟩:=hf.store (t:=52) Tryz.underlying52 injF (by simp only[maxLen];omega) (x:=y.path) hz (fvOf y);have hk:Kp (fun k=>k=n) wX w6:=Kp.of_grown ht6.grown fun k hk=>by injection hk with hk;exact hk.symm
 have hbase:=hX1.base;have hkT:Kp (TS n T) wX w6:=hk.mono fun k _ e=>by right;omega
 obtain⟨g,hg,hg2⟩:=hX1.fo;have hbel:Below W0.heap.size W0 w6:=hX1.bel.trans (hk.below (by have:=hX.size;omega) fun k e=>by omega);refine⟨w6,hrun,⟨hk.blk hX1.blk (by simp[wCells]) (by omega),⟨_,_,hm6,fun p=>?_⟩,⟨g,hk.tmap hg (by omega),hg2.kp hkT⟩,hk.tmap hX1.fl (by omega),hX1.told_,hX1.base,hbel,Nat.le_trans hX1.top hk.size⟩,hk⟩;unfold upd updE
 by_cases e:p=y.path
 ·rw[if_pos e,if_pos e];exact .inr ⟨_,_,rfl,rfl,e.symm,rfl,hb.kp (Kp.of_below (hbel)),hl⟩
 ·rw[if_neg e,if_neg e]
  rcases hf2 p with h1 | ⟨v,z,h1,h2,h3⟩
  ·exact .inl h1
  ·exact .inr ⟨v,z,h1,h2,h3.kp hkT⟩
def RB:Obj:=.cells #[.int .i64 0,.string ⟨#[]⟩,.slice none 0 0,.slice none 0 0,.int .i64 0] 30
def EIn (x:Action) (l:List File) (w:World) (n:Nat) (i:Value) (wr:World):Prop :=
 ∃ k:Nat,k≤l.length∧i = .int .i64 k∧WA w n w.heap.size x (inpF (l.take k)) es0 0 wr∧Blk wr (w.heap.size+1) [.int .i64 0,.string ⟨#[]⟩,.slice none 0 0,.slice none 0 0,.int .i64 0]∧wr.heap[w.heap.size+1]? = some RB
theorem bts_not8 {S:Nat→Prop} {w:World} {h:Nat} {z:File} (hz:BtsF S w z) (hx:w.heap[h]? = some RB):BtsF (fun b=>b=h) w z:=by
 refine⟨hz.1,fun h0 ad hA hs=>?_⟩;have hs:ad.block=h:=hs;have hsl:SlAt RU8 w z.bytes.A z.bytes.n z.bytes.l:=hz.1.1;rw[hA]at hsl;have hl:=hsl.1;obtain⟨b',o',hA',hc'⟩:=hsl.2.1 h0;injection hA' with hA';have hx0:z.bytes.l[0]? = some (z.bytes.l[0]'(by omega)):=List.getElem?_eq_getElem _;have:=hc' 0 _ hx0 0 _ rfl;rw[hA']at hs;have hs:b'=h:=hs;rw[hs]at this;exact cells_not8 hx this
theorem blk5 {W:World} {b:Nat} {o0 o1 o2 o3 o4:Value} (h:Blk W b [o0,o1,o2,o3,o4]) (u0 u1 u2 u3 u4:Value) :
  Blk (((((W.setCell ⟨b,0,none⟩ u0).setCell ⟨b,1,none⟩ u1).setCell ⟨b,2,none⟩ u2).setCell ⟨b,3,none⟩ u3).setCell ⟨b,4,none⟩ u4) b [u0,u1,u2,u3,u4] :=
 ((((h.set (k:=0) (by simp) u0).set (k:=1) (by simp) u1).set (k:=2) (by simp) u2).set (k:=3) (by simp) u3).set (k:=4) (by simp) u4
def actV (x:Action):Value:=.agg #[.string x.tool,.slice x.commands.A x.commands.n x.commands.cap,.slice x.vars.A x.vars.n x.vars.cap,.slice x.outputs.A x.outputs.n x.outputs.cap,.slice x.needs.A x.needs.n x.needs.cap,.int .i64 x.time]
theorem execute_any (x:Action) (A:Option Addr) (m c:Nat) (l:List File) (w:World) (hmx:MaxLenAt w) (hpw:PowJ w) (hx:RAction.ok w x) (hl:(RSl RFile).ok w ⟨A,m,c,l⟩)
  (hchk:∀ W,Below w.heap.size w W→Calls Tryz.prog 14 #[actV x,.slice A m c] W (ChkAns x l W)) :
  Calls Tryz.prog 5 #[actV x,.slice A m c] w (ExAns x l w):=by
 obtain⟨Z,hZ⟩:∃ Z,ExAns x l w=Z:=⟨_,rfl⟩;have hZ':∀ e W,ExAns x l w e W→Z e W:=fun e W h=>by rw[← hZ];exact h
 rw[hZ];clear hZ;have hmk:=@run_makeMap Tryz.prog;obtain⟨w0,hw0⟩:∃ W,(w.alloc (.cells #[.string x.tool,.slice x.commands.A x.commands.n x.commands.cap,.slice x.vars.A x.vars.n x.vars.cap,.slice x.outputs.A x.outputs.n x.outputs.cap,.slice x.needs.A x.needs.n x.needs.cap,.int .i64 x.time] 26)).alloc (.cells #[.int .i64 0,.string ⟨#[]⟩,.slice none 0 0,.slice none 0 0,.int .i64 0] 30)=W:=⟨_,rfl⟩;have hb0:Below w.heap.size w w0:=by rw[← hw0];exact((Below.refl _ _).alloc (Nat.le_refl _) _).alloc (by simp) _
 have hz0:Blk w0 w.heap.size [.string x.tool,.slice x.commands.A x.commands.n x.commands.cap,.slice x.vars.A x.vars.n x.vars.cap,.slice x.outputs.A x.outputs.n x.outputs.cap,.slice x.needs.A x.needs.n x.needs.cap,.int .i64 x.time]:=by
  have h:=blk_new w [.string x.tool,.slice x.commands.A x.commands.n x.commands.cap,.slice x.vars.A x.vars.n x.vars.cap,.slice x.outputs.A x.outputs.n x.outputs.cap,.slice x.needs.A x.needs.n x.needs.cap,.int .i64 x.time] 26;rw[← hw0];exact blk_below h (by simp) ((Below.refl _ _).alloc (Nat.le_refl _) _)
 have hr0:Blk w0 (w.heap.size+1) [.int .i64 0,.string ⟨#[]⟩,.slice none 0 0,.slice none 0 0,.int .i64 0]:=by
  have h:=blk_new (w.alloc (.cells #[.string x.tool,.slice x.commands.A x.commands.n x.commands.cap,.slice x.vars.A x.vars.n x.vars.cap,.slice x.outputs.A x.outputs.n x.outputs.cap,.slice x.needs.A x.needs.n x.needs.cap,.int .i64 x.time] 26)) [.int .i64 0,.string ⟨#[]⟩,.slice none 0 0,.slice none 0 0,.int .i64 0] 30;rw[← hw0]
  simpa using h
 have hs0:w0.heap.size=w.heap.size+2:=by rw[← hw0];simp
 have hx0:w0.heap[w.heap.size+1]? = some RB:=by
  have h:=heap_alloc_new (w.alloc (.cells #[.string x.tool,.slice x.commands.A x.commands.n x.commands.cap,.slice x.vars.A x.vars.n x.vars.cap,.slice x.outputs.A x.outputs.n x.outputs.cap,.slice x.needs.A x.needs.n x.needs.cap,.int .i64 x.time] 26)) RB;rw[← hw0]
  simpa[RB]using h
 obtain⟨d0,_⟩:=hz0 0 _ rfl;obtain⟨d1,_⟩:=hz0 1 _ rfl;obtain⟨d2,_⟩:=hz0 2 _ rfl;obtain⟨d3,_⟩:=hz0 3 _ rfl;obtain⟨d4,_⟩:=hz0 4 _ rfl;obtain⟨d5,_⟩:=hz0 5 _ rfl;obtain⟨hZ'H,hmxH,hpwH,hxH,hlH,hchkH,hb0H,hz0H,hr0H,hx0H⟩:=hq2 hZ' (hqc hmx hpw hx hl hchk hb0 hz0 hr0 (Lib.hid hx0));clear hZ' hmx hpw hx hl hchk hb0 hz0 hr0 hx0;unfold actV;go_enter Tryz.func5,Tryz.ntmps5;go_wp2_with fail;refine(hchkH.out w0 hb0H.out).mono ?_;rintro e w1 ⟨k,rfl,hk0,hb1⟩;clear d0 d1 d2 d3 d4 d5;have hz1:=blk_below hz0H.out (by simp) hb1;obtain⟨d0,_⟩:=hz1 0 _ rfl;obtain⟨d1,_⟩:=hz1 1 _ rfl;obtain⟨d2,_⟩:=hz1 2 _ rfl;obtain⟨d3,_⟩:=hz1 3 _ rfl;obtain⟨d4,_⟩:=hz1 4 _ rfl;obtain⟨d5,_⟩:=hz1 5 _ rfl;have hb01:=hb0H.out.trans (hb1.mono hb0H.out.size)
 by_cases hk:k=0
 ·subst hk;have hok:=hk0 rfl;clear hk0;obtain⟨w2,hw2⟩:∃ W,(((w1.alloc (.map #[] 0)).alloc (.map #[] 0)).alloc (.map #[] 0)).alloc (.cells #[.string x.tool,.slice x.commands.A x.commands.n x.commands.cap,.slice x.vars.A x.vars.n x.vars.cap,.slice x.outputs.A x.outputs.n x.outputs.cap,.slice x.needs.A x.needs.n x.needs.cap,.int .i64 x.time,.map (some w1.heap.size),.map (some (w1.heap.size+1)),.map (some (w1.heap.size+2)),.string ⟨#[]⟩,.int .i64 0] 55)=W:=⟨_,rfl⟩;have hb12:Below w1.heap.size w1 w2:=by rw[← hw2];exact((((Below.refl _ _).alloc (Nat.le_refl _) _).alloc (by simp) _).alloc (by simp <;> omega) _).alloc (by simp <;> omega) _
  have hs2:w2.heap.size=w1.heap.size+4:=by rw[← hw2];simp
  have hm1:TMap KS valF w2 w1.heap.size (fun _=>none) 0:=by rw[← hw2];exact(((TMap.made w1 KS valF).alloc _).alloc _).alloc _
  have hm2:TMap KS valF w2 (w1.heap.size+1) (fun _=>none) 0:=by
   rw[← hw2];have:=((TMap.made (w1.alloc (.map #[] 0)) KS valF).alloc (.map #[] 0)).alloc (.cells #[.string x.tool,.slice x.commands.A x.commands.n x.commands.cap,.slice x.vars.A x.vars.n x.vars.cap,.slice x.outputs.A x.outputs.n x.outputs.cap,.slice x.needs.A x.needs.n x.needs.cap,.int .i64 x.time,.map (some w1.heap.size),.map (some (w1.heap.size+1)),.map (some (w1.heap.size+2)),.string ⟨#[]⟩,.int .i64 0] 55)
   simpa using this
  have hm3:TMap KS valL w2 (w1.heap.size+2) (fun _=>none) 0:=by
   rw[← hw2];have:=(TMap.made ((w1.alloc (.map #[] 0)).alloc (.map #[] 0)) KS valL).alloc (.cells #[.string x.tool,.slice x.commands.A x.commands.n x.commands.cap,.slice x.vars.A x.vars.n x.vars.cap,.slice x.outputs.A x.outputs.n x.outputs.cap,.slice x.needs.A x.needs.n x.needs.cap,.int .i64 x.time,.map (some w1.heap.size),.map (some (w1.heap.size+1)),.map (some (w1.heap.size+2)),.string ⟨#[]⟩,.int .i64 0] 55)
   simpa using this
  have hbk:Blk w2 (w1.heap.size+3) (wCells x w1.heap.size ⟨#[]⟩ 0):=by
   rw[← hw2];have:=blk_new (((w1.alloc (.map #[] 0)).alloc (.map #[] 0)).alloc (.map #[] 0)) (wCells x w1.heap.size ⟨#[]⟩ 0) 55
   simpa[wCells]using this
  have hsz01:=hb01.size;have hsz1:=hb1.size;have hb02:=hb01.trans (hb12.mono hsz01);have hwa:WA w w1.heap.size w.heap.size x (inpF []) es0 0 w2:=⟨hbk,⟨_,0,hm1,fun p=>.inl ⟨rfl,rfl⟩⟩,⟨_,hm2,fun p=>.inl ⟨rfl,rfl⟩⟩,hm3,by decide,hsz01,hb02,hb02.size⟩;have hr2:=blk_below (blk_below hr0H.out (by simp) hb1) (by simp) hb12;have hx2:w2.heap[w.heap.size+1]? = some RB:=(hb12.block _ (by omega)).trans ((hb1.block _ (by omega)).trans hx0H.out);have hst:EIn x l w w1.heap.size (.int .i64 0) w2:=⟨0,Nat.zero_le _,rfl,by simpa using hwa,hr2,hx2⟩;clear hm1 hm2 hm3 hbk hwa hr2 hx2;obtain⟨hb1H,hz1H,hb01H,hokH,hb12H,hb02H,hstH⟩:=hq2 hb1 (hq2 hz1 (hqb hb01 hok hb12 hb02 (Lib.hid hst)));clear hb1 hz1 hb01 hok hb12 hb02 hst;go_wp2_with fail;clear hw2 hw0 d0 d1 d2 d3 d4 d5;have e3:w1.heap.size+1+1+1=w1.heap.size+3:=rfl;rw[e3];clear e3
  go_loopw [30] (fun i wr=>EIn x l w w1.heap.size i wr) (fun i _=>m-(intOf i).toNat)
  case atStart=>exact hstH.out
  case round =>
   clear hstH;obtain⟨k,hk,rfl,hA,hr,hx4⟩:=hrel;have hln:l.length=m:=hlH.out.1.1;have hkm:k≤m:=by omega
   have hm1000:m≤1000:=by have:=hokH.out.fn;omega
   by_cases hlt:k<m
   ·obtain⟨y,hy⟩:∃ y,l[k]? = some y:=⟨l[k]'(by omega),List.getElem?_eq_getElem _⟩;have hsl:=hlH.out.1.below hA.bel;obtain⟨bl,ol,hAL,_⟩:=hsl.2.1 (by show 0<m;omega);simp only at hAL;subst hAL;obtain⟨c0,c1,c2⟩:=cells_File hsl hy;have hym:=List.mem_of_getElem? hy;obtain⟨hyz,_,hyb⟩:=hlH.out.1.2.2 y hym;have hyp:=(hokH.out.fp y hym).2;have hbt:=bts_in (T:=w.heap.size) (n:=w1.heap.size) hyb hsz01;have htk:l.take (k+1)=l.take k ++ [y]:=by rw[List.take_add_one,hy];rfl
    have hal:=hA.lt;obtain⟨yp,yr,⟨yA,yn,yc,yl⟩⟩:=y;simp only at c0 c1 c2 hyz hyp hbt;obtain⟨wX,hwX⟩:∃ W,wr.alloc (.cells #[.string yp,.bool yr,.slice yA yn yc] 58)=W:=⟨_,rfl⟩;have hbX:Below wr.heap.size wr wX:=by rw[← hwX];exact(Below.refl wr.heap.size wr).alloc (Nat.le_refl _) _
    have hzX:Blk wX wr.heap.size [.string yp,.bool yr,.slice yA yn yc]:=by rw[← hwX];exact blk_new wr [.string yp,.bool yr,.slice yA yn yc] 58
    obtain⟨x0,_⟩:=hzX 0 _ rfl;obtain⟨x1,_⟩:=hzX 1 _ rfl;obtain⟨x2,_⟩:=hzX 2 _ rfl;obtain⟨w6,hw6,hA6,hk6⟩:=hA.file (y:=⟨yp,yr,⟨yA,yn,yc,yl⟩⟩) hbt hyz hyp (fun p hp=>by have:=inpF_mem _ p hp;rw[List.map_take]at this;exact List.mem_of_mem_take this) (by rw[List.length_map];omega) (Nat.le_refl _) hA.bel.size hbX.drew;have q6:=(hA.below hbX).cells.2.2.2.1;rw[← inpF_snoc,← htk]at hA6;have hrX:=blk_below hr (by simp) hbX.drew;have hr6:=hk6.blk hrX (by simp) (by omega);have hx6:w6.heap[w.heap.size+1]? = some RB:=(hk6.block _ (by have:=hbX.size;show _<wX.heap.size;omega) (fun e=>by have e:w.heap.size+1=w1.heap.size:=e;omega)).trans ((hbX.drew.block _ (by omega)).trans hx4);have R:EIn x l w w1.heap.size (.int .i64 (k+1)) w6:=⟨k+1,by omega,by go_num,hA6,hr6,hx6⟩;clear hrX hr6 hA6 htk hx6;obtain⟨hAH,hrH,hslH,hyH,hymH,hybH,hbtH,hbXH,hzXH,hk6H,RH,hx4H⟩:=hq2 hA (hq2 hr (hq2 hsl (hqc hy hym hyb hbt hbX hzX hk6 R (Lib.hid hx4))));clear hA hr hsl hy hym hyb hbt hbX hzX hk6 R hx4;go_wp2_with fail
    go_region
    go_wp2;refine⟨?rel,?measure⟩
    case measure=>(simp[intOf];omega)
    case rel=>first | exact RH.out | exact⟨rfl,RH.out⟩
   ·obtain rfl:k=m:=by omega
    have e0:l.take k=l:=List.take_of_length_le (by omega);rw[e0]at hA;clear e0;have hLs:LsIn x (inpF l) es0 (l.map (·.path)++x.outputs.l):=by
     refine⟨fun p hp=>List.mem_append.2 (.inl (inpF_mem l p hp)),(fun p hp=>by cases hp),?_,fun p hp=>?_⟩
     ·rw[List.length_append,List.length_map];have:=hokH.out.outn;omega
     ·rcases List.mem_append.1 hp with h | h
      ·obtain⟨y,hy,rfl⟩:=List.mem_map.1 h;have:=pathB_le (hokH.out.fp y hy).1;omega
      ·have:=pathB_le (hokH.out.outp p h);omega
    have hon:x.outputs.n≤100:=by have:=hokH.out.outn;have:x.outputs.l.length=x.outputs.n:=hxH.out.2.2.2.1.1.1;omega
    obtain⟨r0,hr0⟩:∃ r,runM (epOf x) (cmds x) 0 (inpF l) es0=r:=⟨_,rfl⟩;obtain⟨wY,hwY⟩:∃ W,wr.alloc (.cells #[.int .i64 0,.string ⟨#[]⟩,.slice none 0 0,.slice none 0 0,.int .i64 0] 30)=W:=⟨_,rfl⟩;have hbY:Below wr.heap.size wr wY:=by rw[← hwY];exact(Below.refl _ _).alloc (Nat.le_refl _) _
    have hzY:Blk wY wr.heap.size [.int .i64 0,.string ⟨#[]⟩,.slice none 0 0,.slice none 0 0,.int .i64 0]:=by rw[← hwY];exact blk_new wr [.int .i64 0,.string ⟨#[]⟩,.slice none 0 0,.slice none 0 0,.int .i64 0] _
    have hcall:=run_any w w1.heap.size w.heap.size x (inpF l) ⟨hxH.out,hokH.out.vars,hon,hmxH.out,hpwH.out⟩ hokH.out.cmds _ hLs (fun p hp=>List.mem_append.2 (.inr hp)) wY (hA.below hbY) r0 hr0;have hal:=hA.lt;have hrY:=blk_below hr (by simp) hbY;have hxY:wY.heap[w.heap.size+1]? = some RB:=(hbY.block _ (by omega)).trans hx4;obtain⟨hAH,hrH,hLsH,hcallH,hbYH,hzYH,hr0H,hrYH,hxYH,hx4H⟩:=hq2 hA (hqc hr hLs hcall hbY hzY hr0 hrY hxY (Lib.hid hx4));clear hA hr hLs hcall hbY hzY hr0 hrY hxY hx4;go_wp2_with fail;refine hcallH.out.mono ?_;rintro e w3 ⟨⟨⟨rc,rk⟩,s3⟩,T3,cl3,rfl,hA3,hcl3,hnw3,hk3,hLs3,hno⟩;simp only at hA3 hno ⊢;have hal:=hA3.lt;have hqg:w1.heap.size+4≤wr.heap.size:=by have:=hAH.out.lt;omega
    have hqh:w3.heap[wr.heap.size]? = wY.heap[wr.heap.size]?:=hk3.block _ (hzYH.out.lt (by simp)) (fun e=>by have:=wS_le e;omega);rw[← hwY,heap_alloc_new]at hqh;have hAR:=AR.of hA3 hqh hqg;have hz3:=hk3.blk hzYH.out (by simp) (fun e=>by have:=wS_le e;omega);have hr3:=hk3.blk hrYH.out (by simp) (fun e=>by have:=wS_ge e;omega);have hx3:w3.heap[w.heap.size+1]? = some RB:=(hk3.block _ (by have:=hbYH.out.size;omega) (fun e=>by have:=wS_ge e;omega)).trans hxYH.out;have hbW3:Below w.heap.size w w3:=hA3.bel;obtain⟨q,hqe⟩:∃ q,wr.heap.size=q:=⟨_,rfl⟩;rw[hqe]at hqg hAR hz3;rw[hqe];obtain⟨n,hne⟩:∃ n,w1.heap.size=n:=⟨_,rfl⟩;rw[hne]at hqg hAR hsz1 hsz01;rw[hne];clear hqh hwY hA3 hk3 hqe hne hzYH hrYH hbYH hcallH hAH hrH;obtain⟨z0,y0⟩:=hz3 0 _ rfl;obtain⟨z1,y1⟩:=hz3 1 _ rfl;obtain⟨z4,y4⟩:=hz3 4 _ rfl;have hkq:Kp (QS q w3.heap.size) w3 ((w3.setCell ⟨q,0,none⟩ (.int .i64 rc)).setCell ⟨q,4,none⟩ (.int .i64 rk)):=((Kp.refl _ w3).setCell (a:=⟨q,0,none⟩) (.inr (.inl rfl)) _).setCell (a:=⟨q,4,none⟩) (.inr (.inl rfl)) _;have t9:=(hAR.kp hkq).cells.2.2;have hk4:=hkq.setCell (a:=⟨q,1,none⟩) (.inr (.inl rfl)) (.string s3.told);have hz4:=((hz3.set (k:=0) (by simp) (.int .i64 rc)).set (k:=4) (by simp) (.int .i64 rk)).set (k:=1) (by simp) (.string s3.told);obtain⟨w4,hw4⟩:∃ W,((w3.setCell ⟨q,0,none⟩ (.int .i64 rc)).setCell ⟨q,4,none⟩ (.int .i64 rk)).setCell ⟨q,1,none⟩ (.string s3.told)=W:=⟨_,rfl⟩;rw[hw4]at hk4 hz4;have hAR4:=hAR.kp hk4;have t8:=hAR4.cells.2.1;have hz4:Blk w4 q [.int .i64 rc,.string s3.told,.slice none 0 0,.slice none 0 0,.int .i64 rk]:=hz4
    have hB4:w3.heap.size≤w4.heap.size:=hk4.size;obtain⟨hARH,hz3H,hr3H,hbW3H,hkqH,hk4H,hz4H,hAR4H,hnoH,hLs3H,hx3H⟩:=hq2 hAR (hq2 hz3 (hqc hr3 hbW3 hkq hk4 hz4 hAR4 hno hLs3 (Lib.hid hx3)));clear hAR hz3 hr3 hbW3 hkq hk4 hz4 hAR4 hno hLs3 hx3;go_wp2_with fail;clear hw4 z0 y0 z1 y1 z4 y4 t9;refine(keys_l (some (n+2)) w4).mono ?_;rintro e w5 ⟨rfl,rfl⟩;go_wp2_with fail;refine(sorted_l (n+2) cl3 w4 hAR4H.out.fl (by omega)).mono ?_;rintro e w6 ⟨A6,k6,c6,S,rfl,hown6,hri,hmem,hSl,hb6⟩;have hk6:=hk4H.out.trans (Kp.of_below (S:=QS q w3.heap.size) hb6);have hAR6:=hAR4H.out.kp (Kp.of_below (S:=QS q w3.heap.size) hb6);have hz6:=blk_below hz4H.out (by simp) hb6;have hm6:=hown6.len;have hst2:LkRel n q w3.heap.size x s3 cl3 S A6 k6 rc rk w3 (.int .i64 0) w6:=⟨0,none,0,Nat.zero_le _,rfl,hAR6,hk6,hz6,Own.nil _ _,hown6.slAt,fun _ ad hA=>⟨by have:=(own_capx hown6).2.2 ad hA;omega,fun h=>by cases h⟩⟩;have hk61:k6≤600000:=by omega
    clear hb6;obtain⟨hown6H,hriH,hmemH,hk6H,hAR6H,hz6H,hst2H⟩:=hq2 hown6 (hq2 hri (hqb hmem hk6 hAR6 hz6 (Lib.hid hst2)));clear hown6 hri hmem hk6 hAR6 hz6 hst2;clear hk4H hz4H hAR4H;go_wp2_with fail
    go_loopw [61] (fun i wr=>LkRel n q w3.heap.size x s3 cl3 S A6 k6 rc rk w3 i wr) (fun i _=>k6-(intOf i).toNat)
    case atStart=>exact hst2H.out
    case round =>
     clear hst2H;obtain⟨j,A7,c7,hj,rfl,hAR7,hk7,hz7,hown7,hsl7,hfar7⟩:=hrel;have hjm:j≤k6:=by omega
     by_cases hlt7:j<k6
     ·obtain⟨t,ht⟩:∃ t,S[j]? = some t:=⟨S[j]'(by omega),List.getElem?_eq_getElem _⟩;obtain⟨b7,o7,hA7,_⟩:=hsl7.2.1 (by omega);subst hA7;have cy:=cell_Str hsl7 ht;have htz:t.size≤maxLen:=hsl7.2.2 t (List.mem_of_getElem? ht);obtain⟨lv,hlv⟩:∃ v,(s3.lk t).getD lk0=v:=⟨_,rfl⟩;have hle:lkE s3 t=lv:=hlv;have hlk:∀ W,AR n q w3.heap.size x s3 cl3 W→(Instr.lookup 53 (.map (some (n+2))) (.string t) false).run Tryz.prog W = .ok (.agg #[.string lv.path,.string lv.digest,.bool lv.run]) W:=fun W hW=>by
       rw[← hlv]
       cases e:s3.lk t with
       | none=>exact(lookL hW.fl htz lk0 false (.inr ⟨rfl,e,rfl⟩)).2
       | some v=>exact(lookL hW.fl htz v true (.inl ⟨rfl,e⟩)).2
      obtain⟨vp,vd,vr⟩:=lv;simp only at hlk;have hARd:=hAR7.kp (Kp.of_below (S:=QS q w3.heap.size) (Below.refl wr.heap.size wr).drew);have hlkd:=hlk _ hARd;have hqs:=hAR7.le;have q3:=(hz7 3 _ rfl).1;have q8:=hAR7.cells.2.1;have hfl7:b7<wr.heap.size:=slAt_ltN hsl7 (by omega);obtain⟨hAR7H,hk7H,hz7H,hown7H,hsl7H,hfar7H,htH,hlvH,hleH,hlkH,hARdH⟩:=hq2 hAR7 (hq2 hk7 (hqc hz7 hown7 hsl7 hfar7 ht hlv hle hlk (Lib.hid hARd)));clear hAR7 hk7 hz7 hown7 hsl7 hfar7 ht hlv hle hlk hARd;go_wp2_with fail;refine startR (R:=Rk (fun _=>True) (fun w'=>w'.cell? ⟨q,3,none⟩=some (.slice A7 j c7)∧w'.cell? ⟨n+3,8,none⟩=some (.map (some (n+2)))∧(Instr.lookup 53 (.map (some (n+2))) (.string t) false).run Tryz.prog w' = .ok (.agg #[.string vp,.string vd,.bool vr]) w') 11 11) (by kernel_rfl) ?_;have hC:wr.drew.cell? ⟨q,3,none⟩=some (.slice A7 j c7)∧wr.drew.cell? ⟨n+3,8,none⟩=some (.map (some (n+2)))∧(Instr.lookup 53 (.map (some (n+2))) (.string t) false).run Tryz.prog wr.drew = .ok (.agg #[.string vp,.string vd,.bool vr]) wr.drew:=⟨q3,q8,hlkd⟩;refine takeC (i:=0) (d:=some 65) (v:=?_) rfl rfl (by kernel_rfl) (by kernel_rfl) (by kernel_rfl) (by kernel_rfl) (fun _ _ _ h=>h) (Or.inl ⟨by rfl,?_⟩) hC ?_
      rotate_left
      ·(intro w hSw;(try dsimp only at hSw);go_simp;(try with_reducible rfl))
      (try simp only[Act.put,List.setIfInBounds_toArray,List.set_cons_zero,List.set_cons_succ])
      refine takeC (i:=1) (d:=some 66) (v:=?_) rfl rfl (by kernel_rfl) (by kernel_rfl) (by kernel_rfl) (by kernel_rfl) (fun _ _ _ h=>h) (Or.inl ⟨by rfl,?_⟩) hC ?_
      rotate_left
      ·(intro w hSw;(try dsimp only at hSw);go_simp;(try with_reducible rfl))
      (try simp only[Act.put,List.setIfInBounds_toArray,List.set_cons_zero,List.set_cons_succ])
      refine takeC (i:=2) (d:=some 67) (v:=?_) rfl rfl (by kernel_rfl) (by kernel_rfl) (by kernel_rfl) (by kernel_rfl) (fun _ _ _ h=>h) (Or.inl ⟨by rfl,?_⟩) hC ?_
      rotate_left
      ·(intro w hSw;(try dsimp only at hSw);go_simp;(try with_reducible rfl))
      (try simp only[Act.put,List.setIfInBounds_toArray,List.set_cons_zero,List.set_cons_succ])
      refine takeC (i:=3) (d:=some 68) (v:=?_) rfl rfl (by kernel_rfl) (by kernel_rfl) (by kernel_rfl) (by kernel_rfl) (fun _ _ _ h=>h) (Or.inl ⟨by rfl,?_⟩) hC ?_
      rotate_left
      ·(intro w hSw;(try dsimp only at hSw);go_simp;(try with_reducible rfl))
      (try simp only[Act.put,List.setIfInBounds_toArray,List.set_cons_zero,List.set_cons_succ])
      refine takeC (i:=4) (d:=some 69) (v:=?_) rfl rfl (by kernel_rfl) (by kernel_rfl) (by kernel_rfl) (by kernel_rfl) (fun _ _ _ h=>h) (Or.inl ⟨by rfl,?_⟩) hC ?_
      rotate_left
      ·(intro w hSw;(try dsimp only at hSw);go_simp;(try with_reducible rfl))
      (try simp only[Act.put,List.setIfInBounds_toArray,List.set_cons_zero,List.set_cons_succ])
      refine takeC (i:=5) (d:=some 70) (v:=?_) rfl rfl (by kernel_rfl) (by kernel_rfl) (by kernel_rfl) (by kernel_rfl) (fun _ _ _ h=>h) (Or.inl ⟨by rfl,?_⟩) hC ?_
      rotate_left
      ·(intro w hSw;(try dsimp only at hSw);go_simp;(try with_reducible rfl))
      (try simp only[Act.put,List.setIfInBounds_toArray,List.set_cons_zero,List.set_cons_succ])
      refine takeC (i:=6) (d:=some 71) (v:=?_) rfl rfl (by kernel_rfl) (by kernel_rfl) (by kernel_rfl) (by kernel_rfl) (fun _ _ _ h=>h) (Or.inl ⟨by rfl,?_⟩) hC ?_
      rotate_left
      ·(intro w hSw;(try dsimp only at hSw);go_simp;(try with_reducible rfl))
      (try simp only[Act.put,List.setIfInBounds_toArray,List.set_cons_zero,List.set_cons_succ])
      refine takeC (i:=7) (d:=some 72) (v:=?_) rfl rfl (by kernel_rfl) (by kernel_rfl) (by kernel_rfl) (by kernel_rfl) (fun _ _ _ h=>h) (Or.inl ⟨by rfl,?_⟩) hC ?_
      rotate_left
      ·(intro w hSw;(try dsimp only at hSw);go_simp;(try with_reducible rfl))
      (try simp only[Act.put,List.setIfInBounds_toArray,List.set_cons_zero,List.set_cons_succ])
      refine oneR (i:=8) (by kernel_rfl) rfl (fun K hK=>?_);go_simp;have hb8:Below wr.heap.size wr (wr.drew.alloc (.cells #[.string vp,.string vd,.bool vr] 38)):=((Below.refl _ _).drew).alloc (Nat.le_refl _) _;have hAR8:=hAR7H.out.kp (Kp.of_below (S:=QS q w3.heap.size) hb8);have hC8:(wr.drew.alloc (.cells #[.string vp,.string vd,.bool vr] 38)).cell? ⟨q,3,none⟩=some (.slice A7 j c7)∧(wr.drew.alloc (.cells #[.string vp,.string vd,.bool vr] 38)).cell? ⟨n+3,8,none⟩=some (.map (some (n+2)))∧(Instr.lookup 53 (.map (some (n+2))) (.string t) false).run Tryz.prog (wr.drew.alloc (.cells #[.string vp,.string vd,.bool vr] 38)) = .ok (.agg #[.string vp,.string vd,.bool vr]) (wr.drew.alloc (.cells #[.string vp,.string vd,.bool vr] 38)):=⟨keepC hb8 q3,hAR8.cells.2.1,hlkH.out _ hAR8⟩;refine hK.out _ _ ⟨fun _ _ _=>trivial,fun _ _=>hC8⟩ ?_;clear hK K
      (try simp only[Act.put,List.setIfInBounds_toArray,List.set_cons_zero,List.set_cons_succ])
      have hj1:j+1≤S.length:=by omega
      have hltk:((S.take j).map (lkE s3)).length=j:=by rw[List.length_map,List.length_take];omega
      have hown8:=hown7H.out.below hb8;have hnew:=slAt_new (R:=RLk) wr.drew 38 (⟨vp,vd,vr⟩:Lk) trivial;have hszb:=hb8.size;obtain⟨hown8H,hnewH,hAR8H,hb8H,hltkH⟩:=hqb hown8 hnew hAR8 hb8 (Lib.hid hltk);clear hown8 hnew hAR8 hb8 hltk;refine oneR (i:=9) (by kernel_rfl) rfl (fun K hK=>?_);refine step_app1g (R:=RLk) (base:=w3.heap.size) (v:=.slice A7 j c7) (l:=(S.take j).map (lkE s3)) ?g1 (.tmp 66) (.tmp 73) 28 ?g2 Tryz.underlying28 elem_Look (by decide) ?g3 hown8H.out wr.heap.size ⟨vp,vd,vr⟩ ?g4 hnewH.out (fun _ _ _ _ h=>h) ?a4 ?a5 ?a6 (j+1) ?a7 ?_
      case g1=>rfl
      case g2=>rfl
      case g3=>rfl
      case g4=>rfl
      case a4=>rw[hltkH.out];unfold maxLen;omega
      case a5=>rw[hltkH.out];omega
      case a6=>exact Nat.le_trans hqs hszb
      case a7=>rw[hltkH.out]
      intro A9 c9 w9 hown9 hg9 hd9;have hqB:=hAR7H.out.qB;have hob:∀ b,(Value.slice A7 j c7).ownBlock=some b→w3.heap.size≤b:=fun b hb=>(hown7H.out.1.lt b hb).1;have hkg:Kp (fun b=>(Value.slice A7 j c7).ownBlock=some b) (wr.drew.alloc (.cells #[.string vp,.string vd,.bool vr] 38)) w9:=Kp.of_grown hg9 fun b hb=>hb;have hk78:Kp (QS q w3.heap.size) w3 w9:=(hk7H.out.trans (Kp.of_below (S:=QS q w3.heap.size) hb8H.out)).trans (hkg.mono fun b _ hb=>.inr (hob b hb));have hz8:=blk_below hz7H.out (by simp) hb8H.out;have hz9:Blk w9 q [.int .i64 rc,.string s3.told,.slice none 0 0,.slice A7 j c7,.int .i64 rk]:=hkg.blk hz8 (by simp) (fun e=>by have:=hob q e;omega);have hAR9:=hAR8H.out.kp (hkg.mono fun b _ hb=>.inr (hob b hb));have hzF:=hz9.set (k:=3) (by simp) (.slice A9 (j+1) c9);have hkF:Kp (fun b=>b=q) w9 (w9.setCell ⟨q,3,none⟩ (.slice A9 (j+1) c9)):=(Kp.refl (fun b=>b=q) w9).setCell (a:=⟨q,3,none⟩) (.inr rfl) _;have hARF:=hAR9.kp (hkF.mono fun b _ e=>.inl e);have hownF:Own RLk 38 (w9.setCell ⟨q,3,none⟩ (.slice A9 (j+1) c9)) w3.heap.size (.slice A9 (j+1) c9) ((S.take (j+1)).map (lkE s3)):=by
       have e:(S.take (j+1)).map (lkE s3)=(S.take j).map (lkE s3) ++ [⟨vp,vd,vr⟩]:=by rw[List.take_add_one,htH.out];simp[hleH.out]
       rw[e];exact hkF.own hown9 (fun b hb e=>by have:=(hown9.1.lt b hb).1;omega) (fun _ h=>h)
      have hslF:SlAt RStr (w9.setCell ⟨q,3,none⟩ (.slice A9 (j+1) c9)) (some ⟨b7,o7,none⟩) k6 S :=
       hkF.slAt (hkg.slAt (hsl7H.out.below hb8H.out) (fun h0 ad hA hs=>(hfar7H.out h0 ad hA).2 hs) (fun _ h=>h)) (fun h0 ad hA e=>by have:=(hfar7H.out h0 ad hA).1;omega) (fun _ h=>h)
      have R:LkRel n q w3.heap.size x s3 cl3 S (some ⟨b7,o7,none⟩) k6 rc rk w3 (.int .i64 (j+1)) (w9.setCell ⟨q,3,none⟩ (.slice A9 (j+1) c9)):=by
       refine⟨j+1,A9,c9,hj1,by go_num,hARF,hk78.trans (hkF.mono fun b _ e=>.inl e),hzF,hownF,hslF,fun h0 ad hA=>⟨(hfar7H.out h0 ad hA).1,fun h1=>?_⟩⟩
       rcases hd9 _ h1 with h1 | h1
       ·exact(hfar7H.out h0 ad hA).2 h1
       ·injection hA with hA;subst hA;exact absurd (Nat.le_trans hszb h1) (by show ¬ wr.heap.size≤b7;omega)
      have hC9:w9.cell? ⟨q,3,none⟩=some (.slice A7 j c7)∧w9.cell? ⟨n+3,8,none⟩=some (.map (some (n+2)))∧(Instr.lookup 53 (.map (some (n+2))) (.string t) false).run Tryz.prog w9 = .ok (.agg #[.string vp,.string vd,.bool vr]) w9:=⟨(hz9 3 _ rfl).1,hAR9.cells.2.1,hlkH.out _ hAR9⟩;have f9:=(hz9 3 _ rfl).2;clear hzF hkF hARF hownF hslF hk78 hkg hz8 hob hown9 hg9 hd9;obtain⟨RH,hz9H,hAR9H⟩:=hq2 R (hq2 hz9 (Lib.hid hAR9));clear R hz9 hAR9;refine hK.out _ _ ⟨fun _ _ _=>trivial,fun _ _=>hC9⟩ ?_;clear hK K
      (try simp only[Act.put,List.setIfInBounds_toArray,List.set_cons_zero,List.set_cons_succ])
      clear hC hC8;have hC:=hC9;refine takeC (i:=10) (d:=some 75) (v:=?_) rfl rfl (by kernel_rfl) (by kernel_rfl) (by kernel_rfl) (by kernel_rfl) (fun _ _ _ h=>h) (Or.inl ⟨by rfl,?_⟩) hC ?_
      rotate_left
      ·(intro w hSw;(try dsimp only at hSw);go_simp;(try with_reducible rfl))
      (try simp only[Act.put,List.setIfInBounds_toArray,List.set_cons_zero,List.set_cons_succ])
      refine oneR (i:=11) (by kernel_rfl) rfl (fun K hK=>?_);go_simp;refine hK.out _ _ ⟨fun h=>absurd rfl h,fun h=>absurd rfl h⟩ ?_;clear hK K
      (try simp only[Act.put,List.setIfInBounds_toArray,List.set_cons_zero,List.set_cons_succ])
      refine doneR (by kernel_rfl) ?_ _;clear hC hC9 hlkd q3 q8;go_wp2;refine⟨?rel,?measure⟩
      case measure=>(simp[intOf];omega)
      case rel=>first | exact RH.out | exact⟨rfl,RH.out⟩
     ·obtain rfl:j=k6:=by omega
      have eS:S.take j=S:=List.take_of_length_le (by omega);rw[eS]at hown7;clear eS;have q0:=(hz7 0 _ rfl).1
      by_cases hrc:rc=0
      ·subst hrc;have t7:=hAR7.cells.1;obtain⟨g,hg,hg2⟩:=hAR7.fo;have hB7:=hAR7.le;obtain⟨hAR7H,hk7H,hz7H,hown7H,hsl7H,hfar7H,hgH,hg2H⟩:=hq2 hAR7 (hq2 hk7 (hq2 hz7 (hqb hown7 hsl7 hfar7 hg (Lib.hid hg2))));clear hAR7 hk7 hz7 hown7 hsl7 hfar7 hg hg2;go_wp2_with fail;refine(keys_f (some (n+1)) wr).mono ?_;rintro e w8 ⟨rfl,rfl⟩;go_wp2_with fail;refine(sorted_f (n+1) s3.nw wr hgH.out (by omega)).mono ?_;rintro e w9 ⟨A9,k9,c9,Q,rfl,hown9,hri9,hmem9,hSl9,hb9⟩;have hkb:Kp (QS q w3.heap.size) wr w9:=Kp.of_below hb9;have hk9:=hk7H.out.trans hkb;have hAR9:=hAR7H.out.kp hkb;have hz9:=blk_below hz7H.out (by simp) hb9;have hlo:=hAR7H.out.lo;have hqB:=hAR7H.out.qB;have hg9:=hkb.tmap hgH.out (fun e=>by rcases e with e | e <;> omega);have hf9:=hg2H.out.kp hkb;have hoL9:=hown7H.out.below hb9;have hm9:=hown9.len;have hst3:FxRel n q w3.heap.size x s3 cl3 g Q A9 k9 A7 j c7 (S.map (lkE s3)) 0 rk w3 (.int .i64 0) w9:=⟨0,none,0,[],Nat.zero_le _,rfl,hAR9,hg9,hf9,hk9,hz9,Own.nil _ _,rfl,(fun y hy=>by cases hy),hoL9,(fun b hb=>by cases hb),hown9.slAt,fun _ ad hA=>⟨by have:=(own_capx hown9).2.2 ad hA;omega,fun h=>by cases h⟩⟩;have hQm:∀ t∈Q,t.size≤maxLen∧(g t).isSome=true:=fun t ht=>⟨hown9.2 t ht,(hmem9 t (hown9.2 t ht)).1 ht⟩;have hQw:∀ t,t.size≤maxLen→(t∈Q↔(s3.wr t).isSome=true):=fun t ht=>by
        rw[hmem9 t ht]
        rcases hg2H.out t with ⟨h1,h2⟩ | ⟨v,y,h1,h2,_⟩
        ·rw[h1,h2];exact⟨fun h=>by(cases h),fun h=>by(cases h)⟩
        ·rw[h1,h2];exact⟨fun _=>rfl,fun _=>rfl⟩
       have hk91:k9≤50:=by omega
       clear hb9 hkb hmem9;obtain⟨hown9H,hri9H,hk9H,hAR9H,hz9H,hg9H,hf9H,hoL9H,hst3H,hQmH,hQwH⟩:=hq2 hown9 (hq2 hri9 (hqc hk9 hAR9 hz9 hg9 hf9 hoL9 hst3 hQm (Lib.hid hQw)));clear hown9 hri9 hk9 hAR9 hz9 hg9 hf9 hoL9 hst3 hQm hQw;clear hsl7H hfar7H hk7H hAR7H hz7H hown7H;go_wp2_with fail;clear t7 q0
       go_loopw [87] (fun i wr=>FxRel n q w3.heap.size x s3 cl3 g Q A9 k9 A7 j c7 (S.map (lkE s3)) 0 rk w3 i wr) (fun i _=>k9-(intOf i).toNat)
       case atStart=>exact hst3H.out
       case round =>
        clear hst3H;obtain⟨i,A2,c2,fs,hi,rfl,hAR2,hg2,hf2,hk2,hz2,hown2,hfl2,hbt2,hoL2,hdis2,hsl2,hfar2⟩:=hrel;have him:i≤k9:=by omega
        by_cases hlt2:i<k9
        ·obtain⟨t,ht⟩:∃ t,Q[i]? = some t:=⟨Q[i]'(by omega),List.getElem?_eq_getElem _⟩;obtain⟨b7,o7,hA7,_⟩:=hsl2.2.1 (by omega);subst hA7;have cy:=cell_Str hsl2 ht;obtain⟨htz,htg⟩:=hQmH.out t (List.mem_of_getElem? ht);obtain⟨v,y,hgt,hwt,hfy⟩:∃ v y,g t=some v∧s3.wr t=some y∧FileIn (QS q w3.heap.size) wr t v y:=by
          rcases hf2 t with ⟨h1,_⟩ | h
          ·rw[h1]at htg;cases htg
          ·exact h
         have hlk:∀ W,TMap KS valF W (n+1) g s3.nw→(Instr.lookup 52 (.map (some (n+1))) (.string t) false).run Tryz.prog W = .ok (.agg #[.string v.path,.bool v.run,.slice v.A v.n v.cap]) W:=fun W hW=>(lookF hW htz v true (.inl ⟨rfl,hgt⟩)).2;obtain⟨vp,vr,vA,vn,vc⟩:=v;obtain⟨hfp,hfr,hfb,hflen⟩:=hfy;simp only at hlk hfp hfr hfb;have hbd:Kp (QS q w3.heap.size) wr wr.drew:=Kp.of_below (Below.refl wr.heap.size wr).drew;have hlo:=hAR2.lo;have hqB:=hAR2.qB;have hn1:¬ QS q w3.heap.size (n+1):=fun e=>by rcases e with e | e <;> omega
         have hgd:=hbd.tmap hg2 hn1;have hlkd:=hlk _ hgd;have hqs:=hAR2.le;have q2:=(hz2 2 _ rfl).1;have q7:=hAR2.cells.1;have hfl7:b7<wr.heap.size:=slAt_ltN hsl2 (by omega);have hfo:flat (⟨vp,vr,⟨vA,vn,vc,y.bs⟩⟩:File)=flatW s3 t:=by unfold flat flatW;rw[hwt];simp only[Option.getD_some];rw[hfp,hfr]
         have hyok:RFile.ok wr (⟨vp,vr,⟨vA,vn,vc,y.bs⟩⟩:File):=⟨by show vp.size≤maxLen;rw[hfp];exact htz,trivial,hfb.1⟩;obtain⟨hAR2H,hg2H,hf2H,hk2H,hz2H,hown2H,hfl2H,hbt2H,hoL2H,hdis2H,hsl2H,hfar2H,htH,hlkH,hfbH,hbdH,hgdH,hn1H,hfoH,hyokH⟩:=hq2 hAR2 (hq2 hg2 (hq2 hf2 (hqc hk2 hz2 hown2 hfl2 hbt2 hoL2 hdis2 hsl2 (hqc hfar2 ht hlk hfb hbd hgd hn1 hfo (Lib.hid hyok)))));clear hAR2 hg2 hf2 hk2 hz2 hown2 hfl2 hbt2 hoL2 hdis2 hsl2 hfar2 ht hlk hfb hbd hgd hn1 hfo hyok;clear hwt hgt hfp hfr htg;go_wp2_with fail;refine startR (R:=Rk (fun _=>True) (fun w'=>w'.cell? ⟨q,2,none⟩=some (.slice A2 i c2)∧w'.cell? ⟨n+3,7,none⟩=some (.map (some (n+1)))∧(Instr.lookup 52 (.map (some (n+1))) (.string t) false).run Tryz.prog w' = .ok (.agg #[.string vp,.bool vr,.slice vA vn vc]) w') 11 11) (by kernel_rfl) ?_;have hC:wr.drew.cell? ⟨q,2,none⟩=some (.slice A2 i c2)∧wr.drew.cell? ⟨n+3,7,none⟩=some (.map (some (n+1)))∧(Instr.lookup 52 (.map (some (n+1))) (.string t) false).run Tryz.prog wr.drew = .ok (.agg #[.string vp,.bool vr,.slice vA vn vc]) wr.drew:=⟨q2,q7,hlkd⟩;refine takeC (i:=0) (d:=some 91) (v:=?_) rfl rfl (by kernel_rfl) (by kernel_rfl) (by kernel_rfl) (by kernel_rfl) (fun _ _ _ h=>h) (Or.inl ⟨by rfl,?_⟩) hC ?_
         rotate_left
         ·(intro w hSw;(try dsimp only at hSw);go_simp;(try with_reducible rfl))
         (try simp only[Act.put,List.setIfInBounds_toArray,List.set_cons_zero,List.set_cons_succ])
         refine takeC (i:=1) (d:=some 92) (v:=?_) rfl rfl (by kernel_rfl) (by kernel_rfl) (by kernel_rfl) (by kernel_rfl) (fun _ _ _ h=>h) (Or.inl ⟨by rfl,?_⟩) hC ?_
         rotate_left
         ·(intro w hSw;(try dsimp only at hSw);go_simp;(try with_reducible rfl))
         (try simp only[Act.put,List.setIfInBounds_toArray,List.set_cons_zero,List.set_cons_succ])
         refine takeC (i:=2) (d:=some 93) (v:=?_) rfl rfl (by kernel_rfl) (by kernel_rfl) (by kernel_rfl) (by kernel_rfl) (fun _ _ _ h=>h) (Or.inl ⟨by rfl,?_⟩) hC ?_
         rotate_left
         ·(intro w hSw;(try dsimp only at hSw);go_simp;(try with_reducible rfl))
         (try simp only[Act.put,List.setIfInBounds_toArray,List.set_cons_zero,List.set_cons_succ])
         refine takeC (i:=3) (d:=some 94) (v:=?_) rfl rfl (by kernel_rfl) (by kernel_rfl) (by kernel_rfl) (by kernel_rfl) (fun _ _ _ h=>h) (Or.inl ⟨by rfl,?_⟩) hC ?_
         rotate_left
         ·(intro w hSw;(try dsimp only at hSw);go_simp;(try with_reducible rfl))
         (try simp only[Act.put,List.setIfInBounds_toArray,List.set_cons_zero,List.set_cons_succ])
         refine takeC (i:=4) (d:=some 95) (v:=?_) rfl rfl (by kernel_rfl) (by kernel_rfl) (by kernel_rfl) (by kernel_rfl) (fun _ _ _ h=>h) (Or.inl ⟨by rfl,?_⟩) hC ?_
         rotate_left
         ·(intro w hSw;(try dsimp only at hSw);go_simp;(try with_reducible rfl))
         (try simp only[Act.put,List.setIfInBounds_toArray,List.set_cons_zero,List.set_cons_succ])
         refine takeC (i:=5) (d:=some 96) (v:=?_) rfl rfl (by kernel_rfl) (by kernel_rfl) (by kernel_rfl) (by kernel_rfl) (fun _ _ _ h=>h) (Or.inl ⟨by rfl,?_⟩) hC ?_
         rotate_left
         ·(intro w hSw;(try dsimp only at hSw);go_simp;(try with_reducible rfl))
         (try simp only[Act.put,List.setIfInBounds_toArray,List.set_cons_zero,List.set_cons_succ])
         refine takeC (i:=6) (d:=some 97) (v:=?_) rfl rfl (by kernel_rfl) (by kernel_rfl) (by kernel_rfl) (by kernel_rfl) (fun _ _ _ h=>h) (Or.inl ⟨by rfl,?_⟩) hC ?_
         rotate_left
         ·(intro w hSw;(try dsimp only at hSw);go_simp;(try with_reducible rfl))
         (try simp only[Act.put,List.setIfInBounds_toArray,List.set_cons_zero,List.set_cons_succ])
         refine takeC (i:=7) (d:=some 98) (v:=?_) rfl rfl (by kernel_rfl) (by kernel_rfl) (by kernel_rfl) (by kernel_rfl) (fun _ _ _ h=>h) (Or.inl ⟨by rfl,?_⟩) hC ?_
         rotate_left
         ·(intro w hSw;(try dsimp only at hSw);go_simp;(try with_reducible rfl))
         (try simp only[Act.put,List.setIfInBounds_toArray,List.set_cons_zero,List.set_cons_succ])
         refine oneR (i:=8) (by kernel_rfl) rfl (fun K hK=>?_);go_simp;have hb8:Below wr.heap.size wr (wr.drew.alloc (.cells #[.string vp,.bool vr,.slice vA vn vc] 58)):=((Below.refl _ _).drew).alloc (Nat.le_refl _) _;have hkb8:Kp (QS q w3.heap.size) wr _:=Kp.of_below hb8;have hAR8:=hAR2H.out.kp hkb8;have hg8:=hkb8.tmap hg2H.out hn1H.out;have hC8:(wr.drew.alloc (.cells #[.string vp,.bool vr,.slice vA vn vc] 58)).cell? ⟨q,2,none⟩=some (.slice A2 i c2)∧(wr.drew.alloc (.cells #[.string vp,.bool vr,.slice vA vn vc] 58)).cell? ⟨n+3,7,none⟩=some (.map (some (n+1)))∧(Instr.lookup 52 (.map (some (n+1))) (.string t) false).run Tryz.prog (wr.drew.alloc (.cells #[.string vp,.bool vr,.slice vA vn vc] 58)) = .ok (.agg #[.string vp,.bool vr,.slice vA vn vc]) (wr.drew.alloc (.cells #[.string vp,.bool vr,.slice vA vn vc] 58)):=⟨keepC hb8 q2,hAR8.cells.1,hlkH.out _ hg8⟩;refine hK.out _ _ ⟨fun _ _ _=>trivial,fun _ _=>hC8⟩ ?_;clear hK K
         (try simp only[Act.put,List.setIfInBounds_toArray,List.set_cons_zero,List.set_cons_succ])
         have hj1:i+1≤Q.length:=by omega
         have hltk:fs.length=i:=hown2H.out.len;have hown8:=hown2H.out.below hb8;have hnew:=slAt_new (R:=RFile) wr.drew 58 (⟨vp,vr,⟨vA,vn,vc,y.bs⟩⟩:File) (RFile.mono _ _ _ (Below.refl wr.heap.size wr).drew hyokH.out);have hszb:=hb8.size;have hbt8:∀ z∈fs ++ [(⟨vp,vr,⟨vA,vn,vc,y.bs⟩⟩:File)],BtsF (QS q w3.heap.size) (wr.drew.alloc (.cells #[.string vp,.bool vr,.slice vA vn vc] 58)) z:=fun z hz=>by
          rcases List.mem_append.1 hz with h | h
          ·exact Bts.kp (hbt2H.out z h) hkb8
          ·rw[List.mem_singleton]at h;rw[h];exact Bts.kp hfbH.out hkb8
         have hob:∀ b,(Value.slice A2 i c2).ownBlock=some b→w3.heap.size≤b:=fun b hb=>(hown2H.out.1.lt b hb).1;obtain⟨hown8H,hnewH,hAR8H,hg8H,hb8H,hkb8H,hltkH,hbt8H,hobH⟩:=hqc hown8 hnew hAR8 hg8 hb8 hkb8 hltk hbt8 (Lib.hid hob);clear hown8 hnew hAR8 hg8 hb8 hkb8 hltk hbt8 hob;refine oneR (i:=9) (by kernel_rfl) rfl (fun K hK=>?_);refine step_app1g (R:=RFile) (base:=w3.heap.size) (v:=.slice A2 i c2) (l:=fs) ?g1 (.tmp 92) (.tmp 99) 27 ?g2 Tryz.underlying27 elem_File (by decide) ?g3 hown8H.out wr.heap.size ⟨vp,vr,⟨vA,vn,vc,y.bs⟩⟩ ?g4 hnewH.out (fun w' hg z hz ho=>(hbt8H.out z hz).ok (Kp.of_grown hg fun b hb=>.inr (hobH.out b hb)) ho) ?a4 ?a5 ?a6 (i+1) ?a7 ?_
         case g1=>rfl
         case g2=>rfl
         case g3=>rfl
         case g4=>rfl
         case a4=>rw[hltkH.out];unfold maxLen;omega
         case a5=>rw[hltkH.out];omega
         case a6=>exact Nat.le_trans hqs hszb
         case a7=>rw[hltkH.out]
         intro A9 c9 w9 hown9 hg9 hd9;have hqB:=hAR2H.out.qB;have hkg:Kp (fun b=>(Value.slice A2 i c2).ownBlock=some b) (wr.drew.alloc (.cells #[.string vp,.bool vr,.slice vA vn vc] 58)) w9:=Kp.of_grown hg9 fun b hb=>hb;have hkgQ:Kp (QS q w3.heap.size) (wr.drew.alloc (.cells #[.string vp,.bool vr,.slice vA vn vc] 58)) w9:=hkg.mono fun b _ hb=>.inr (hobH.out b hb);have hkF:Kp (fun b=>b=q) w9 (w9.setCell ⟨q,2,none⟩ (.slice A9 (i+1) c9)):=(Kp.refl (fun b=>b=q) w9).setCell (a:=⟨q,2,none⟩) (.inr rfl) _;have hkFQ:Kp (QS q w3.heap.size) w9 (w9.setCell ⟨q,2,none⟩ (.slice A9 (i+1) c9)):=hkF.mono fun b _ e=>.inl e;have hkAll:=(hkb8H.out.trans hkgQ).trans hkFQ;have hz8:=blk_below hz2H.out (by simp) hb8H.out;have hz9:Blk w9 q [.int .i64 0,.string s3.told,.slice A2 i c2,.slice A7 j c7,.int .i64 rk]:=hkg.blk hz8 (by simp) (fun e=>by have:=hobH.out q e;omega);have hAR9:=hAR8H.out.kp hkgQ;have hg9b:=hkgQ.tmap hg8H.out hn1H.out;have hzF:=hz9.set (k:=2) (by simp) (.slice A9 (i+1) c9);have hownF:Own RFile 58 (w9.setCell ⟨q,2,none⟩ (.slice A9 (i+1) c9)) w3.heap.size (.slice A9 (i+1) c9) (fs ++ [⟨vp,vr,⟨vA,vn,vc,y.bs⟩⟩]) :=
          hkF.ownM hown9 (fun b hb e=>by have e:b=q:=e;have:=(hown9.1.lt b hb).1;omega) (fun z hz ho=>(show BtsF (QS q w3.heap.size) w9 z from Bts.kp (hbt8H.out z hz) hkgQ).ok hkFQ ho)
         have hoL9:=hkg.own (hoL2H.out.below hb8H.out) (fun b hb hs=>hdis2H.out b hs hb) (fun _ h=>h);have hoLF:=hkF.own hoL9 (fun b hb e=>by have e:b=q:=e;have:=(hoL2H.out.1.lt b hb).1;omega) (fun _ h=>h);have hslF:SlAt RStr (w9.setCell ⟨q,2,none⟩ (.slice A9 (i+1) c9)) (some ⟨b7,o7,none⟩) k9 Q :=
          hkF.slAt (hkg.slAt (hsl2H.out.below hb8H.out) (fun h0 ad hA hs=>(hfar2H.out h0 ad hA).2 hs) (fun _ h=>h)) (fun h0 ad hA e=>by have:=(hfar2H.out h0 ad hA).1;omega) (fun _ h=>h)
         have R:FxRel n q w3.heap.size x s3 cl3 g Q (some ⟨b7,o7,none⟩) k9 A7 j c7 (S.map (lkE s3)) 0 rk w3 (.int .i64 (i+1)) (w9.setCell ⟨q,2,none⟩ (.slice A9 (i+1) c9)):=by
          refine⟨i+1,A9,c9,_,hj1,by go_num,hAR9.kp hkFQ,hkFQ.tmap hg9b hn1H.out,hf2H.out.kp hkAll,hk2H.out.trans hkAll,hzF,hownF,?_,fun z hz=>Bts.kp (hbt8H.out z hz) (hkgQ.trans hkFQ),hoLF,fun b hb hL=>?_,hslF,fun h0 ad hA=>⟨(hfar2H.out h0 ad hA).1,fun h1=>?_⟩⟩
          ·rw[List.map_append,hfl2H.out,List.take_add_one,htH.out];simp[hfoH.out]
          ·rcases hd9 _ hb with h1 | h1
           ·exact hdis2H.out b h1 hL
           ·exact absurd (Nat.le_trans hszb h1) (by have:=(hoL2H.out.1.lt b hL).2;omega)
          ·rcases hd9 _ h1 with h1 | h1
           ·exact(hfar2H.out h0 ad hA).2 h1
           ·injection hA with hA;subst hA;exact absurd (Nat.le_trans hszb h1) (by show ¬ wr.heap.size≤b7;omega)
         have hC9:w9.cell? ⟨q,2,none⟩=some (.slice A2 i c2)∧w9.cell? ⟨n+3,7,none⟩=some (.map (some (n+1)))∧(Instr.lookup 52 (.map (some (n+1))) (.string t) false).run Tryz.prog w9 = .ok (.agg #[.string vp,.bool vr,.slice vA vn vc]) w9:=⟨(hz9 2 _ rfl).1,hAR9.cells.1,hlkH.out _ hg9b⟩;have f9:=(hz9 2 _ rfl).2;clear hzF hkF hownF hslF hkg hz8 hown9 hg9 hd9 hoL9 hoLF hkgQ hkFQ hkAll hg9b;obtain⟨RH,hz9H,hAR9H⟩:=hq2 R (hq2 hz9 (Lib.hid hAR9));clear R hz9 hAR9;refine hK.out _ _ ⟨fun _ _ _=>trivial,fun _ _=>hC9⟩ ?_;clear hK K
         (try simp only[Act.put,List.setIfInBounds_toArray,List.set_cons_zero,List.set_cons_succ])
         clear hC hC8;have hC:=hC9;refine takeC (i:=10) (d:=some 101) (v:=?_) rfl rfl (by kernel_rfl) (by kernel_rfl) (by kernel_rfl) (by kernel_rfl) (fun _ _ _ h=>h) (Or.inl ⟨by rfl,?_⟩) hC ?_
         rotate_left
         ·(intro w hSw;(try dsimp only at hSw);go_simp;(try with_reducible rfl))
         (try simp only[Act.put,List.setIfInBounds_toArray,List.set_cons_zero,List.set_cons_succ])
         refine oneR (i:=11) (by kernel_rfl) rfl (fun K hK=>?_);go_simp;refine hK.out _ _ ⟨fun h=>absurd rfl h,fun h=>absurd rfl h⟩ ?_;clear hK K
         (try simp only[Act.put,List.setIfInBounds_toArray,List.set_cons_zero,List.set_cons_succ])
         refine doneR (by kernel_rfl) ?_ _;clear hC hC9 hlkd q2 q7;go_wp2;refine⟨?rel,?measure⟩
         case measure=>(simp[intOf];omega)
         case rel=>first | exact RH.out | exact⟨rfl,RH.out⟩
        ·obtain rfl:i=k9:=by omega
         have eQ:Q.take i=Q:=List.take_of_length_le (by omega);rw[eQ]at hfl2;clear eQ;have hARfin:=hAR2;have hzq:=hz2;have hkX:=hk2;obtain⟨b0,_⟩:=hzq 0 _ rfl;obtain⟨b1,_⟩:=hzq 1 _ rfl;obtain⟨b2,_⟩:=hzq 2 _ rfl;obtain⟨b3,_⟩:=hzq 3 _ rfl;obtain⟨b4,_⟩:=hzq 4 _ rfl;have hlo:=hARH.out.lo;have hqB5:=hARH.out.qB;have hxw:wr.heap[w.heap.size+1]? = some RB:=(hkX.block _ (by omega) (fun e=>by rcases e with e | e <;> omega)).trans hx3H.out;have hnf:∀ z:File,BtsF (QS q w3.heap.size) wr z→BtsF (fun b=>b=w.heap.size+1) wr z:=fun z hz=>bts_not8 hz hxw;have hr4:=hkX.blk hr3H.out (by simp) (fun e=>by have:=hARH.out.qB;rcases e with e | e <;> omega);obtain⟨u0,v0⟩:=hr4 0 _ rfl;obtain⟨u1,v1⟩:=hr4 1 _ rfl;obtain⟨u2,v2⟩:=hr4 2 _ rfl;obtain⟨u3,v3⟩:=hr4 3 _ rfl;obtain⟨u4,v4⟩:=hr4 4 _ rfl;have hr5:=blk5 hr4 (.int .i64 0) (.string s3.told) (.slice A2 i c2) (.slice A7 j c7) (.int .i64 rk);have hkZ:Kp (fun b=>b=w.heap.size+1) wr _:=(((((Kp.refl (fun b=>b=w.heap.size+1) wr).setCell (a:=⟨w.heap.size+1,0,none⟩) (.inr rfl) (.int .i64 0)).setCell (a:=⟨w.heap.size+1,1,none⟩) (.inr rfl) (.string s3.told)).setCell (a:=⟨w.heap.size+1,2,none⟩) (.inr rfl) (.slice A2 i c2)).setCell (a:=⟨w.heap.size+1,3,none⟩) (.inr rfl) (.slice A7 j c7)).setCell (a:=⟨w.heap.size+1,4,none⟩) (.inr rfl) (.int .i64 rk);have hbF:Below w.heap.size w wr:=hbW3H.out.trans (hk2.below (by have:=hbW3H.out.size;omega) (fun b e=>by have:=hARH.out.qB;have:=hbW3H.out.size;rcases e with e | e <;> omega));have hbG:=hbF.trans (hkZ.below (by have:=hbF.size;omega) (fun b e=>by omega))
         have hoL:=hkZ.own hoL2 (fun b hb e=>by have e:b=w.heap.size+1:=e;have:=(hoL2.1.lt b hb).1;have:=hARH.out.qB;omega) (fun _ h=>h);have hoF:=hkZ.ownM hown2 (fun b hb e=>by have e:b=w.heap.size+1:=e;have:=(hown2.1.lt b hb).1;have:=hARH.out.qB;omega) (fun z hz ho=>(hnf z (hbt2 z hz)).ok hkZ ho);have R:=hZ'H.out _ _ (Or.inr ⟨((0,rk),s3),A2,A7,i,c2,j,c7,fs,Q,S,hokH.out,rfl,⟨hoF.slAt,hoF.cap_le,(own_capx hoF).2.1,(own_capx hoF).1⟩,⟨hoL.slAt,hoL.cap_le,(own_capx hoL).2.1,(own_capx hoL).1⟩,hri9H.out,hriH.out,hfl2,⟨by omega,hown6H.out.2⟩,hmemH.out,.inl ⟨rfl,hQwH.out⟩,fun h=>by rw[hr0H.out];exact hnoH.out h,hbG⟩);clear hbF hoL hoF hkX hzq hr4 hnf hxw;obtain⟨hAR2H,hg2H,hf2H,hk2H,hz2H,hown2H,hfl2H,hbt2H,hoL2H,hdis2H,hsl2H,hfar2H,hr5H,hkZH,hbGH,RH⟩:=hq2 hAR2 (hq2 hg2 (hq2 hf2 (hqb hk2 hz2 hown2 hfl2 (hqc hbt2 hoL2 hdis2 hsl2 hfar2 hr5 hkZ hbG (Lib.hid R)))));clear hAR2 hg2 hf2 hk2 hz2 hown2 hfl2 hbt2 hoL2 hdis2 hsl2 hfar2 hr5 hkZ hbG R;go_wp2_with fail;have hr5:=hr5H.out;have R:=RH.out;clear hr5H RH hbGH hkZH u0 u1 u2 u3 u4 v0 v1 v2 v3 v4 b0 b1 b2 b3 b4
         generalize ((((wr.setCell ⟨w.heap.size+1,0,none⟩ (.int .i64 0)).setCell ⟨w.heap.size+1,1,none⟩ (.string s3.told)).setCell ⟨w.heap.size+1,2,none⟩ (.slice A2 i c2)).setCell ⟨w.heap.size+1,3,none⟩ (.slice A7 j c7)).setCell ⟨w.heap.size+1,4,none⟩ (.int .i64 rk)=wE at hr5 R ⊢
         obtain⟨g0,_⟩:=hr5 0 _ rfl;obtain⟨g1,_⟩:=hr5 1 _ rfl;obtain⟨g2,_⟩:=hr5 2 _ rfl;obtain⟨g3,_⟩:=hr5 3 _ rfl;obtain⟨g4,_⟩:=hr5 4 _ rfl;exact bodyPost_ret (v:=.tuple #[.agg #[.int .i64 0,.string s3.told,(.slice A2 i c2),(.slice A7 j c7),.int .i64 rk],.int .i64 0]) (by simp[results,Tryz.results5,go_sem,g0,g1,g2,g3,g4]) rfl R
      ·have hne:(rc==0)=false:=by simpa using hrc
       have hzq:=hz7;have hkX:=hk7;obtain⟨b0,_⟩:=hzq 0 _ rfl;obtain⟨b1,_⟩:=hzq 1 _ rfl;obtain⟨b2,_⟩:=hzq 2 _ rfl;obtain⟨b3,_⟩:=hzq 3 _ rfl;obtain⟨b4,_⟩:=hzq 4 _ rfl;have hlo:=hARH.out.lo;have hqB5:=hARH.out.qB;have hxw:wr.heap[w.heap.size+1]? = some RB:=(hkX.block _ (by omega) (fun e=>by rcases e with e | e <;> omega)).trans hx3H.out;have hnf:∀ z:File,BtsF (QS q w3.heap.size) wr z→BtsF (fun b=>b=w.heap.size+1) wr z:=fun z hz=>bts_not8 hz hxw;have hr4:=hkX.blk hr3H.out (by simp) (fun e=>by have:=hARH.out.qB;rcases e with e | e <;> omega);obtain⟨u0,v0⟩:=hr4 0 _ rfl;obtain⟨u1,v1⟩:=hr4 1 _ rfl;obtain⟨u2,v2⟩:=hr4 2 _ rfl;obtain⟨u3,v3⟩:=hr4 3 _ rfl;obtain⟨u4,v4⟩:=hr4 4 _ rfl;have hr5:=blk5 hr4 (.int .i64 rc) (.string s3.told) (.slice none 0 0) (.slice A7 j c7) (.int .i64 rk);have hkZ:Kp (fun b=>b=w.heap.size+1) wr _:=(((((Kp.refl (fun b=>b=w.heap.size+1) wr).setCell (a:=⟨w.heap.size+1,0,none⟩) (.inr rfl) (.int .i64 rc)).setCell (a:=⟨w.heap.size+1,1,none⟩) (.inr rfl) (.string s3.told)).setCell (a:=⟨w.heap.size+1,2,none⟩) (.inr rfl) (.slice none 0 0)).setCell (a:=⟨w.heap.size+1,3,none⟩) (.inr rfl) (.slice A7 j c7)).setCell (a:=⟨w.heap.size+1,4,none⟩) (.inr rfl) (.int .i64 rk);have hbF:Below w.heap.size w wr:=hbW3H.out.trans (hk7.below (by have:=hbW3H.out.size;omega) (fun b e=>by have:=hARH.out.qB;have:=hbW3H.out.size;rcases e with e | e <;> omega));have hbG:=hbF.trans (hkZ.below (by have:=hbF.size;omega) (fun b e=>by omega));have hoL:=hkZ.own hown7 (fun b hb e=>by have e:b=w.heap.size+1:=e;have:=(hown7.1.lt b hb).1;have:=hARH.out.qB;omega) (fun _ h=>h)
       have R:=hZ'H.out _ _ (Or.inr ⟨((rc,rk),s3),none,A7,0,0,j,c7,[],[],S,hokH.out,rfl,⟨⟨rfl,fun h=>absurd h (by show ¬ 0<0;omega),fun y hy=>by cases hy⟩,Nat.le_refl _,Nat.zero_le _,fun _=>rfl⟩,⟨hoL.slAt,hoL.cap_le,(own_capx hoL).2.1,(own_capx hoL).1⟩,by rw[Rising];exact List.Pairwise.nil,hriH.out,rfl,⟨by omega,hown6H.out.2⟩,hmemH.out,.inr ⟨hrc,rfl⟩,fun h=>by rw[hr0H.out];exact hnoH.out h,hbG⟩);clear hbF hoL hkX hzq hr4 hnf hxw;obtain⟨hAR7H,hk7H,hz7H,hown7H,hsl7H,hfar7H,hr5H,hkZH,hbGH,RH⟩:=hq2 hAR7 (hqc hk7 hz7 hown7 hsl7 hfar7 hr5 hkZ hbG (Lib.hid R));clear hAR7 hk7 hz7 hown7 hsl7 hfar7 hr5 hkZ hbG R;go_wp2_with fail;have hr5:=hr5H.out;have R:=RH.out;clear hr5H RH hbGH hkZH u0 u1 u2 u3 u4 v0 v1 v2 v3 v4 b0 b1 b2 b3 b4
       generalize ((((wr.setCell ⟨w.heap.size+1,0,none⟩ (.int .i64 rc)).setCell ⟨w.heap.size+1,1,none⟩ (.string s3.told)).setCell ⟨w.heap.size+1,2,none⟩ (.slice none 0 0)).setCell ⟨w.heap.size+1,3,none⟩ (.slice A7 j c7)).setCell ⟨w.heap.size+1,4,none⟩ (.int .i64 rk)=wE at hr5 R ⊢
       obtain⟨g0,_⟩:=hr5 0 _ rfl;obtain⟨g1,_⟩:=hr5 1 _ rfl;obtain⟨g2,_⟩:=hr5 2 _ rfl;obtain⟨g3,_⟩:=hr5 3 _ rfl;obtain⟨g4,_⟩:=hr5 4 _ rfl;exact bodyPost_ret (v:=.tuple #[.agg #[.int .i64 rc,.string s3.told,(.slice none 0 0),(.slice A7 j c7),.int .i64 rk],.int .i64 0]) (by simp[results,Tryz.results5,go_sem,g0,g1,g2,g3,g4]) rfl R
 ·have hne:(k==0)=false:=by simpa using hk
  clear hk0;have hr1:=blk_below hr0H.out (by simp) hb1;obtain⟨e0,f0⟩:=hr1 0 _ rfl;obtain⟨e1,f1⟩:=hr1 1 _ rfl;obtain⟨e2,f2⟩:=hr1 2 _ rfl;obtain⟨e3,f3⟩:=hr1 3 _ rfl;obtain⟨e4,f4⟩:=hr1 4 _ rfl;have hr2:=blk5 hr1 (.int .i64 0) (.string ⟨#[]⟩) (.slice none 0 0) (.slice none 0 0) (.int .i64 0);have hbE:=((((hb01.setCell (p:=⟨w.heap.size+1,0,none⟩) (by simp) (.int .i64 0)).setCell (p:=⟨w.heap.size+1,1,none⟩) (by simp) (.string ⟨#[]⟩)).setCell (p:=⟨w.heap.size+1,2,none⟩) (by simp) (.slice none 0 0)).setCell (p:=⟨w.heap.size+1,3,none⟩) (by simp) (.slice none 0 0)).setCell (p:=⟨w.heap.size+1,4,none⟩) (by simp) (.int .i64 0);have R:=hZ'H.out _ _ (Or.inl ⟨k,hk,rfl,hbE⟩);obtain⟨hb1H,hz1H,hb01H,hr1H,hr2H,hbEH,RH⟩:=hq2 hb1 (hq2 hz1 (hqb hb01 hr1 hr2 hbE (Lib.hid R)));clear hb1 hz1 hb01 hr1 hr2 hbE R;go_wp2_with fail;have hr2:=hr2H.out;have R:=RH.out;clear hr2H RH hbEH e0 e1 e2 e3 e4 f0 f1 f2 f3 f4
  generalize ((((w1.setCell ⟨w.heap.size+1,0,none⟩ (.int .i64 0)).setCell ⟨w.heap.size+1,1,none⟩ (.string ⟨#[]⟩)).setCell ⟨w.heap.size+1,2,none⟩ (.slice none 0 0)).setCell ⟨w.heap.size+1,3,none⟩ (.slice none 0 0)).setCell ⟨w.heap.size+1,4,none⟩ (.int .i64 0)=wE at hr2 R ⊢
  obtain⟨g0,_⟩:=hr2 0 _ rfl;obtain⟨g1,_⟩:=hr2 1 _ rfl;obtain⟨g2,_⟩:=hr2 2 _ rfl;obtain⟨g3,_⟩:=hr2 3 _ rfl;obtain⟨g4,_⟩:=hr2 4 _ rfl;exact bodyPost_ret (v:=.tuple #[.agg #[.int .i64 0,.string ⟨#[]⟩,.slice none 0 0,.slice none 0 0,.int .i64 0],.int .i64 k]) (by simp[results,Tryz.results5,go_sem,g0,g1,g2,g3,g4]) rfl R
end Go.Proofs.YtdiaabeollcjaaaGreatDoor.C10