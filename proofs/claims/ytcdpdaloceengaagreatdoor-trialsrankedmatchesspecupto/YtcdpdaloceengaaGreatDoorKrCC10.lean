/-
 Several texts of mine as one, without what is not wanted here: XSee, XVerd, XFlaky, XFam.
-/
import Derived.Test.YtcdpdaloceengaaGreatDoorKrBC10
import Derived.Deep.AppendLies
import Derived.Deep.RegionLaw
set_option linter.unusedVariables false
set_option linter.unusedSimpArgs false
set_option maxRecDepth 100000
set_option maxHeartbeats 8000000
namespace Go.Proofs.YtcdpdaloceengaaGreatDoor.C10
open Go.RowKit Go.Maps Go.Deep
structure Hst where
 sh:List Int
 aside:Bool
 good:Int
def stepH (many window good:Int) (k:Bool) (r:TestRun) (x:Hst):Hst :=
 if x.aside=true then (if good≤(if r.pass=true then x.good+1 else 0) then ⟨[],false,if r.pass=true then x.good+1 else 0⟩ else ⟨x.sh,true,if r.pass=true then x.good+1 else 0⟩)
 else if many≤(((if k=true then x.sh ++ [r.at_] else x.sh).filter fun t=>!decide (t≤r.at_-window)).length:Int) then ⟨(if k=true then x.sh ++ [r.at_] else x.sh).filter fun t=>!decide (t≤r.at_-window),true,0⟩
 else ⟨(if k=true then x.sh ++ [r.at_] else x.sh).filter fun t=>!decide (t≤r.at_-window),false,x.good⟩
def shakenB (t:Int × Int) (ps:Bool):Bool:=(ps&&decide (0<t.2))||(!ps&&decide (0<t.1))
def tallyOn (t:Int × Int) (ps:Bool):Int × Int:=if ps=true then (t.1+1,t.2) else (t.1,t.2+1)
structure HeAt (w:World) (base b:Nat) (f:ByteArray→Option (Int × Int)) (x:Hst) (mu:Nat) (v:Value) (c:Nat):Prop where
 c0:w.cell? ⟨b,0,none⟩=some (.map (some mu))
 c1:w.cell? ⟨b,1,none⟩=some v
 c2:w.cell? ⟨b,2,none⟩=some (.bool x.aside)
 c3:w.cell? ⟨b,3,none⟩=some (.int .i64 x.good)
 fz:∀ j,w.frozen? ⟨b,j,none⟩=false
 map:TMap KB valT w mu f c
 own:Own RInt 3 w base v x.sh
 ne:b≠mu
 nv:v.ownBlock≠some b
 nm:v.ownBlock≠some mu
structure Only (F:Nat→Prop) (w w':World):Prop where
 os:w'.os=w.os
 tape:w'.tape=w.tape
 output:w'.output=w.output
 size:w.heap.size≤w'.heap.size
 block:∀ k,k<w.heap.size→¬ F k→w'.heap[k]? = w.heap[k]?
theorem zeroT2 (w:World):(zeroValue 75).run Tryz.prog w = .ok (valT (0,0)) w:=by kernel_rfl
theorem HeAt.below {w w':World} {base b mu c:Nat} {f:ByteArray→Option (Int × Int)} {x:Hst} {v:Value} (h:HeAt w base b f x mu v c) (hb:Below w.heap.size w w'):HeAt w' base b f x mu v c :=
 ⟨(hb.cell (cell?_lt h.c0)).trans h.c0,(hb.cell (cell?_lt h.c1)).trans h.c1,(hb.cell (cell?_lt h.c2)).trans h.c2,(hb.cell (cell?_lt h.c3)).trans h.c3,fun j=>(hb.frozen (p:=⟨b,j,none⟩) (show b<w.heap.size from cell?_lt h.c0)).trans (h.fz j),h.map.below hb h.map.lt,h.own.below hb,h.ne,h.nv,h.nm⟩
theorem grown_set (w:World) (a:Addr) (u:Value):w.grownBy (w.setCell a u) (some a.block) :=
 ⟨rfl,rfl,rfl,by simp,fun k _ hne=>heap_setCell_other w a k u (fun e=>hne (by rw[e]))⟩
theorem HeAt.turned {w w':World} {base b mu c c':Nat} {f f':ByteArray→Option (Int × Int)} {x:Hst} {v:Value} (h:HeAt w base b f x mu v c) (hg:w.grownBy w' (some mu)) (hm:TMap KB valT w' mu f' c'):HeAt w' base b f' x mu v c':=by
 have hn:some b≠some mu:=fun e=>h.ne (by injection e);have hbl:b<w.heap.size:=cell?_lt h.c0;exact⟨hg.cell h.c0 hn,hg.cell h.c1 hn,hg.cell h.c2 hn,hg.cell h.c3 hn,fun j=>(World.frozen?_of_block (a:=⟨b,j,none⟩) (hg.block b hbl hn)).trans (h.fz j),hm,h.own.kept hg (.inr h.nm) (fun _ _ h=>h),h.ne,h.nv,h.nm⟩
theorem HeAt.set {w:World} {base b mu c:Nat} {f:ByteArray→Option (Int × Int)} {x y:Hst} {v v':Value} (h:HeAt w base b f x mu v c) (j:Nat) (u:Value) (hj:j<4) (hj0:j≠0)
  (h1:(if j=1 then u else v)=v') (h2:(if j=2 then u else .bool x.aside) = .bool y.aside) (h3:(if j=3 then u else .int .i64 x.good) = .int .i64 y.good) (hown:Own RInt 3 w base v' y.sh) (nv:v'.ownBlock≠some b) (nm:v'.ownBlock≠some mu):HeAt (w.setCell ⟨b,j,none⟩ u) base b f y mu v' c:=by
 have o:∀ i,i≠j→(w.setCell ⟨b,j,none⟩ u).cell? ⟨b,i,none⟩=w.cell? ⟨b,i,none⟩:=fun i hij=>World.cell?_setCell_other _ _ _ _ (by simp <;> omega);have sm:∀ t,w.cell? ⟨b,j,none⟩=some t→(w.setCell ⟨b,j,none⟩ u).cell? ⟨b,j,none⟩=some u:=fun t ht=>World.cell?_setCell_same' _ _ _ (by rw[ht];rfl);refine⟨(o 0 (by omega)).trans h.c0,?_,?_,?_,fun i=>by rw[World.frozen?_setCell];exact h.fz i,h.map.setCell (fun e=>h.ne e.symm) u,hown.kept (grown_set w ⟨b,j,none⟩ u) (.inr nv) (fun _ _ h=>h),h.ne,nv,nm⟩
 ·by_cases e:j=1
  ·subst e;rw[if_pos rfl]at h1;rw[← h1];exact sm _ h.c1
  ·rw[if_neg e]at h1;rw[o 1 (fun h=>e h.symm),← h1];exact h.c1
 ·by_cases e:j=2
  ·subst e;rw[if_pos rfl]at h2;rw[← h2];exact sm _ h.c2
  ·rw[if_neg e]at h2;rw[o 2 (fun h=>e h.symm),← h2];exact h.c2
 ·by_cases e:j=3
  ·subst e;rw[if_pos rfl]at h3;rw[← h3];exact sm _ h.c3
  ·rw[if_neg e]at h3;rw[o 3 (fun h=>e h.symm),← h3];exact h.c3
theorem HeAt.reown {w w':World} {base b mu c:Nat} {f:ByteArray→Option (Int × Int)} {x:Hst} {v v':Value} {l:List Int} (h:HeAt w base b f x mu v c) (hg:w.grownBy w' v.ownBlock) (hown:Own RInt 3 w' base v' l) (nv:v'.ownBlock≠some b) (nm:v'.ownBlock≠some mu):HeAt (w'.setCell ⟨b,1,none⟩ v') base b f ⟨l,x.aside,x.good⟩ mu v' c:=by
 have hbr:some b≠v.ownBlock:=fun e=>h.nv e.symm;have hmr:some mu≠v.ownBlock:=fun e=>h.nm e.symm;have hbl:b<w.heap.size:=cell?_lt h.c0;have o:∀ i,i≠1→(w'.setCell ⟨b,1,none⟩ v').cell? ⟨b,i,none⟩=w'.cell? ⟨b,i,none⟩:=fun i hij=>World.cell?_setCell_other _ _ _ _ (by simp <;> omega);refine⟨(o 0 (by decide)).trans (hg.cell h.c0 hbr),World.cell?_setCell_same' _ _ _ (by rw[hg.cell h.c1 hbr];rfl),(o 2 (by decide)).trans (hg.cell h.c2 hbr),(o 3 (by decide)).trans (hg.cell h.c3 hbr),fun i=>?_,(h.map.kept hg hmr).setCell (fun e=>h.ne e.symm) _,hown.kept (grown_set w' ⟨b,1,none⟩ v') (.inr nv) (fun _ _ h=>h),h.ne,nv,nm⟩;rw[World.frozen?_setCell];exact(World.frozen?_of_block (a:=⟨b,i,none⟩) (hg.block b hbl hbr)).trans (h.fz i)
theorem see1_fn (X:World) (n:Nat) (y at_ window:Int) (h1:X.cell? ⟨n,2,none⟩=some (.int .i64 at_)) (h2:X.cell? ⟨n+1,0,none⟩=some (.int .i64 window)) (hat:0≤at_∧at_≤1000000000) (hwin:1≤window∧window≤1000000000) :
  Calls Tryz.prog 44 #[.int .i64 y,.pointer (some ⟨n,0,none⟩),.pointer (some ⟨n+1,0,none⟩)] X fun e w'=>e = .returned (.bool (decide (y≤at_-window)))∧∃ q,w'=X.drewN q:=by
 go_enter Tryz.func44,Tryz.ntmps44;go_wp2;go_ret;exact⟨rfl,0,rfl⟩
theorem Only.of_below {F:Nat→Prop} {w w':World} (h:Below w.heap.size w w'):Only F w w':=⟨h.os,h.tape,h.output,h.size,fun k hk _=>h.block k hk⟩
theorem Only.grown {F:Nat→Prop} {a b c:World} {row:Option Nat} (h:Only F a b) (hg:b.grownBy c row) (hr:∀ k,row=some k→k<a.heap.size→F k):Only F a c :=
 ⟨hg.os.trans h.os,hg.tape.trans h.tape,hg.output.trans h.output,Nat.le_trans h.size hg.size,fun k hk hF=>(hg.block k (Nat.lt_of_lt_of_le hk h.size) (fun e=>hF (hr k e.symm hk))).trans (h.block k hk hF)⟩
theorem Only.set {F:Nat→Prop} {a b:World} (h:Only F a b) {p:Addr} (hp:F p.block) (u:Value):Only F a (b.setCell p u):=h.grown (grown_set b p u) (fun k hk _=>by injection hk with hk;rw[← hk];exact hp)
theorem see_any (W:World) (base b mu c:Nat) (v:Value) (f:ByteArray→Option (Int × Int)) (x:Hst) (r:TestRun) (many window good:Int) (h:HeAt W base b f x mu v c) (hbase:base≤W.heap.size)
  (hkey:r.key.size≤maxLen) (hat:0≤r.at_∧r.at_≤1000000000) (hmany:1≤many∧many≤100) (hwin:1≤window∧window≤1000000000) (hgood:1≤good∧good≤100)
  (p q:Int) (hf:(f r.key).getD (0,0)=(p,q)) (hp:0≤p∧p≤3000) (hq:0≤q∧q≤3000) (hxg:0≤x.good∧x.good≤3000) (hsh:x.sh.length≤3000) (hc:c≤3000) :
  Calls Tryz.prog 25 #[.pointer (some ⟨b,0,none⟩),.agg #[.string r.test,.string r.key,.int .i64 r.at_,.bool r.pass,.int .i64 r.seconds],.int .i64 many,.int .i64 window,.int .i64 good] W fun e w' =>
   e = .returned (.tuple #[])∧∃ v' c',HeAt w' base b (upd f r.key (tallyOn (p,q) r.pass)) (stepH many window good (shakenB (p,q) r.pass) r x) mu v' c'∧c'≤c+1∧(∀ k,v'.ownBlock=some k→k<W.heap.size→v.ownBlock=some k)∧Only (fun k=>k=b∨k=mu∨v.ownBlock=some k) W w':=by
 obtain⟨te,ke,at_,ps,se⟩:=r;simp only at hkey hat hf ⊢;obtain⟨W2,hW2⟩:∃ X,(W.alloc (.cells #[.string te,.string ke,.int .i64 at_,.bool ps,.int .i64 se] 39)).alloc (.cells #[.int .i64 window] 3)=X:=⟨_,rfl⟩;have hb2:Below W.heap.size W W2:=by rw[← hW2];exact((Below.refl W.heap.size W).alloc (Nat.le_refl _) _).alloc (by simp) _
 have h2:=h.below hb2;have rc:∀ j,W2.cell? ⟨W.heap.size,j,none⟩ = #[Value.string te,.string ke,.int .i64 at_,.bool ps,.int .i64 se][j]?:=fun j=>by rw[← hW2];exact(World.cell?_alloc_lt _ _ _ (by simp)).trans (cell_new W _ _ j)
 have r1:=rc 1;have r2:=rc 2;have r3:=rc 3;simp only[List.getElem?_toArray,List.getElem?_cons_succ,List.getElem?_cons_zero]at r1 r2 r3;have rw0:W2.cell? ⟨W.heap.size+1,0,none⟩=some (.int .i64 window):=by
  rw[← hW2];have:=cell_new (W.alloc (.cells #[.string te,.string ke,.int .i64 at_,.bool ps,.int .i64 se] 39)) #[.int .i64 window] 3 0;rw[World.size_alloc]at this;exact this
 have hsz2:W2.heap.size=W.heap.size+2:=by rw[← hW2];simp
 have hblt:b<W.heap.size:=cell?_lt h.c0;have hmlt:mu<W.heap.size:=h.map.lt;have hvlt:∀ k,v.ownBlock=some k→k<W.heap.size:=fun k hk=>(h.own.1.lt k hk).2;obtain⟨g0,g1,g2,g3,hz,hmap,hown,hne,hnv,hnm⟩:=h2;have hlk:∀ X,Below W2.heap.size W2 X→(Instr.lookup 55 (.map (some mu)) (.string ke) false).run Tryz.prog X = .ok (.agg #[.int .i64 p,.int .i64 q]) X:=fun X hX=>by
  have:=((hmap.below hX hmap.lt).look (t:=55) Tryz.underlying55 (zeroT2 X) injT (x:=ke) hkey).1;rw[hf]at this;exact this
 have hd:Below W2.heap.size W2 W2.drew:=⟨rfl,rfl,rfl,Nat.le_refl _,fun _ _=>rfl⟩;have hlook1:=hlk _ hd;have hlook2:=hlk _ (hd.alloc (Nat.le_refl _) (.cells #[.int .i64 0,.int .i64 0] 75));have hd3:Below W2.heap.size W2 (W2.alloc (.cells #[.int .i64 0,.int .i64 0] 75)).drew:=((Below.refl _ _).alloc (Nat.le_refl _) _).trans ⟨rfl,rfl,rfl,by simp[World.drew],fun _ _=>rfl⟩;have hlook3:=hlk _ hd3;have g0d:=(hd3.cell (cell?_lt g0)).trans g0;have r1d:=(hd3.cell (cell?_lt r1)).trans r1;have hblt2:b<W2.heap.size:=by omega
 clear hlk hd hd3;clear rc h;obtain⟨hmapH,hownH,hzH,hfH,hW2H,hb2H⟩:=hq2 hmap (hqb hown hz hf hW2 (Lib.hid hb2));clear hmap hown hz hf hW2 hb2;go_enter Tryz.func25,Tryz.ntmps25;go_wp2_with fail;rw[hW2H.out]
 go_region
 all_goals
  clear hlook1 hlook2 hlook3 g0d r1d;have hHe:HeAt W2 base b f x mu v c:=⟨g0,g1,g2,g3,hzH.out,hmapH.out,hownH.out,hne,hnv,hnm⟩;have hcl:=hb2H.out.size;have hHeH:=Lib.hid hHe;clear hHe
  cases ps
  ·by_cases hsk:0<p
   ·go_wp2_with fail;obtain⟨X,hX⟩:∃ X,(W2.alloc (.cells #[.int .i64 p,.int .i64 (q+1)] 75)).drew=X:=⟨_,rfl⟩;rw[hX];have hbX:Below W2.heap.size W2 X:=by rw[← hX];exact((Below.refl _ _).alloc (Nat.le_refl _) _).trans ⟨rfl,rfl,rfl,by simp[World.drew],fun _ _=>rfl⟩
    have hd:Below X.heap.size X X.drew:=⟨rfl,rfl,rfl,Nat.le_refl _,fun _ _=>rfl⟩;have heX:=hHeH.out.below hbX;have x0:=heX.c0;have y1:=(hbX.cell (cell?_lt r1)).trans r1;have y2:=(hbX.cell (cell?_lt r2)).trans r2;have y3:=(hbX.cell (cell?_lt r3)).trans r3;have yw:=(hbX.cell (cell?_lt rw0)).trans rw0;have z0:X.cell? ⟨W.heap.size+2,0,none⟩=some (.int .i64 p):=by rw[← hX,← hsz2];exact cell_new W2 _ _ 0
    have z1:X.cell? ⟨W.heap.size+2,1,none⟩=some (.int .i64 (q+1)):=by rw[← hX,← hsz2];exact cell_new W2 _ _ 1
    obtain⟨w6,hrun,hm6,ht6⟩:=(heX.map.below hd heX.map.lt).store (t:=55) Tryz.underlying55 injT (by simp only[maxLen];omega) (x:=ke) hkey (p,(q+1));have hrun:(Instr.mapUpdate 55 (.map (some mu)) (.string ke) (.agg #[.int .i64 p,.int .i64 (q+1)])).run Tryz.prog X.drew = .ok () w6:=hrun;have hg6:X.grownBy w6 (some mu):=World.grownBy.trans ⟨hd.os,hd.tape,hd.output,hd.size,fun k hk _=>hd.block k hk⟩ ht6.grown;clear g0 g1 g2 g3 r1 r2 r3 rw0 ht6 hd;obtain⟨hXH,hbXH,heXH,hm6H,hg6H⟩:=hqb hX hbX heX hm6 (Lib.hid hg6);clear hX hbX heX hm6 hg6;have hon6:Only (fun k=>k=b∨k=mu∨v.ownBlock=some k) W w6:=(Only.of_below (hb2H.out.trans (hbXH.out.mono hcl))).grown hg6H.out (fun k hk _=>.inr (.inl (by injection hk with hk;exact hk.symm)))
    go_region
    obtain⟨c6,hc6⟩:∃ y,(if (f ke).isSome=true then c else c+1)=y:=⟨_,rfl⟩;have hc61:c6≤c+1:=by rw[← hc6];exact ite_le_succ _ c
    have hm6:=hm6H.out;rw[hc6]at hm6;have he6:=heXH.out.turned hg6H.out hm6;have hn6:∀ j,j<2→some (W.heap.size+j)≠some mu:=fun j _ e=>by injection e;omega
    have a2:=hg6H.out.cell y2 (hn6 0 (by omega));have a3:=hg6H.out.cell y3 (hn6 0 (by omega));have aw:=hg6H.out.cell yw (hn6 1 (by omega));clear hm6H heXH hm6 hrun x0 y1 y2 y3 yw z0 z1 hXH hbXH hg6H hc6;have e2:=he6.c2;have e3:=he6.c3;have e1:=he6.c1;have ez:=he6.fz;have ez1:=ez 1;have ez2:=ez 2;have ez3:=ez 3;clear ez;obtain⟨he6H,hon6H⟩:=hq2 he6 (Lib.hid hon6);clear he6 hon6
    cases hxa:x.aside
    ·rw[hxa]at e2;obtain⟨i0,z0,hi,hz,hz1,hz2,hz3⟩:=elem_Int;have hX7:Below w6.heap.size w6 (w6.alloc (.cells #[.int .i64 at_] 3)).drew:=((Below.refl _ _).alloc (Nat.le_refl _) _).trans ⟨rfl,rfl,rfl,by simp[World.drew],fun _ _=>rfl⟩;have he7:=he6H.out.below hX7;have hs66:=hon6H.out.size;have hs67:=hX7.size;have hnews:∀ j u,[Value.int .i64 at_][j]? = some u→(w6.alloc (.cells #[.int .i64 at_] 3)).drew.cell? ((⟨w6.heap.size,0,none⟩:Addr).add j)=some u:=fun j u hu=>by
      cases j with
      | zero=>rw[Addr.add_lit];simp at hu;subst hu;exact cell_new w6 _ _ 0
      | succ j=>simp at hu
     have hone:∀ u∈[Value.int .i64 at_],u.oneCell'=true:=fun u hu=>by simp at hu;subst hu;rfl
     have hb6:b<w6.heap.size:=cell?_lt he6H.out.c0;have hn6b:W.heap.size<w6.heap.size:=cell?_lt a2;have hc63:x.sh.length+1≤maxLen:=by simp only[maxLen];omega
     have hbr:some b≠v.ownBlock:=fun e=>hnv e.symm;have hmr:some mu≠v.ownBlock:=fun e=>hnm e.symm;go_wp2_with fail
     go_region_law (refine step_append_lies _ rfl (.tmp 87) (.tmp 90) 56 rfl base 3 i0 z0 RInt.size 8 Tryz.underlying56 hi hz hz1 hz2 hz3 (by decide) v x.sh.length _ rfl he7.own.1 ⟨w6.heap.size,0,none⟩ 1 1 [.int .i64 at_] rfl rfl hnews hone (by decide) hc63 (by omega) (by omega) _ rfl ?_;intro g cap9 w8 h2 h3 h4 h5;have q1:=h3.cell he7.c1 hbr;have q1f:=(h3.frozen_far ⟨b,1,none⟩ (cell?_lt he7.c1) hbr).trans (he7.fz 1))
     all_goals
      have q1b:some b≠v.ownBlock:=fun e=>hnv e.symm;have nv8:(Value.slice (some ⟨g,0,none⟩) (x.sh.length+1) cap9).ownBlock≠some b:=fun e=>by
       have e:g=b:=by injection e
       rcases h4 with h4 | h4
       ·exact hnv (by rw[h4,e])
       ·have:=hX7.size;rw[e]at h4;omega
      have nm8:(Value.slice (some ⟨g,0,none⟩) (x.sh.length+1) cap9).ownBlock≠some mu:=fun e=>by
       have e:g=mu:=by injection e
       rcases h4 with h4 | h4
       ·exact hnm (by rw[h4,e])
       ·have:=hX7.size;rw[e]at h4;omega
      have hown8:Own RInt 3 w8 base (.slice (some ⟨g,0,none⟩) (x.sh.length+1) cap9) (x.sh ++ [at_]):=by
       refine⟨by rw[List.length_append,List.flatMap_append];exact h2,fun y hy=>?_⟩
       rcases List.mem_append.1 hy with hy | hy
       ·exact he7.own.2 y hy
       ·rw[List.mem_singleton]at hy;subst hy;show I64 _;unfold I64;omega
      have heT:=he7.reown h3 hown8 nv8 nm8;have onT:Only (fun k=>k=b∨k=mu∨v.ownBlock=some k) W (w8.setCell ⟨b,1,none⟩ (.slice (some ⟨g,0,none⟩) (x.sh.length+1) cap9)):=((hon6H.out.grown (row:=none) (below_grown hX7 rfl) (fun k hk=>by cases hk)).grown h3 (fun k hk _=>.inr (.inr hk))).set (.inl rfl) _;have hvT:∀ k,(Value.slice (some ⟨g,0,none⟩) (x.sh.length+1) cap9).ownBlock=some k→k<W.heap.size→v.ownBlock=some k:=fun k hk hlt=>by
       have e:g=k:=by injection hk
       rcases h4 with h4 | h4
       ·rw[h4,e]
       ·rw[e]at h4;omega
      have wsz:=(cell?_lt aw);have wsz:W.heap.size+1<w6.heap.size:=wsz;have hnb:∀ j,some (W.heap.size+j)≠v.ownBlock:=fun j e=>by have:=hvlt _ e.symm;omega
      have t2:(w8.setCell ⟨b,1,none⟩ (.slice (some ⟨g,0,none⟩) (x.sh.length+1) cap9)).cell? ⟨W.heap.size,2,none⟩=some (.int .i64 at_):=by
       rw[World.cell?_setCell_other _ _ _ _ (by simp <;> omega)];exact h3.cell ((hX7.cell (cell?_lt a2)).trans a2) (hnb 0)
      have tw:(w8.setCell ⟨b,1,none⟩ (.slice (some ⟨g,0,none⟩) (x.sh.length+1) cap9)).cell? ⟨W.heap.size+1,0,none⟩=some (.int .i64 window):=by
       rw[World.cell?_setCell_other _ _ _ _ (by simp <;> omega)];exact h3.cell ((hX7.cell (cell?_lt aw)).trans aw) (hnb 1)
      have hcT:∀ j:Nat,j<2→some (W.heap.size+j)≠(Value.slice (some ⟨g,0,none⟩) (x.sh.length+1) cap9).ownBlock:=fun j hj e=>by
       have e:W.heap.size+j=g:=by injection e
       rcases h4 with h4 | h4
       ·have:=hvlt _ h4;omega
       ·have:=hX7.size;omega
      have hvT9:∀ k,(Value.slice (some ⟨g,0,none⟩) (x.sh.length+1) cap9).ownBlock=some k→k<W.heap.size→(k=b∨k=mu∨v.ownBlock=some k):=fun k hk hlt=>.inr (.inr (hvT k hk hlt));have hlen8:(x.sh ++ [at_]).length=x.sh.length+1:=by simp
      have d1:=heT.c1;have d2:=heT.c2;have d3:=heT.c3;clear h4 h5 h3 h2 q1 q1f hown8 he7 hX7
      generalize hA9:(some (⟨g,0,none⟩:Addr))=A9 at *
      have hob:∀ n m,(Value.slice A9 n cap9).ownBlock=(Value.slice A9 m cap9).ownBlock:=by cases A9 <;> intros <;> rfl
      go_wp2_with fail;refine(del_own 44 #[.pointer (some ⟨W.heap.size,0,none⟩),.pointer (some ⟨W.heap.size+1,0,none⟩)] (enters_of Tryz.func44 (by kernel_rfl) rfl) (fun t=>decide (t≤at_-window)) A9 _ cap9 (x.sh ++ [at_]) _ base heT.own (by omega)
       (fun X y hX=>see1_fn X W.heap.size y at_ window (hX.cell t2 (hcT 0 (by decide))) (hX.cell tw (hcT 1 (by decide))) hat hwin)).mono ?_
      rintro e w9 ⟨k9,rfl,hown9,hg9⟩;have hk9:=hown9.len;have nv9:(Value.slice A9 k9 cap9).ownBlock≠some b:=fun e=>heT.nv ((hob _ k9).trans e);have nm9:(Value.slice A9 k9 cap9).ownBlock≠some mu:=fun e=>heT.nm ((hob _ k9).trans e);have he9:=heT.reown hg9 hown9 nv9 nm9;have on9:=(onT.grown hg9 hvT9).set (p:=⟨b,1,none⟩) (.inl rfl) (.slice A9 k9 cap9);have q1:=hg9.cell heT.c1 (fun e=>heT.nv e.symm);have q2:=hg9.cell heT.c2 (fun e=>heT.nv e.symm);have q3:=hg9.cell heT.c3 (fun e=>heT.nv e.symm);have qf:∀ j,w9.frozen? ⟨b,j,none⟩=false:=fun j=>(World.frozen?_of_block (a:=⟨b,j,none⟩) (hg9.block b (cell?_lt heT.c0) (fun e=>heT.nv e.symm))).trans (heT.fz j);have qf1:=qf 1;have qf2:=qf 2;have qf3:=qf 3;have hv9:=fun k hk hlt=>hvT k ((hob _ k9).trans hk) hlt;have hsb:shakenB (p,q) false=true:=by unfold shakenB;simp[hsk]
      have hstep:stepH many window good (shakenB (p,q) false) ⟨te,ke,at_,false,se⟩ x=if many≤(k9:Int) then ⟨((x.sh ++ [at_])).filter fun t=>!decide (t≤at_-window),true,0⟩ else ⟨((x.sh ++ [at_])).filter fun t=>!decide (t≤at_-window),false,x.good⟩:=by
       rw[hsb,← hk9];unfold stepH;simp[hxa]
      clear e1 e2 e3 ez1 ez2 ez3 a2 a3 aw qf hg9 t2 tw hcT onT;obtain⟨he9H,on9H,hown9H,hk9H,hstepH⟩:=hqb he9 on9 hown9 hk9 (Lib.hid hstep);clear he9 on9 hown9 hk9 hstep
      by_cases hmn:many≤(k9:Int)
      ·go_wp2_with fail
       go_end0
       refine⟨rfl,.slice A9 k9 cap9,c6,?_,hc61,hv9,(on9H.out.set (.inl rfl) _).set (.inl rfl) _⟩;rw[hstepH.out,if_pos hmn];have k2:=he9H.out.set (y:=⟨((x.sh ++ [at_])).filter fun t=>!decide (t≤at_-window),true,x.good⟩) 2 (.bool true) (by decide) (by decide) rfl rfl rfl he9H.out.own nv9 nm9;exact k2.set (y:=⟨((x.sh ++ [at_])).filter fun t=>!decide (t≤at_-window),true,0⟩) 3 (.int .i64 0) (by decide) (by decide) rfl rfl rfl k2.own nv9 nm9
      ·go_wp2_with fail
       go_end0
       refine⟨rfl,.slice A9 k9 cap9,c6,?_,hc61,hv9,on9H.out⟩;rw[hstepH.out,if_neg (by omega)];have k2:=he9H.out;simp only[hxa]at k2;exact k2
    ·rw[hxa]at e2;have hg0:¬ good≤0:=by omega
     have hst:∀ k,stepH many window good k ⟨te,ke,at_,false,se⟩ x=⟨x.sh,true,0⟩:=fun k=>by unfold stepH;simp[hxa,hg0]
     go_wp2_with fail
     (try simp only[Exit.inBlock,Exit.then])
     refine bodyPost_ret (results_none rfl _ _ _) rfl ?_;refine⟨rfl,v,c6,?_,hc61,fun k hk _=>hk,((hon6H.out.set (.inl rfl) _).set (.inl rfl) _)⟩
     try rw[hst]
     have k3:=he6H.out.set (y:=⟨x.sh,true,x.good+1⟩) 3 (.int .i64 (x.good+1)) (by decide) (by decide) rfl (by simp[hxa]) rfl he6H.out.own hnv hnm;exact k3.set (y:=⟨x.sh,true,0⟩) 3 (.int .i64 0) (by decide) (by decide) rfl rfl rfl k3.own hnv hnm
   ·go_wp2_with fail;obtain⟨X,hX⟩:∃ X,(W2.alloc (.cells #[.int .i64 p,.int .i64 (q+1)] 75)).drew=X:=⟨_,rfl⟩;rw[hX];have hbX:Below W2.heap.size W2 X:=by rw[← hX];exact((Below.refl _ _).alloc (Nat.le_refl _) _).trans ⟨rfl,rfl,rfl,by simp[World.drew],fun _ _=>rfl⟩
    have hd:Below X.heap.size X X.drew:=⟨rfl,rfl,rfl,Nat.le_refl _,fun _ _=>rfl⟩;have heX:=hHeH.out.below hbX;have x0:=heX.c0;have y1:=(hbX.cell (cell?_lt r1)).trans r1;have y2:=(hbX.cell (cell?_lt r2)).trans r2;have y3:=(hbX.cell (cell?_lt r3)).trans r3;have yw:=(hbX.cell (cell?_lt rw0)).trans rw0;have z0:X.cell? ⟨W.heap.size+2,0,none⟩=some (.int .i64 p):=by rw[← hX,← hsz2];exact cell_new W2 _ _ 0
    have z1:X.cell? ⟨W.heap.size+2,1,none⟩=some (.int .i64 (q+1)):=by rw[← hX,← hsz2];exact cell_new W2 _ _ 1
    obtain⟨w6,hrun,hm6,ht6⟩:=(heX.map.below hd heX.map.lt).store (t:=55) Tryz.underlying55 injT (by simp only[maxLen];omega) (x:=ke) hkey (p,(q+1));have hrun:(Instr.mapUpdate 55 (.map (some mu)) (.string ke) (.agg #[.int .i64 p,.int .i64 (q+1)])).run Tryz.prog X.drew = .ok () w6:=hrun;have hg6:X.grownBy w6 (some mu):=World.grownBy.trans ⟨hd.os,hd.tape,hd.output,hd.size,fun k hk _=>hd.block k hk⟩ ht6.grown;clear g0 g1 g2 g3 r1 r2 r3 rw0 ht6 hd;obtain⟨hXH,hbXH,heXH,hm6H,hg6H⟩:=hqb hX hbX heX hm6 (Lib.hid hg6);clear hX hbX heX hm6 hg6;have hon6:Only (fun k=>k=b∨k=mu∨v.ownBlock=some k) W w6:=(Only.of_below (hb2H.out.trans (hbXH.out.mono hcl))).grown hg6H.out (fun k hk _=>.inr (.inl (by injection hk with hk;exact hk.symm)))
    go_region
    obtain⟨c6,hc6⟩:∃ y,(if (f ke).isSome=true then c else c+1)=y:=⟨_,rfl⟩;have hc61:c6≤c+1:=by rw[← hc6];exact ite_le_succ _ c
    have hm6:=hm6H.out;rw[hc6]at hm6;have he6:=heXH.out.turned hg6H.out hm6;have hn6:∀ j,j<2→some (W.heap.size+j)≠some mu:=fun j _ e=>by injection e;omega
    have a2:=hg6H.out.cell y2 (hn6 0 (by omega));have a3:=hg6H.out.cell y3 (hn6 0 (by omega));have aw:=hg6H.out.cell yw (hn6 1 (by omega));clear hm6H heXH hm6 hrun x0 y1 y2 y3 yw z0 z1 hXH hbXH hg6H hc6;have e2:=he6.c2;have e3:=he6.c3;have e1:=he6.c1;have ez:=he6.fz;have ez1:=ez 1;have ez2:=ez 2;have ez3:=ez 3;clear ez;obtain⟨he6H,hon6H⟩:=hq2 he6 (Lib.hid hon6);clear he6 hon6
    cases hxa:x.aside
    ·rw[hxa]at e2;go_wp2_with fail;have heT:=he6H.out;obtain⟨A9,cap9,hv9⟩:=heT.own.form;subst hv9;have hob:∀ n m,(Value.slice A9 n cap9).ownBlock=(Value.slice A9 m cap9).ownBlock:=by cases A9 <;> intros <;> rfl
     have hcT:∀ j:Nat,j<2→some (W.heap.size+j)≠(Value.slice A9 x.sh.length cap9).ownBlock:=fun j _ e=>by have:=hvlt _ e.symm;omega
     have t2:=a2;have tw:=aw;have onT:=hon6H.out;have hvT:∀ k,(Value.slice A9 x.sh.length cap9).ownBlock=some k→k<W.heap.size→(Value.slice A9 x.sh.length cap9).ownBlock=some k:=fun k hk _=>hk;have hvT9:∀ k,(Value.slice A9 x.sh.length cap9).ownBlock=some k→k<W.heap.size→(k=b∨k=mu∨(Value.slice A9 x.sh.length cap9).ownBlock=some k):=fun k hk _=>.inr (.inr hk);refine(del_own 44 #[.pointer (some ⟨W.heap.size,0,none⟩),.pointer (some ⟨W.heap.size+1,0,none⟩)] (enters_of Tryz.func44 (by kernel_rfl) rfl) (fun t=>decide (t≤at_-window)) A9 _ cap9 x.sh _ base heT.own (by omega)
      (fun X y hX=>see1_fn X W.heap.size y at_ window (hX.cell t2 (hcT 0 (by decide))) (hX.cell tw (hcT 1 (by decide))) hat hwin)).mono ?_
     rintro e w9 ⟨k9,rfl,hown9,hg9⟩;have hk9:=hown9.len;have nv9:(Value.slice A9 k9 cap9).ownBlock≠some b:=fun e=>heT.nv ((hob _ k9).trans e);have nm9:(Value.slice A9 k9 cap9).ownBlock≠some mu:=fun e=>heT.nm ((hob _ k9).trans e);have he9:=heT.reown hg9 hown9 nv9 nm9;have on9:=(onT.grown hg9 hvT9).set (p:=⟨b,1,none⟩) (.inl rfl) (.slice A9 k9 cap9);have q1:=hg9.cell heT.c1 (fun e=>heT.nv e.symm);have q2:=hg9.cell heT.c2 (fun e=>heT.nv e.symm);have q3:=hg9.cell heT.c3 (fun e=>heT.nv e.symm);have qf:∀ j,w9.frozen? ⟨b,j,none⟩=false:=fun j=>(World.frozen?_of_block (a:=⟨b,j,none⟩) (hg9.block b (cell?_lt heT.c0) (fun e=>heT.nv e.symm))).trans (heT.fz j);have qf1:=qf 1;have qf2:=qf 2;have qf3:=qf 3;have hv9:=fun k hk hlt=>hvT k ((hob _ k9).trans hk) hlt;have hsb:shakenB (p,q) false=false:=by unfold shakenB;simp[hsk]
     have hstep:stepH many window good (shakenB (p,q) false) ⟨te,ke,at_,false,se⟩ x=if many≤(k9:Int) then ⟨(x.sh).filter fun t=>!decide (t≤at_-window),true,0⟩ else ⟨(x.sh).filter fun t=>!decide (t≤at_-window),false,x.good⟩:=by
      rw[hsb,← hk9];unfold stepH;simp[hxa]
     clear e1 e2 e3 ez1 ez2 ez3 a2 a3 aw qf hg9 t2 tw hcT onT;obtain⟨he9H,on9H,hown9H,hk9H,hstepH⟩:=hqb he9 on9 hown9 hk9 (Lib.hid hstep);clear he9 on9 hown9 hk9 hstep
     by_cases hmn:many≤(k9:Int)
     ·go_wp2_with fail
      go_end0
      refine⟨rfl,.slice A9 k9 cap9,c6,?_,hc61,hv9,(on9H.out.set (.inl rfl) _).set (.inl rfl) _⟩;rw[hstepH.out,if_pos hmn];have k2:=he9H.out.set (y:=⟨(x.sh).filter fun t=>!decide (t≤at_-window),true,x.good⟩) 2 (.bool true) (by decide) (by decide) rfl rfl rfl he9H.out.own nv9 nm9;exact k2.set (y:=⟨(x.sh).filter fun t=>!decide (t≤at_-window),true,0⟩) 3 (.int .i64 0) (by decide) (by decide) rfl rfl rfl k2.own nv9 nm9
     ·go_wp2_with fail
      go_end0
      refine⟨rfl,.slice A9 k9 cap9,c6,?_,hc61,hv9,on9H.out⟩;rw[hstepH.out,if_neg (by omega)];have k2:=he9H.out;simp only[hxa]at k2;exact k2
    ·rw[hxa]at e2;have hg0:¬ good≤0:=by omega
     have hst:∀ k,stepH many window good k ⟨te,ke,at_,false,se⟩ x=⟨x.sh,true,0⟩:=fun k=>by unfold stepH;simp[hxa,hg0]
     go_wp2_with fail
     (try simp only[Exit.inBlock,Exit.then])
     refine bodyPost_ret (results_none rfl _ _ _) rfl ?_;refine⟨rfl,v,c6,?_,hc61,fun k hk _=>hk,((hon6H.out.set (.inl rfl) _).set (.inl rfl) _)⟩
     try rw[hst]
     have k3:=he6H.out.set (y:=⟨x.sh,true,x.good+1⟩) 3 (.int .i64 (x.good+1)) (by decide) (by decide) rfl (by simp[hxa]) rfl he6H.out.own hnv hnm;exact k3.set (y:=⟨x.sh,true,0⟩) 3 (.int .i64 0) (by decide) (by decide) rfl rfl rfl k3.own hnv hnm
  ·by_cases hsk:0<q
   ·go_wp2_with fail;obtain⟨X,hX⟩:∃ X,(W2.alloc (.cells #[.int .i64 (p+1),.int .i64 q] 75)).drew=X:=⟨_,rfl⟩;rw[hX];have hbX:Below W2.heap.size W2 X:=by rw[← hX];exact((Below.refl _ _).alloc (Nat.le_refl _) _).trans ⟨rfl,rfl,rfl,by simp[World.drew],fun _ _=>rfl⟩
    have hd:Below X.heap.size X X.drew:=⟨rfl,rfl,rfl,Nat.le_refl _,fun _ _=>rfl⟩;have heX:=hHeH.out.below hbX;have x0:=heX.c0;have y1:=(hbX.cell (cell?_lt r1)).trans r1;have y2:=(hbX.cell (cell?_lt r2)).trans r2;have y3:=(hbX.cell (cell?_lt r3)).trans r3;have yw:=(hbX.cell (cell?_lt rw0)).trans rw0;have z0:X.cell? ⟨W.heap.size+2,0,none⟩=some (.int .i64 (p+1)):=by rw[← hX,← hsz2];exact cell_new W2 _ _ 0
    have z1:X.cell? ⟨W.heap.size+2,1,none⟩=some (.int .i64 q):=by rw[← hX,← hsz2];exact cell_new W2 _ _ 1
    obtain⟨w6,hrun,hm6,ht6⟩:=(heX.map.below hd heX.map.lt).store (t:=55) Tryz.underlying55 injT (by simp only[maxLen];omega) (x:=ke) hkey ((p+1),q);have hrun:(Instr.mapUpdate 55 (.map (some mu)) (.string ke) (.agg #[.int .i64 (p+1),.int .i64 q])).run Tryz.prog X.drew = .ok () w6:=hrun;have hg6:X.grownBy w6 (some mu):=World.grownBy.trans ⟨hd.os,hd.tape,hd.output,hd.size,fun k hk _=>hd.block k hk⟩ ht6.grown;clear g0 g1 g2 g3 r1 r2 r3 rw0 ht6 hd;obtain⟨hXH,hbXH,heXH,hm6H,hg6H⟩:=hqb hX hbX heX hm6 (Lib.hid hg6);clear hX hbX heX hm6 hg6;have hon6:Only (fun k=>k=b∨k=mu∨v.ownBlock=some k) W w6:=(Only.of_below (hb2H.out.trans (hbXH.out.mono hcl))).grown hg6H.out (fun k hk _=>.inr (.inl (by injection hk with hk;exact hk.symm)))
    go_region
    obtain⟨c6,hc6⟩:∃ y,(if (f ke).isSome=true then c else c+1)=y:=⟨_,rfl⟩;have hc61:c6≤c+1:=by rw[← hc6];exact ite_le_succ _ c
    have hm6:=hm6H.out;rw[hc6]at hm6;have he6:=heXH.out.turned hg6H.out hm6;have hn6:∀ j,j<2→some (W.heap.size+j)≠some mu:=fun j _ e=>by injection e;omega
    have a2:=hg6H.out.cell y2 (hn6 0 (by omega));have a3:=hg6H.out.cell y3 (hn6 0 (by omega));have aw:=hg6H.out.cell yw (hn6 1 (by omega));clear hm6H heXH hm6 hrun x0 y1 y2 y3 yw z0 z1 hXH hbXH hg6H hc6;have e2:=he6.c2;have e3:=he6.c3;have e1:=he6.c1;have ez:=he6.fz;have ez1:=ez 1;have ez2:=ez 2;have ez3:=ez 3;clear ez;obtain⟨he6H,hon6H⟩:=hq2 he6 (Lib.hid hon6);clear he6 hon6
    cases hxa:x.aside
    ·rw[hxa]at e2;obtain⟨i0,z0,hi,hz,hz1,hz2,hz3⟩:=elem_Int;have hX7:Below w6.heap.size w6 (w6.alloc (.cells #[.int .i64 at_] 3)).drew:=((Below.refl _ _).alloc (Nat.le_refl _) _).trans ⟨rfl,rfl,rfl,by simp[World.drew],fun _ _=>rfl⟩;have he7:=he6H.out.below hX7;have hs66:=hon6H.out.size;have hs67:=hX7.size;have hnews:∀ j u,[Value.int .i64 at_][j]? = some u→(w6.alloc (.cells #[.int .i64 at_] 3)).drew.cell? ((⟨w6.heap.size,0,none⟩:Addr).add j)=some u:=fun j u hu=>by
      cases j with
      | zero=>rw[Addr.add_lit];simp at hu;subst hu;exact cell_new w6 _ _ 0
      | succ j=>simp at hu
     have hone:∀ u∈[Value.int .i64 at_],u.oneCell'=true:=fun u hu=>by simp at hu;subst hu;rfl
     have hb6:b<w6.heap.size:=cell?_lt he6H.out.c0;have hn6b:W.heap.size<w6.heap.size:=cell?_lt a2;have hc63:x.sh.length+1≤maxLen:=by simp only[maxLen];omega
     have hbr:some b≠v.ownBlock:=fun e=>hnv e.symm;have hmr:some mu≠v.ownBlock:=fun e=>hnm e.symm;go_wp2_with fail
     go_region_law (refine step_append_lies _ rfl (.tmp 87) (.tmp 90) 56 rfl base 3 i0 z0 RInt.size 8 Tryz.underlying56 hi hz hz1 hz2 hz3 (by decide) v x.sh.length _ rfl he7.own.1 ⟨w6.heap.size,0,none⟩ 1 1 [.int .i64 at_] rfl rfl hnews hone (by decide) hc63 (by omega) (by omega) _ rfl ?_;intro g cap9 w8 h2 h3 h4 h5;have q1:=h3.cell he7.c1 hbr;have q1f:=(h3.frozen_far ⟨b,1,none⟩ (cell?_lt he7.c1) hbr).trans (he7.fz 1))
     all_goals
      have q1b:some b≠v.ownBlock:=fun e=>hnv e.symm;have nv8:(Value.slice (some ⟨g,0,none⟩) (x.sh.length+1) cap9).ownBlock≠some b:=fun e=>by
       have e:g=b:=by injection e
       rcases h4 with h4 | h4
       ·exact hnv (by rw[h4,e])
       ·have:=hX7.size;rw[e]at h4;omega
      have nm8:(Value.slice (some ⟨g,0,none⟩) (x.sh.length+1) cap9).ownBlock≠some mu:=fun e=>by
       have e:g=mu:=by injection e
       rcases h4 with h4 | h4
       ·exact hnm (by rw[h4,e])
       ·have:=hX7.size;rw[e]at h4;omega
      have hown8:Own RInt 3 w8 base (.slice (some ⟨g,0,none⟩) (x.sh.length+1) cap9) (x.sh ++ [at_]):=by
       refine⟨by rw[List.length_append,List.flatMap_append];exact h2,fun y hy=>?_⟩
       rcases List.mem_append.1 hy with hy | hy
       ·exact he7.own.2 y hy
       ·rw[List.mem_singleton]at hy;subst hy;show I64 _;unfold I64;omega
      have heT:=he7.reown h3 hown8 nv8 nm8;have onT:Only (fun k=>k=b∨k=mu∨v.ownBlock=some k) W (w8.setCell ⟨b,1,none⟩ (.slice (some ⟨g,0,none⟩) (x.sh.length+1) cap9)):=((hon6H.out.grown (row:=none) (below_grown hX7 rfl) (fun k hk=>by cases hk)).grown h3 (fun k hk _=>.inr (.inr hk))).set (.inl rfl) _;have hvT:∀ k,(Value.slice (some ⟨g,0,none⟩) (x.sh.length+1) cap9).ownBlock=some k→k<W.heap.size→v.ownBlock=some k:=fun k hk hlt=>by
       have e:g=k:=by injection hk
       rcases h4 with h4 | h4
       ·rw[h4,e]
       ·rw[e]at h4;omega
      have wsz:=(cell?_lt aw);have wsz:W.heap.size+1<w6.heap.size:=wsz;have hnb:∀ j,some (W.heap.size+j)≠v.ownBlock:=fun j e=>by have:=hvlt _ e.symm;omega
      have t2:(w8.setCell ⟨b,1,none⟩ (.slice (some ⟨g,0,none⟩) (x.sh.length+1) cap9)).cell? ⟨W.heap.size,2,none⟩=some (.int .i64 at_):=by
       rw[World.cell?_setCell_other _ _ _ _ (by simp <;> omega)];exact h3.cell ((hX7.cell (cell?_lt a2)).trans a2) (hnb 0)
      have tw:(w8.setCell ⟨b,1,none⟩ (.slice (some ⟨g,0,none⟩) (x.sh.length+1) cap9)).cell? ⟨W.heap.size+1,0,none⟩=some (.int .i64 window):=by
       rw[World.cell?_setCell_other _ _ _ _ (by simp <;> omega)];exact h3.cell ((hX7.cell (cell?_lt aw)).trans aw) (hnb 1)
      have hcT:∀ j:Nat,j<2→some (W.heap.size+j)≠(Value.slice (some ⟨g,0,none⟩) (x.sh.length+1) cap9).ownBlock:=fun j hj e=>by
       have e:W.heap.size+j=g:=by injection e
       rcases h4 with h4 | h4
       ·have:=hvlt _ h4;omega
       ·have:=hX7.size;omega
      have hvT9:∀ k,(Value.slice (some ⟨g,0,none⟩) (x.sh.length+1) cap9).ownBlock=some k→k<W.heap.size→(k=b∨k=mu∨v.ownBlock=some k):=fun k hk hlt=>.inr (.inr (hvT k hk hlt));have hlen8:(x.sh ++ [at_]).length=x.sh.length+1:=by simp
      have d1:=heT.c1;have d2:=heT.c2;have d3:=heT.c3;clear h4 h5 h3 h2 q1 q1f hown8 he7 hX7
      generalize hA9:(some (⟨g,0,none⟩:Addr))=A9 at *
      have hob:∀ n m,(Value.slice A9 n cap9).ownBlock=(Value.slice A9 m cap9).ownBlock:=by cases A9 <;> intros <;> rfl
      go_wp2_with fail;refine(del_own 44 #[.pointer (some ⟨W.heap.size,0,none⟩),.pointer (some ⟨W.heap.size+1,0,none⟩)] (enters_of Tryz.func44 (by kernel_rfl) rfl) (fun t=>decide (t≤at_-window)) A9 _ cap9 (x.sh ++ [at_]) _ base heT.own (by omega)
       (fun X y hX=>see1_fn X W.heap.size y at_ window (hX.cell t2 (hcT 0 (by decide))) (hX.cell tw (hcT 1 (by decide))) hat hwin)).mono ?_
      rintro e w9 ⟨k9,rfl,hown9,hg9⟩;have hk9:=hown9.len;have nv9:(Value.slice A9 k9 cap9).ownBlock≠some b:=fun e=>heT.nv ((hob _ k9).trans e);have nm9:(Value.slice A9 k9 cap9).ownBlock≠some mu:=fun e=>heT.nm ((hob _ k9).trans e);have he9:=heT.reown hg9 hown9 nv9 nm9;have on9:=(onT.grown hg9 hvT9).set (p:=⟨b,1,none⟩) (.inl rfl) (.slice A9 k9 cap9);have q1:=hg9.cell heT.c1 (fun e=>heT.nv e.symm);have q2:=hg9.cell heT.c2 (fun e=>heT.nv e.symm);have q3:=hg9.cell heT.c3 (fun e=>heT.nv e.symm);have qf:∀ j,w9.frozen? ⟨b,j,none⟩=false:=fun j=>(World.frozen?_of_block (a:=⟨b,j,none⟩) (hg9.block b (cell?_lt heT.c0) (fun e=>heT.nv e.symm))).trans (heT.fz j);have qf1:=qf 1;have qf2:=qf 2;have qf3:=qf 3;have hv9:=fun k hk hlt=>hvT k ((hob _ k9).trans hk) hlt;have hsb:shakenB (p,q) true=true:=by unfold shakenB;simp[hsk]
      have hstep:stepH many window good (shakenB (p,q) true) ⟨te,ke,at_,true,se⟩ x=if many≤(k9:Int) then ⟨((x.sh ++ [at_])).filter fun t=>!decide (t≤at_-window),true,0⟩ else ⟨((x.sh ++ [at_])).filter fun t=>!decide (t≤at_-window),false,x.good⟩:=by
       rw[hsb,← hk9];unfold stepH;simp[hxa]
      clear e1 e2 e3 ez1 ez2 ez3 a2 a3 aw qf hg9 t2 tw hcT onT;obtain⟨he9H,on9H,hown9H,hk9H,hstepH⟩:=hqb he9 on9 hown9 hk9 (Lib.hid hstep);clear he9 on9 hown9 hk9 hstep
      by_cases hmn:many≤(k9:Int)
      ·go_wp2_with fail
       go_end0
       refine⟨rfl,.slice A9 k9 cap9,c6,?_,hc61,hv9,(on9H.out.set (.inl rfl) _).set (.inl rfl) _⟩;rw[hstepH.out,if_pos hmn];have k2:=he9H.out.set (y:=⟨((x.sh ++ [at_])).filter fun t=>!decide (t≤at_-window),true,x.good⟩) 2 (.bool true) (by decide) (by decide) rfl rfl rfl he9H.out.own nv9 nm9;exact k2.set (y:=⟨((x.sh ++ [at_])).filter fun t=>!decide (t≤at_-window),true,0⟩) 3 (.int .i64 0) (by decide) (by decide) rfl rfl rfl k2.own nv9 nm9
      ·go_wp2_with fail
       go_end0
       refine⟨rfl,.slice A9 k9 cap9,c6,?_,hc61,hv9,on9H.out⟩;rw[hstepH.out,if_neg (by omega)];have k2:=he9H.out;simp only[hxa]at k2;exact k2
    ·rw[hxa]at e2
     by_cases hg:good≤x.good+1
     ·have hst:∀ k,stepH many window good k ⟨te,ke,at_,true,se⟩ x=⟨[],false,x.good+1⟩:=fun k=>by unfold stepH;simp[hxa,hg]
      go_wp2_with fail
      (try simp only[Exit.inBlock,Exit.then])
      refine bodyPost_ret (results_none rfl _ _ _) rfl ?_;refine⟨rfl,.slice none 0 0,c6,?_,hc61,fun k hk=>(by cases hk),((hon6H.out.set (.inl rfl) _).set (.inl rfl) _).set (.inl rfl) _⟩
      try rw[hst]
      have k3:=he6H.out.set (y:=⟨x.sh,true,x.good+1⟩) 3 (.int .i64 (x.good+1)) (by decide) (by decide) rfl (by simp[hxa]) rfl he6H.out.own hnv hnm;have k2:=k3.set (y:=⟨x.sh,false,x.good+1⟩) 2 (.bool false) (by decide) (by decide) rfl rfl rfl k3.own hnv hnm;exact k2.set (y:=⟨[],false,x.good+1⟩) 1 (.slice none 0 0) (by decide) (by decide) rfl rfl rfl (Own.nil _ _) (by simp[Value.ownBlock]) (by simp[Value.ownBlock])
     ·have hst:∀ k,stepH many window good k ⟨te,ke,at_,true,se⟩ x=⟨x.sh,true,x.good+1⟩:=fun k=>by unfold stepH;simp[hxa,hg]
      go_wp2_with fail
      (try simp only[Exit.inBlock,Exit.then])
      refine bodyPost_ret (results_none rfl _ _ _) rfl ?_;refine⟨rfl,v,c6,?_,hc61,fun k hk _=>hk,hon6H.out.set (.inl rfl) _⟩
      try rw[hst]
      exact he6H.out.set (y:=⟨x.sh,true,x.good+1⟩) 3 (.int .i64 (x.good+1)) (by decide) (by decide) rfl (by simp[hxa]) rfl he6H.out.own hnv hnm
   ·go_wp2_with fail;obtain⟨X,hX⟩:∃ X,(W2.alloc (.cells #[.int .i64 (p+1),.int .i64 q] 75)).drew=X:=⟨_,rfl⟩;rw[hX];have hbX:Below W2.heap.size W2 X:=by rw[← hX];exact((Below.refl _ _).alloc (Nat.le_refl _) _).trans ⟨rfl,rfl,rfl,by simp[World.drew],fun _ _=>rfl⟩
    have hd:Below X.heap.size X X.drew:=⟨rfl,rfl,rfl,Nat.le_refl _,fun _ _=>rfl⟩;have heX:=hHeH.out.below hbX;have x0:=heX.c0;have y1:=(hbX.cell (cell?_lt r1)).trans r1;have y2:=(hbX.cell (cell?_lt r2)).trans r2;have y3:=(hbX.cell (cell?_lt r3)).trans r3;have yw:=(hbX.cell (cell?_lt rw0)).trans rw0;have z0:X.cell? ⟨W.heap.size+2,0,none⟩=some (.int .i64 (p+1)):=by rw[← hX,← hsz2];exact cell_new W2 _ _ 0
    have z1:X.cell? ⟨W.heap.size+2,1,none⟩=some (.int .i64 q):=by rw[← hX,← hsz2];exact cell_new W2 _ _ 1
    obtain⟨w6,hrun,hm6,ht6⟩:=(heX.map.below hd heX.map.lt).store (t:=55) Tryz.underlying55 injT (by simp only[maxLen];omega) (x:=ke) hkey ((p+1),q);have hrun:(Instr.mapUpdate 55 (.map (some mu)) (.string ke) (.agg #[.int .i64 (p+1),.int .i64 q])).run Tryz.prog X.drew = .ok () w6:=hrun;have hg6:X.grownBy w6 (some mu):=World.grownBy.trans ⟨hd.os,hd.tape,hd.output,hd.size,fun k hk _=>hd.block k hk⟩ ht6.grown;clear g0 g1 g2 g3 r1 r2 r3 rw0 ht6 hd;obtain⟨hXH,hbXH,heXH,hm6H,hg6H⟩:=hqb hX hbX heX hm6 (Lib.hid hg6);clear hX hbX heX hm6 hg6;have hon6:Only (fun k=>k=b∨k=mu∨v.ownBlock=some k) W w6:=(Only.of_below (hb2H.out.trans (hbXH.out.mono hcl))).grown hg6H.out (fun k hk _=>.inr (.inl (by injection hk with hk;exact hk.symm)))
    go_region
    obtain⟨c6,hc6⟩:∃ y,(if (f ke).isSome=true then c else c+1)=y:=⟨_,rfl⟩;have hc61:c6≤c+1:=by rw[← hc6];exact ite_le_succ _ c
    have hm6:=hm6H.out;rw[hc6]at hm6;have he6:=heXH.out.turned hg6H.out hm6;have hn6:∀ j,j<2→some (W.heap.size+j)≠some mu:=fun j _ e=>by injection e;omega
    have a2:=hg6H.out.cell y2 (hn6 0 (by omega));have a3:=hg6H.out.cell y3 (hn6 0 (by omega));have aw:=hg6H.out.cell yw (hn6 1 (by omega));clear hm6H heXH hm6 hrun x0 y1 y2 y3 yw z0 z1 hXH hbXH hg6H hc6;have e2:=he6.c2;have e3:=he6.c3;have e1:=he6.c1;have ez:=he6.fz;have ez1:=ez 1;have ez2:=ez 2;have ez3:=ez 3;clear ez;obtain⟨he6H,hon6H⟩:=hq2 he6 (Lib.hid hon6);clear he6 hon6
    cases hxa:x.aside
    ·rw[hxa]at e2;go_wp2_with fail;have heT:=he6H.out;obtain⟨A9,cap9,hv9⟩:=heT.own.form;subst hv9;have hob:∀ n m,(Value.slice A9 n cap9).ownBlock=(Value.slice A9 m cap9).ownBlock:=by cases A9 <;> intros <;> rfl
     have hcT:∀ j:Nat,j<2→some (W.heap.size+j)≠(Value.slice A9 x.sh.length cap9).ownBlock:=fun j _ e=>by have:=hvlt _ e.symm;omega
     have t2:=a2;have tw:=aw;have onT:=hon6H.out;have hvT:∀ k,(Value.slice A9 x.sh.length cap9).ownBlock=some k→k<W.heap.size→(Value.slice A9 x.sh.length cap9).ownBlock=some k:=fun k hk _=>hk;have hvT9:∀ k,(Value.slice A9 x.sh.length cap9).ownBlock=some k→k<W.heap.size→(k=b∨k=mu∨(Value.slice A9 x.sh.length cap9).ownBlock=some k):=fun k hk _=>.inr (.inr hk);refine(del_own 44 #[.pointer (some ⟨W.heap.size,0,none⟩),.pointer (some ⟨W.heap.size+1,0,none⟩)] (enters_of Tryz.func44 (by kernel_rfl) rfl) (fun t=>decide (t≤at_-window)) A9 _ cap9 x.sh _ base heT.own (by omega)
      (fun X y hX=>see1_fn X W.heap.size y at_ window (hX.cell t2 (hcT 0 (by decide))) (hX.cell tw (hcT 1 (by decide))) hat hwin)).mono ?_
     rintro e w9 ⟨k9,rfl,hown9,hg9⟩;have hk9:=hown9.len;have nv9:(Value.slice A9 k9 cap9).ownBlock≠some b:=fun e=>heT.nv ((hob _ k9).trans e);have nm9:(Value.slice A9 k9 cap9).ownBlock≠some mu:=fun e=>heT.nm ((hob _ k9).trans e);have he9:=heT.reown hg9 hown9 nv9 nm9;have on9:=(onT.grown hg9 hvT9).set (p:=⟨b,1,none⟩) (.inl rfl) (.slice A9 k9 cap9);have q1:=hg9.cell heT.c1 (fun e=>heT.nv e.symm);have q2:=hg9.cell heT.c2 (fun e=>heT.nv e.symm);have q3:=hg9.cell heT.c3 (fun e=>heT.nv e.symm);have qf:∀ j,w9.frozen? ⟨b,j,none⟩=false:=fun j=>(World.frozen?_of_block (a:=⟨b,j,none⟩) (hg9.block b (cell?_lt heT.c0) (fun e=>heT.nv e.symm))).trans (heT.fz j);have qf1:=qf 1;have qf2:=qf 2;have qf3:=qf 3;have hv9:=fun k hk hlt=>hvT k ((hob _ k9).trans hk) hlt;have hsb:shakenB (p,q) true=false:=by unfold shakenB;simp[hsk]
     have hstep:stepH many window good (shakenB (p,q) true) ⟨te,ke,at_,true,se⟩ x=if many≤(k9:Int) then ⟨(x.sh).filter fun t=>!decide (t≤at_-window),true,0⟩ else ⟨(x.sh).filter fun t=>!decide (t≤at_-window),false,x.good⟩:=by
      rw[hsb,← hk9];unfold stepH;simp[hxa]
     clear e1 e2 e3 ez1 ez2 ez3 a2 a3 aw qf hg9 t2 tw hcT onT;obtain⟨he9H,on9H,hown9H,hk9H,hstepH⟩:=hqb he9 on9 hown9 hk9 (Lib.hid hstep);clear he9 on9 hown9 hk9 hstep
     by_cases hmn:many≤(k9:Int)
     ·go_wp2_with fail
      go_end0
      refine⟨rfl,.slice A9 k9 cap9,c6,?_,hc61,hv9,(on9H.out.set (.inl rfl) _).set (.inl rfl) _⟩;rw[hstepH.out,if_pos hmn];have k2:=he9H.out.set (y:=⟨(x.sh).filter fun t=>!decide (t≤at_-window),true,x.good⟩) 2 (.bool true) (by decide) (by decide) rfl rfl rfl he9H.out.own nv9 nm9;exact k2.set (y:=⟨(x.sh).filter fun t=>!decide (t≤at_-window),true,0⟩) 3 (.int .i64 0) (by decide) (by decide) rfl rfl rfl k2.own nv9 nm9
     ·go_wp2_with fail
      go_end0
      refine⟨rfl,.slice A9 k9 cap9,c6,?_,hc61,hv9,on9H.out⟩;rw[hstepH.out,if_neg (by omega)];have k2:=he9H.out;simp only[hxa]at k2;exact k2
    ·rw[hxa]at e2
     by_cases hg:good≤x.good+1
     ·have hst:∀ k,stepH many window good k ⟨te,ke,at_,true,se⟩ x=⟨[],false,x.good+1⟩:=fun k=>by unfold stepH;simp[hxa,hg]
      go_wp2_with fail
      (try simp only[Exit.inBlock,Exit.then])
      refine bodyPost_ret (results_none rfl _ _ _) rfl ?_;refine⟨rfl,.slice none 0 0,c6,?_,hc61,fun k hk=>(by cases hk),((hon6H.out.set (.inl rfl) _).set (.inl rfl) _).set (.inl rfl) _⟩
      try rw[hst]
      have k3:=he6H.out.set (y:=⟨x.sh,true,x.good+1⟩) 3 (.int .i64 (x.good+1)) (by decide) (by decide) rfl (by simp[hxa]) rfl he6H.out.own hnv hnm;have k2:=k3.set (y:=⟨x.sh,false,x.good+1⟩) 2 (.bool false) (by decide) (by decide) rfl rfl rfl k3.own hnv hnm;exact k2.set (y:=⟨[],false,x.good+1⟩) 1 (.slice none 0 0) (by decide) (by decide) rfl rfl rfl (Own.nil _ _) (by simp[Value.ownBlock]) (by simp[Value.ownBlock])
     ·have hst:∀ k,stepH many window good k ⟨te,ke,at_,true,se⟩ x=⟨x.sh,true,x.good+1⟩:=fun k=>by unfold stepH;simp[hxa,hg]
      go_wp2_with fail
      (try simp only[Exit.inBlock,Exit.then])
      refine bodyPost_ret (results_none rfl _ _ _) rfl ?_;refine⟨rfl,v,c6,?_,hc61,fun k hk _=>hk,hon6H.out.set (.inl rfl) _⟩
      try rw[hst]
      exact he6H.out.set (y:=⟨x.sh,true,x.good+1⟩) 3 (.int .i64 (x.good+1)) (by decide) (by decide) rfl (by simp[hxa]) rfl he6H.out.own hnv hnm
end Go.Proofs.YtcdpdaloceengaaGreatDoor.C10
namespace Go.Proofs.YtcdpdaloceengaaGreatDoor.C10
open Go.RowKit
def verdF (x:Int × Int):Int:=if x.1+x.2=0 then 1 else if x.2=0 then 2 else if x.1=0 then 3 else 4
end Go.Proofs.YtcdpdaloceengaaGreatDoor.C10
namespace Go.Proofs.YtcdpdaloceengaaGreatDoor.C10
open Go.RowKit Go.Maps
def FlakyIn (l:List TestRun) (s:ByteArray):Prop:=∃ k:ByteArray,verdF (tal l (s,k))=4
def FlakyAns (l:List TestRun) (c:Int) (L:List ByteArray):Prop:=if c=0 then Rising L∧∀ s,s∈L↔FlakyIn l s else L = []
theorem FlakyAns.eq {l:List TestRun} {c:Int} {L L':List ByteArray} (h:FlakyAns l c L) (h':FlakyAns l c L'):L=L':=by
 unfold FlakyAns at h h'
 split at h
 ·rename_i hc
  rw[if_pos hc]at h';exact h.1.eq h'.1 (fun s=>(h.2 s).trans (h'.2 s).symm)
 ·rename_i hc
  rw[if_neg hc]at h';rw[h,h']
theorem tal_mem:∀ (l:List TestRun) (x:ByteArray × ByteArray),tal l x≠(0,0)→∃ r∈l,(r.test,r.key)=x
 | [],x,h=>absurd rfl h
 | r::s,x,h=>by
  rw[tal]at h
  by_cases e:(r.test,r.key)=x
  ·exact⟨r,List.mem_cons_self ..,e⟩
  ·rw[if_neg e]at h;obtain⟨q,hq,hx⟩:=tal_mem s x h;exact⟨q,List.mem_cons_of_mem _ hq,hx⟩
section
variable {α:Type} {R:Rd α} {e:TypeId} {w w':World} {base:Nat} {v:Value} {l:List α} {F:Nat→Prop}
theorem own_only (h:Own R e w base v l) (ho:Only F w w') (hF:∀ k,v.ownBlock=some k→¬ F k) (hok:∀ x∈l,R.ok w x→R.ok w' x):Own R e w' base v l:=by
 refine⟨⟨h.1.1,?_⟩,fun x hx=>hok x hx (h.2 x hx)⟩
 rcases h.1.2 with hn | ⟨g,cap,cur,rfl,hb,hg,h1⟩
 ·exact .inl hn
 ·have hlt:g<w.heap.size:=by
   rcases Nat.lt_or_ge g w.heap.size with h | h
   ·exact h
   ·rw[Array.getElem?_eq_none h]at hg;cases hg
  exact .inr ⟨g,cap,cur,rfl,hb,(ho.block g hlt (hF g rfl)).trans hg,h1⟩
theorem tmap_only {P:Program} {k:TypeId} {κ β:Type} {K:KD P k κ} {val:β→Value} {b c:Nat} {f:κ→Option β} (h:TMap K val w b f c) (ho:Only F w w') (hF:¬ F b):TMap K val w' b f c:=by
 have hlt:=h.lt;obtain⟨D,⟨es,clock,he,r⟩,r2⟩:=h;exact⟨D,⟨es,clock,(ho.block b hlt hF).trans he,r⟩,r2⟩
end
theorem HeAt.only {F:Nat→Prop} {w w':World} {base b mu c:Nat} {f:ByteArray→Option (Int × Int)} {x:Hst} {v:Value} (h:HeAt w base b f x mu v c) (ho:Only F w w') (hF:∀ n,(n=b∨n=mu∨v.ownBlock=some n)→¬ F n):HeAt w' base b f x mu v c:=by
 have hbl:b<w.heap.size:=cell?_lt h.c0;have hb:=ho.block b hbl (hF b (.inl rfl));have cc:∀ j,w'.cell? ⟨b,j,none⟩=w.cell? ⟨b,j,none⟩:=fun j=>World.cell?_of_block (a:=⟨b,j,none⟩) hb;exact⟨(cc 0).trans h.c0,(cc 1).trans h.c1,(cc 2).trans h.c2,(cc 3).trans h.c3,fun j=>(World.frozen?_of_block (a:=⟨b,j,none⟩) hb).trans (h.fz j),tmap_only h.map ho (hF mu (.inr (.inl rfl))),own_only h.own ho (fun k hk=>hF k (.inr (.inr hk))) (fun _ _ h=>h),h.ne,h.nv,h.nm⟩
/-! ### the states,in plain words -/
def hst0:Hst:=⟨[],false,0⟩
def hstK (many window good:Int) (l:List TestRun):Nat→ByteArray→Option Hst
 | 0=>fun _=>none
 | k+1=>match l[k]? with
  | some r=>upd (hstK many window good l k) r.test (stepH many window good (shakenB (tal (l.take k) (r.test,r.key)) r.pass) r ((hstK many window good l k r.test).getD hst0))
  | none=>hstK many window good l k
theorem hstK_succ {many window good:Int} {l:List TestRun} {k:Nat} {r:TestRun} (h:l[k]? = some r) :
  hstK many window good l (k+1)=upd (hstK many window good l k) r.test (stepH many window good (shakenB (tal (l.take k) (r.test,r.key)) r.pass) r ((hstK many window good l k r.test).getD hst0)):=by rw[hstK,h]
theorem filter_len {α:Type} (p:α→Bool) (l:List α) (n:Nat) (h:l.length≤n):(l.filter p).length≤n:=Nat.le_trans (List.length_filter_le _ _) h
theorem stepH_bound (many window good:Int) (k:Bool) (r:TestRun) (x:Hst) (n:Nat) (h1:x.sh.length≤n) (h2:0≤x.good) (h3:x.good≤n) :
  (stepH many window good k r x).sh.length≤n+1∧0≤(stepH many window good k r x).good∧(stepH many window good k r x).good≤n+1:=by
 have hs:(if k=true then x.sh ++ [r.at_] else x.sh).length≤n+1:=by
  split
  ·rw[List.length_append];simp;omega
  ·omega
 have hf:=filter_len (fun t=>!decide (t≤r.at_-window)) _ _ hs;unfold stepH
 by_cases ha:x.aside=true
 ·rw[if_pos ha]
  by_cases hp:r.pass=true
  ·rw[if_pos hp]
   by_cases hg:good≤x.good+1
   ·rw[if_pos hg];simp only[List.length_nil];omega
   ·rw[if_neg hg];simp only;omega
  ·rw[if_neg hp]
   by_cases hg:good≤0
   ·rw[if_pos hg];simp only[List.length_nil];omega
   ·rw[if_neg hg];simp only;omega
 ·rw[if_neg ha]
  by_cases hm:many≤(((if k=true then x.sh ++ [r.at_] else x.sh).filter fun t=>!decide (t≤r.at_-window)).length:Int)
  ·rw[if_pos hm];simp only;omega
  ·rw[if_neg hm];simp only;omega
theorem hstK_bound (many window good:Int) (l:List TestRun):∀ (k:Nat) (s:ByteArray) (x:Hst),hstK many window good l k s=some x→x.sh.length≤k∧0≤x.good∧x.good≤k
 | 0,s,x,h=>by cases h
 | k+1,s,x,h=>by
  have ih:=hstK_bound many window good l k
  cases hr:l[k]? with
  | none =>
   rw[hstK,hr]at h;have:=ih s x h;omega
  | some r =>
   rw[hstK_succ hr]at h;unfold upd at h
   split at h
   ·injection h with h;subst h;have hb:((hstK many window good l k r.test).getD hst0).sh.length≤k∧0≤((hstK many window good l k r.test).getD hst0).good∧((hstK many window good l k r.test).getD hst0).good≤k:=by
     cases hx:hstK many window good l k r.test with
     | none=>simp[hst0]
     | some y=>simpa using ih _ _ hx
    have:=stepH_bound many window good (shakenB (tal (l.take k) (r.test,r.key)) r.pass) r _ k hb.1 hb.2.1 hb.2.2;omega
   ·have:=ih s x h;omega
theorem hstK_mem (many window good:Int) (l:List TestRun):∀ (k:Nat) (s:ByteArray),(∃ r∈l.take k,r.test=s)↔(hstK many window good l k s).isSome=true
 | 0,s=>by simp[hstK]
 | k+1,s=>by
  have ih:=hstK_mem many window good l k s
  cases hr:l[k]? with
  | none =>
   have:l.take (k+1)=l.take k:=by rw[List.take_add_one,hr];simp
   rw[hstK,hr,this];exact ih
  | some r =>
   rw[hstK_succ hr,List.take_add_one,hr];unfold upd;simp only[Option.toList_some,List.mem_append,List.mem_singleton]
   by_cases e:s=r.test
   ·rw[if_pos e];exact⟨fun _=>rfl,fun _=>⟨r,.inr rfl,e.symm⟩⟩
   ·rw[if_neg e,← ih]
    constructor
    ·rintro⟨q,hq | hq,hs⟩
     ·exact⟨q,hq,hs⟩
     ·subst hq;exact absurd hs.symm e
    ·rintro⟨q,hq,hs⟩;exact⟨q,.inl hq,hs⟩
theorem hstK_take (many window good:Int) (l:List TestRun) (m:Nat):∀ k,k≤m→hstK many window good (l.take m) k=hstK many window good l k
 | 0,_=>rfl
 | k+1,h=>by
  have ih:=hstK_take many window good l m k (by omega);have e:(l.take m)[k]? = l[k]?:=by rw[List.getElem?_take,if_pos (by omega)]
  rw[hstK,hstK,e,ih]
  cases l[k]? with
  | none=>rfl
  | some r =>
   simp only;rw[List.take_take,Nat.min_eq_left (by omega)]
def tl (l:List TestRun) (s:ByteArray):ByteArray→Option (Int × Int):=fun k=>talF l (s,k)
theorem tl_same (l:List TestRun) (r:TestRun):upd (tl l r.test) r.key (tallyOn (tal l (r.test,r.key)) r.pass)=tl (l ++ [r]) r.test:=by
 funext k
 have h:=congrFun (talF_snoc l r) (r.test,k);unfold tl;rw[← h];unfold upd
 by_cases e:k=r.key
 ·subst e;rw[if_pos rfl,if_pos rfl,tal_snoc,if_pos rfl];rfl
 ·rw[if_neg e,if_neg (fun h=>e (by injection h))]
theorem tl_other (l:List TestRun) (r:TestRun) {s:ByteArray} (hs:s≠r.test):tl (l ++ [r]) s=tl l s:=by
 funext k
 have h:=congrFun (talF_snoc l r) (s,k);unfold tl;rw[← h];unfold upd;rw[if_neg (fun h=>hs (by injection h))]
theorem tl_none (l:List TestRun) (s:ByteArray) (h:¬ ∃ r∈l,r.test=s):tl l s=fun _=>none:=by
 funext k
 unfold tl talF
 by_cases e:tal l (s,k)=(0,0)
 ·rw[if_pos e]
 ·obtain⟨r,hr,hx⟩:=tal_mem l (s,k) e;exact absurd ⟨r,hr,by injection hx⟩ h
theorem tl_get (l:List TestRun) (s k:ByteArray):(tl l s k).getD (0,0)=tal l (s,k):=by
 unfold tl talF
 split
 ·rename_i h;rw[h];rfl
 ·rfl
/-! ### where they stand -/
structure Ent where
 b:Nat
 mu:Nat
 v:Value
 c:Nat
 x:Hst
def foot (e:Ent) (n:Nat):Prop:=n=e.b∨n=e.mu∨e.v.ownBlock=some n
structure Fam (w:World) (base M:Nat) (g:ByteArray→ByteArray→Option (Int × Int)) (h:ByteArray→Option Hst) (n:Nat) (fam:ByteArray→Option Ent):Prop where
 he:∀ s e,fam s=some e→HeAt w base e.b (g s) e.x e.mu e.v e.c
 st:∀ s,(fam s).map (·.x)=h s
 dis:∀ s s' e e',fam s=some e→fam s'=some e'→s≠s'→∀ n,foot e n→¬ foot e' n
 out:∀ s e,fam s=some e→¬ foot e M
 le:∀ s e,fam s=some e→e.c≤n
 ge:∀ s e,fam s=some e→∀ k,foot e k→base≤k
theorem HeAt.foot_lt {w:World} {base:Nat} {e:Ent} {f:ByteArray→Option (Int × Int)} (h:HeAt w base e.b f e.x e.mu e.v e.c):∀ n,foot e n→n<w.heap.size:=by
 rintro n (rfl | rfl | hn)
 ·exact cell?_lt h.c0
 ·exact h.map.lt
 ·exact(h.own.1.lt n hn).2
theorem Fam.below {w w':World} {base M n:Nat} {g:ByteArray→ByteArray→Option (Int × Int)} {h:ByteArray→Option Hst} {fam:ByteArray→Option Ent} (hF:Fam w base M g h n fam) (hb:Below w.heap.size w w'):Fam w' base M g h n fam :=
 ⟨fun s e hs=>(hF.he s e hs).below hb,hF.st,hF.dis,hF.out,hF.le,hF.ge⟩
theorem Fam.grownM {w w':World} {base M n:Nat} {g:ByteArray→ByteArray→Option (Int × Int)} {h:ByteArray→Option Hst} {fam:ByteArray→Option Ent} (hF:Fam w base M g h n fam) (hg:w.grownBy w' (some M)):Fam w' base M g h n fam:=by
 have ho:Only (fun k=>k=M) w w':=⟨hg.os,hg.tape,hg.output,hg.size,fun k hk hne=>hg.block k hk (fun e=>hne (by injection e))⟩;exact⟨fun s e hs=>(hF.he s e hs).only ho (fun n hn hM=>by subst hM;exact hF.out s e hs hn),hF.st,hF.dis,hF.out,hF.le,hF.ge⟩
theorem Fam.put {w w':World} {base M n:Nat} {g g':ByteArray→ByteArray→Option (Int × Int)} {h:ByteArray→Option Hst} {fam:ByteArray→Option Ent} (hF:Fam w base M g h n fam) (t:ByteArray) (e':Ent) (F:Nat→Prop)
  (ho:Only F w w') (hFM:∀ k,foot e' k→k<w.heap.size→F k) (hFo:∀ s e,s≠t→fam s=some e→∀ k,foot e k→¬ F k) (hM:¬ F M) (hMl:M<w.heap.size)
  (he:HeAt w' base e'.b (g' t) e'.x e'.mu e'.v e'.c) (hg:∀ s,s≠t→g' s=g s) (hc:e'.c≤n+1) (hge:∀ k,foot e' k→base≤k):Fam w' base M g' (upd h t e'.x) (n+1) (upd fam t e'):=by
 have hlt:∀ s e,fam s=some e→∀ k,foot e k→k<w.heap.size:=fun s e hs=>(hF.he s e hs).foot_lt;refine⟨fun s e hs=>?_,fun s=>?_,fun s s' e1 e2 h1 h2 hne k hk1 hk2=>?_,fun s e hs hk=>?_,fun s e hs=>?_,fun s e hs=>?_⟩
 ·unfold upd at hs
  split at hs
  ·rename_i e0
   injection hs with hs;subst hs e0;exact he
  ·rename_i e0
   rw[hg s e0];exact(hF.he s e hs).only ho (fun k hk=>hFo s e e0 hs k hk)
 ·unfold upd
  split
  ·rfl
  ·exact hF.st s
 ·unfold upd at h1 h2
  split at h1
  ·rename_i e0
   subst e0;injection h1 with h1;subst h1;rw[if_neg (fun h=>hne h.symm)]at h2;exact hFo s' e2 (fun h=>hne h.symm) h2 k hk2 (hFM k hk1 (hlt s' e2 h2 k hk2))
  ·rename_i e0
   split at h2
   ·injection h2 with h2;subst h2;exact hFo s e1 e0 h1 k hk1 (hFM k hk2 (hlt s e1 h1 k hk1))
   ·exact hF.dis s s' e1 e2 h1 h2 hne k hk1 hk2
 ·unfold upd at hs
  split at hs
  ·injection hs with hs;subst hs;exact hM (hFM M hk hMl)
  ·exact hF.out s e hs hk
 ·unfold upd at hs
  split at hs
  ·injection hs with hs;subst hs;exact hc
  ·have:=hF.le s e hs;omega
 ·unfold upd at hs
  split at hs
  ·injection hs with hs;subst hs;exact hge
  ·exact hF.ge s e hs
theorem only_below {F:Nat→Prop} {a b:World} {B:Nat} (ho:Only F a b) (h:∀ n,F n→B≤n) (hB:B≤a.heap.size):Below B a b :=
 ⟨ho.os,ho.tape,ho.output,ho.size,fun k hk=>ho.block k (by omega) (fun hF=>by have:=h k hF;omega)⟩
end Go.Proofs.YtcdpdaloceengaaGreatDoor.C10