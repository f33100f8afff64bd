/-
 Several texts of mine as one, without what is not wanted here: XDrW, XWrA.
-/
import Derived.Test.YtpdjjjiknijpkaaGreatDoorTvMC10
import Derived.Test.YtpdjjjiknijpkaaGreatDoorTvNC10
set_option linter.unusedVariables false
set_option linter.unusedSimpArgs false
set_option maxRecDepth 100000
set_option maxHeartbeats 8000000
namespace Go.Proofs.YtpdjjjiknijpkaaGreatDoor.C10
open Go.ChangeShapes Go.WideShapes Go.Deep Go.RowKit Go.Lib
structure RdM (w0:World) (rb:Nat) (A:Option Addr) (m c:Nat) (v:Value) (F:List File) (w:World):Prop where
 blk:Blk w rb [.slice A m c,v]
 own:Own RFv 95 w (rb+1) v F
 el:∀ x∈F,(RSl RU8).ok w x.bytes∧Far 0 (rb+1) v x.bytes
 bel:Below w0.heap.size w0 w
 rb:w0.heap.size≤rb
theorem RdM.below {w0 w w':World} {rb m c:Nat} {A:Option Addr} {v:Value} {F:List File} (h:RdM w0 rb A m c v F w) (hb:Below w.heap.size w w'):RdM w0 rb A m c v F w' :=
 ⟨h.blk.keep (hb.block rb (h.blk.lt (by simp))),h.own.below hb,fun x hx=>⟨(RSl RU8).mono _ _ _ hb (h.el x hx).1,(h.el x hx).2⟩,h.bel.trans (hb.mono h.bel.size),h.rb⟩
def Sv (rb:Nat) (v:Value) (b:Nat):Prop:=b=rb∨v.ownBlock=some b
theorem RdM.lt {w0 w:World} {rb m c:Nat} {A:Option Addr} {v:Value} {F:List File} (h:RdM w0 rb A m c v F w):∀ g,v.ownBlock=some g→rb<g∧g<w.heap.size:=fun g hg=>by have:=h.own.1.lt g hg;omega
theorem RdM.push {w0 w w8:World} {rb m c:Nat} {A:Option Addr} {v v8:Value} {F:List File} {x:File} (h:RdM w0 rb A m c v F w) (hx:(RSl RU8).ok w x.bytes) (hf:Far 0 (rb+1) v x.bytes)
  (ho:Own RFv 95 w8 (rb+1) v8 (F ++ [x])) (hg:w.grownBy w8 v.ownBlock) (hat:v8.ownBlock=v.ownBlock∨v8.ownBlock=some w.heap.size) :
  RdM w0 rb A m c v8 (F ++ [x]) (w8.setCell ⟨rb,1,none⟩ v8)∧Kp (Sv rb v) w (w8.setCell ⟨rb,1,none⟩ v8)∧∀ g,v8.ownBlock=some g→v.ownBlock=some g∨w.heap.size≤g:=by
 have hrb:rb<w.heap.size:=h.blk.lt (by simp);have hk8:Kp (Sv rb v) w w8:=Kp.of_grown hg fun k hk=>.inr hk;have hgs:=grown_setc w8 ⟨rb,1,none⟩ v8;have hv8:∀ g,v8.ownBlock=some g→v.ownBlock=some g∨w.heap.size≤g:=fun g hg9=>by
  rcases hat with h1 | h1
  ·exact .inl (h1 ▸ hg9)
  ·rw[h1]at hg9;injection hg9 with hg9;exact .inr (by omega)
 refine⟨⟨?_,?_,fun y hy=>?_,?_,h.rb⟩,hk8.setCell (.inr (.inl rfl)) _,hv8⟩
 ·have h1:Blk w8 rb [.slice A m c,v]:=h.blk.keep (hg.block rb hrb fun e=>by have:=(h.lt rb e.symm).1;omega);exact h1.set (k:=1) (by simp) v8
 ·refine ho.kept hgs ?_ (fun _ _ h=>h)
  cases hv:v8.ownBlock with
  | none=>exact .inl rfl
  | some g=>exact .inr fun e=>by injection e with e;have e2:g=rb:=e;have:=(ho.1.lt g hv).1;omega
 ·have h1:(RSl RU8).ok w y.bytes∧Far 0 (rb+1) v y.bytes:=by
   rcases List.mem_append.1 hy with h2 | h2
   ·exact h.el y h2
   ·rw[List.mem_singleton.1 h2];exact⟨hx,hf⟩
  obtain⟨h3,h4⟩:=far_step h1.1 h1.2 (fun _ _=>Nat.zero_le _) hg hat;refine⟨sl_grown h3 hgs fun hn ad hA e=>?_,h4⟩;injection e with e
  rcases h4 hn ad hA with h5 | h5
  ·omega
  ·have:=h5.1;have e2:ad.block=rb:=e;omega
 ·have h1:Below w0.heap.size w0 w8:=h.bel.grown hg (Nat.le_trans (Nat.le_refl _) h.bel.size) fun k hk=>by have:=(h.lt k hk).1;have:=h.rb;omega
  exact h1.setCell h.rb _
def DrAns (w0:World) (rb:Nat) (A:Option Addr) (m c:Nat) (v:Value) (F:List File) (T:List TFi) (w:World) (e:Ending) (w':World):Prop :=
 ∃ v' F',e = .returned (.int .i64 0)∧RdM w0 rb A m c v' F' w'∧F'.map tfOf=F.map tfOf++T∧Kp (Sv rb v) w w'∧∀ g,v'.ownBlock=some g→v.ownBlock=some g∨w.heap.size≤g
def DrHyp (L:List TFi) (O:List ObT) (N:Nat):Prop:=∀ (l:List TFi) (path:ByteArray) (w0:World) (rb:Nat) (A:Option Addr) (m c:Nat) (v:Value) (F:List File) (w:World),IsDir L N l→(l = []→path=⟨#[]⟩)→(∀ f∈l,path.size+f.path.length≤200)→path.size≤200→F.length+l.length≤1000→Store w0 A m O→MaxLenAt w0→RdM w0 rb A m c v F w →
 Calls Tryz.prog 34 #[.pointer (some ⟨rb,0,none⟩),.string (digF (TD (N+1) l)),.string path] w (DrAns w0 rb A m c v F (outF (N+1) path.data.toList l) w)
def DrRel (Y:List TN) (N:Nat) (p:Byt) (w0:World) (rb:Nat) (A:Option Addr) (m c:Nat) (v0:Value) (F:List File) (w2:World) (i:Value) (wr:World):Prop :=
 ∃ (k:Nat) (v:Value) (G:List File),k≤Y.length∧i = .int .i64 k∧RdM w0 rb A m c v G wr∧G.map tfOf=F.map tfOf++(Y.take k).flatMap (outN (outF N) p)∧Kp (Sv rb v0) w2 wr∧∀ g,v.ownBlock=some g→v0.ownBlock=some g∨w2.heap.size≤g
theorem own_u8_ok {w:World} {base:Nat} {A:Option Addr} {n c:Nat} {l:List UInt8} (h:Own RU8 5 w base (.slice A n c) l):(RSl RU8).ok w ⟨A,n,c,l⟩:=by
 refine⟨h.slAt,h.cap_le,?_,fun hA=>own_none_cap h hA⟩
 rcases h.1.2 with ⟨h1,_⟩ | ⟨g,cap',cur,hvv,_,_,_,h2,_⟩
 ·injection h1 with _ _ h3;show c≤maxLen;omega
 ·injection hvv with _ _ h3;show c≤maxLen;omega
theorem rdir_step (L:List TFi) (hL:TreeOk L) (hF:Faith (Cs 200 L)) (O:List ObT) (hgd:Good L O) (hco:Complete L O) (N:Nat) (ih:∀ M,N=M+1→DrHyp L O M):DrHyp L O N:=by
 intro l path w0 rb A m c v F w hd hnil hpl hpz hcnt hst hmx hM;obtain⟨T,hT⟩:∃ T,outF (N+1) path.data.toList l=T:=⟨_,rfl⟩;rw[hT];obtain⟨Z,hZ⟩:∃ Z,DrAns w0 rb A m c v F T w=Z:=⟨_,rfl⟩;have hZ':∀ e W,DrAns w0 rb A m c v F T w e W→Z e W:=fun e W h=>by rw[← hZ];exact h
 rw[hZ];clear hZ;have hok:=hd.ok hL;obtain⟨Y,hY⟩:∃ Y,nodesS l=Y:=⟨_,rfl⟩;have hTY:T=Y.flatMap (outN (outF N) path.data.toList):=by rw[← hT,← hY];rfl
 have hpm:=outF_perm (N+1) path.data.toList l hok.wf hok.path;obtain⟨dg,hdg⟩:∃ d,digF (TD (N+1) l)=d:=⟨_,rfl⟩;rw[hdg];obtain⟨hin,hinF⟩:=hco N l hd;have hstw:=hst.below hM.bel;have hfd:=find_ob A m c O dg w hstw;obtain⟨c0,-⟩:=hM.blk 0 _ rfl;have hTl:(Y.flatMap (outN (outF N) path.data.toList)).length=l.length:=by rw[← hTY,← hT,hpm.length_eq,List.length_map]
 obtain⟨hZ'H,hLH,hFH,hgdH,hcoH,hdH,hnilH,hplH,hstH,hmxH,hMH,hTH,hokH,hYH,hTYH,hpmH,hdgH,hinH,hinFH,hstwH,hfdH,ihH,hTlH⟩:=hq2 hZ' (hq2 hL (hqb hF hgd hco hd (hqc hnil hpl hst hmx hM hT hok hY (hqc hTY hpm hdg hin hinF hstw hfd ih (Lib.hid hTl)))));clear hZ' hL hF hgd hco hd hnil hpl hst hmx hM hT hok hY hTY hpm hdg hin hinF hstw hfd ih hTl;go_enter Tryz.func34,Tryz.ntmps34;go_wp2_with fail;refine hfdH.out.mono ?_;rintro e w1 ⟨hb1,hans⟩
 rcases hans with ⟨x,hx,hxd,rfl⟩ | ⟨hno,rfl⟩
 ·have htx:=hgdH.out.text hFH.out hx (hokH.out.cs _ (Cs_self N l)) (hxd.trans hdgH.out.symm);rw[ents_text]at htx;have hst1:=hstwH.out.below hb1;have hxb:=hst1.sl.2.2 x hx;have hxn:x.bytes.n≤2000000:=by have h1:=hst1.big x hx;have h2:x.bytes.l.length=x.bytes.n:=hxb.1.1;omega
  obtain⟨hEo,hEr,hEl,hEt⟩:=ents_ok hLH.out hdH.out;have hEn:=ents_nil (n:=N) (l:=l);have hEY:ents N l=Y.map (entN (TD N)):=by rw[← hYH.out];rfl
  obtain⟨E,hE⟩:∃ E,ents N l=E:=⟨_,rfl⟩;rw[hE]at htx hEo hEr hEl hEn hEY;obtain⟨xd,⟨xA,xn,xc,xl⟩⟩:=x;simp only at htx hxb hxn;subst htx;have hM1:=hMH.out.below hb1;have hmx1:=hmxH.out.below hM1.bel;have hrd:=readDir_any E hEo hEr (by omega) xA xn xc w1 hmx1 hxb hxn;have hEYl:E.length=Y.length:=by rw[hEY,List.length_map]
  obtain⟨hb1H,hxH,hxdH,hst1H,hxbH,hEoH,hErH,hEtH,hEnH,hEYH,hEH,hM1H,hmx1H,hrdH⟩:=hq2 hb1 (hqb hx hxd hst1 hxb (hqc hEo hEr hEt hEn hEY hE hM1 hmx1 (Lib.hid hrd)));clear hb1 hx hxd hst1 hxb hEo hEr hEt hEn hEY hE hM1 hmx1 hrd;go_wp2_with fail;refine hrdH.out.mono ?_;rintro e w2 ⟨AE,cE,rfl,hown,hb2⟩;have hM2:=hM1H.out.below hb2;have hw12:=hb2.size;have hvE:∀ b,(Value.slice AE E.length cE).ownBlock=some b→¬ Sv rb v b:=fun b hb h9=>by
   have h1:=(hown.1.lt b hb).1
   rcases h9 with h9 | h9
   ·have:=hM1H.out.blk.lt (by simp);omega
   ·have:=(hM1H.out.lt b h9).2;omega
  have hst0:DrRel Y N path.data.toList w0 rb A m c v F w2 (.int .i64 0) w2:=⟨0,v,F,Nat.zero_le _,rfl,hM2,by simp,Kp.refl _ _,fun g hg=>.inl hg⟩;clear hM2;obtain⟨hownH,hb2H,hvEH,hst0H⟩:=hq2 hown (hq2 hb2 (hq2 hvE (Lib.hid hst0)));clear hown hb2 hvE hst0
  by_cases hY0:Y = []
  ·have hE0:E = []:=List.eq_nil_of_length_eq_zero (by rw[hEYl,hY0];rfl);have i1:path.toList.isEmpty=true:=by rw[hnilH.out (hEnH.out hE0),Lib.toList_data];rfl
   clear hE0;go_wp2_with fail
   go_loopw [45] (fun i wr=>DrRel Y N path.data.toList w0 rb A m c v F w2 i wr) (fun i _=>E.length-(intOf i).toNat)
   case atStart=>exact hst0H.out
   case round =>
    clear hst0H;obtain⟨k,v5,G,hk,rfl,hMr,hG,hkp,hv5⟩:=hrel;have hlt:¬ k<E.length:=by
     have:Y.length=0:=by rw[hY0];rfl
     omega
    obtain rfl:k=Y.length:=by omega
    rw[List.take_of_length_le (Nat.le_refl _),← hTYH.out]at hG;have R:=hZ'H.out (.returned (.int .i64 0)) wr ⟨v5,G,rfl,hMr,hG,(Kp.of_below (hb1H.out.trans (hb2H.out.mono hb1H.out.size))).trans hkp,fun g hg=>(hv5 g hg).imp id fun h=>by have:=hb1H.out.size;omega⟩;have e5:decide (Y.length<E.length)=false:=decide_eq_false hlt;clear hMr hG hkp hv5;have RH:=Lib.hid R;clear R;go_wp2_with fail;exact RH.out
  ·go_wp2_with fail
   go_loopw [45] (fun i wr=>DrRel Y N path.data.toList w0 rb A m c v F w2 i wr) (fun i _=>E.length-(intOf i).toNat)
   case atStart=>exact hst0H.out
   case round =>
    clear hst0H;obtain⟨k,v5,G,hk,rfl,hMr,hG,hkp,hv5⟩:=hrel
    by_cases hlt:k<E.length
    ·have hltY:k<Y.length:=by omega
     obtain⟨y,hyk⟩:∃ y,Y[k]? = some y:=⟨Y[k]'(by omega),List.getElem?_eq_getElem _⟩;have hym:=List.mem_of_getElem? hyk;have hyw:y∈nodesS l:=by rw[hYH.out];exact hym
     have hyg:=nodesS_mem.1 hyw;have he1:E[k]? = some (entN (TD N) y):=by rw[hEYH.out,List.getElem?_map,hyk];rfl
     have hownr:=hkp.own hownH.out hvEH.out (fun _ h=>h);obtain⟨qb,hA⟩:=own_form hownr (by omega);subst hA;obtain⟨f0,f1,f2,f3⟩:=cells_Ent hownr.slAt he1;obtain⟨e1,he⟩:∃ e,entN (TD N) y=e:=⟨_,rfl⟩;have hen:e1.name.data.toList=y.name:=by rw[← he];unfold entN;cases y.file <;> simp
     have hed:e1.dir=y.file.isNone:=by rw[← he];unfold entN;cases y.file <;> rfl
     have heg:∀ f,y.file=some f→e1.digest=digF f.bs∧e1.run=f.run:=fun f hf=>by rw[← he];unfold entN;rw[hf];exact⟨rfl,rfl⟩
     have heg2:y.file=none→e1.digest=digF (TD N y.sub):=fun hf=>by rw[← he];unfold entN;rw[hf]
     rw[he]at f0 f1 f2 f3 he1;have hez:=(hEoH.out e1 (List.mem_of_getElem? he1)).size;obtain⟨xn',xg,xd',xr⟩:=e1;simp only at f0 f1 f2 f3 hen hed heg heg2 hez;have g0:wr.cell? ⟨qb,k*4,none⟩=some (.string xn'):=by simpa using f0
     have g1:wr.cell? ⟨qb,k*4+1,none⟩=some (.string xg):=by simpa using f1
     have g2:wr.cell? ⟨qb,k*4+2,none⟩=some (.bool xd'):=by simpa using f2
     have g3:wr.cell? ⟨qb,k*4+3,none⟩=some (.bool xr):=by simpa using f3
     clear f0 f1 f2 f3;obtain⟨W3,hW3⟩:∃ W,wr.alloc (.cells #[.string xn',.string xg,.bool xd',.bool xr] 73)=W:=⟨_,rfl⟩;have hb13:Below wr.heap.size wr W3:=by rw[← hW3];exact(Below.refl _ _).alloc (Nat.le_refl _) _
     have hz3:Blk W3 wr.heap.size [.string xn',.string xg,.bool xd',.bool xr]:=by rw[← hW3];exact blk_new wr _ _
     have hM3:=hMr.below hb13;have hst3:=hstH.out.below hM3.bel;have hmx3:=hmxH.out.below hM3.bel;obtain⟨z0,-⟩:=hz3 0 _ rfl;obtain⟨z1,-⟩:=hz3 1 _ rfl;obtain⟨z2,-⟩:=hz3 2 _ rfl;obtain⟨z3,-⟩:=hz3 3 _ rfl;obtain⟨xb0,hxb0⟩:∃ b,wr.heap.size=b:=⟨_,rfl⟩;rw[hxb0]at z0 z1 z2 z3 hz3;obtain⟨r0,-⟩:=hM3.blk 0 _ rfl;obtain⟨r1,-⟩:=hM3.blk 1 _ rfl;have htk:(Y.take (k+1)).flatMap (outN (outF N) path.data.toList)=(Y.take k).flatMap (outN (outF N) path.data.toList)++outN (outF N) path.data.toList y:=by
      rw[List.take_add_one,hyk,List.flatMap_append];simp
     have hcnt2:G.length+(outN (outF N) path.data.toList y).length≤1000:=by
      have h2:(Y.flatMap (outN (outF N) path.data.toList)).length=((Y.take (k+1)).flatMap (outN (outF N) path.data.toList)).length+((Y.drop (k+1)).flatMap (outN (outF N) path.data.toList)).length:=by
       rw[← List.length_append,← List.flatMap_append,List.take_append_drop]
      rw[htk,List.length_append]at h2;have h3:=congrArg List.length hG;rw[List.length_map,List.length_append,List.length_map]at h3;have h4:=hTlH.out;omega
     have hk13:Kp (Sv rb v5) wr W3:=Kp.of_below hb13;obtain⟨hykH,hymH,hywH,hygH,he1H,heH,hownrH,hMrH,hGH,hkpH,hv5H,hb13H,hz3H,hM3H,hst3H,hmx3H,htkH,hegH,heg2H,henH,hk13H⟩:=hqb hyk hym hyw hyg (hqc he1 he hownr hMr hG hkp hv5 hb13 (hqc hz3 hM3 hst3 hmx3 htk heg heg2 hen (Lib.hid hk13)));clear hyk hym hyw hyg he1 he hownr hMr hG hkp hv5 hb13 hz3 hM3 hst3 hmx3 htk heg heg2 hen hk13
     cases hyf:y.file with
     | some f =>
      obtain rfl:xd'=false:=by rw[hed,hyf];rfl
      clear hed;obtain⟨hgd1,hgr⟩:=hegH.out f hyf;have hmf:=mem_file hygH.out hyf;have hy1:outN (outF N) path.data.toList y = [⟨path.data.toList++y.name,f.run,f.bs⟩]:=by unfold outN;rw[hyf]
      rw[hy1]at hcnt2;have hGn:¬ 1000≤G.length:=by
       have:G.length+1≤1000:=by simpa using hcnt2
       omega
      have hpn:path.size+xn'.size≤200:=by
       have h1:=hplH.out f hmf.1;rw[hmf.2,← henH.out,← Lib.size_eq]at h1;exact h1
      have hpn2:¬ (200:Int)<(path.size:Int)+(xn'.size:Int):=by omega
      have hdr3:Below W3.heap.size W3 W3.drew:=(Below.refl _ _).drew;have hfd2:=find_ob A m c O xg W3.drew (hst3H.out.below hdr3);obtain⟨AG,cG,hvG⟩:∃ AG cG,v5 = .slice AG G.length cG:=hM3H.out.own.form;subst hvG;obtain⟨hxin⟩:Nonempty (InS O xg):=⟨by rw[hgd1];exact hinFH.out y hywH.out f hyf⟩;have hbc:f.bs∈Cs 200 L:=hokH.out.cs _ (Cs_file hywH.out hyf);clear hcnt2;obtain⟨hyfH,hgd1H,hgrH,hmfH,hy1H,hdr3H,hfd2H,hxinH,hbcH⟩:=hqc hyf hgd1 hgr hmf hy1 hdr3 hfd2 hxin (Lib.hid hbc);clear hyf hgd1 hgr hmf hy1 hdr3 hfd2 hxin hbc;go_wp2_with fail;refine startR (R:=Rk (fun _=>True) (fun V=>V.cell? ⟨rb,0,none⟩=some (.slice A m c)∧V.cell? ⟨xb0,1,none⟩=some (.string xg)) 99 99) (by kernel_rfl) ?_;have hC:W3.drew.cell? ⟨rb,0,none⟩=some (.slice A m c)∧W3.drew.cell? ⟨xb0,1,none⟩=some (.string xg):=⟨r0,z1⟩;refine takeC (i:=0) (d:=some 64) (v:=?_) rfl rfl (by kernel_rfl) (by kernel_rfl) (by kernel_rfl) (by kernel_rfl) (fun _ _ _ h=>h) (Or.inl ⟨by rfl,?_⟩) hC ?_
      rotate_left
      ·(intro w hSw;(try dsimp only at hSw);go_simp;(try with_reducible rfl))
      (try simp only[Act.put,List.setIfInBounds_toArray,List.set_cons_zero,List.set_cons_succ])
      refine takeC (i:=1) (d:=some 65) (v:=?_) rfl rfl (by kernel_rfl) (by kernel_rfl) (by kernel_rfl) (by kernel_rfl) (fun _ _ _ h=>h) (Or.inl ⟨by rfl,?_⟩) hC ?_
      rotate_left
      ·(intro w hSw;(try dsimp only at hSw);go_simp;(try with_reducible rfl))
      (try simp only[Act.put,List.setIfInBounds_toArray,List.set_cons_zero,List.set_cons_succ])
      refine takeC (i:=2) (d:=some 66) (v:=?_) rfl rfl (by kernel_rfl) (by kernel_rfl) (by kernel_rfl) (by kernel_rfl) (fun _ _ _ h=>h) (Or.inl ⟨by rfl,?_⟩) hC ?_
      rotate_left
      ·(intro w hSw;(try dsimp only at hSw);go_simp;(try with_reducible rfl))
      (try simp only[Act.put,List.setIfInBounds_toArray,List.set_cons_zero,List.set_cons_succ])
      refine takeC (i:=3) (d:=some 67) (v:=?_) rfl rfl (by kernel_rfl) (by kernel_rfl) (by kernel_rfl) (by kernel_rfl) (fun _ _ _ h=>h) (Or.inl ⟨by rfl,?_⟩) hC ?_
      rotate_left
      ·(intro w hSw;(try dsimp only at hSw);go_simp;(try with_reducible rfl))
      (try simp only[Act.put,List.setIfInBounds_toArray,List.set_cons_zero,List.set_cons_succ])
      refine takeC (i:=4) (d:=some 68) (v:=?_) rfl rfl (by kernel_rfl) (by kernel_rfl) (by kernel_rfl) (by kernel_rfl) (fun _ _ _ h=>h) (Or.inl ⟨by rfl,?_⟩) hC ?_
      rotate_left
      ·(intro w hSw;(try dsimp only at hSw);go_simp;(try with_reducible rfl))
      (try simp only[Act.put,List.setIfInBounds_toArray,List.set_cons_zero,List.set_cons_succ])
      refine takeC (i:=5) (d:=some 69) (v:=?_) rfl rfl (by kernel_rfl) (by kernel_rfl) (by kernel_rfl) (by kernel_rfl) (fun _ _ _ h=>h) (Or.inl ⟨by rfl,?_⟩) hC ?_
      rotate_left
      ·(intro w hSw;(try dsimp only at hSw);go_simp;(try with_reducible rfl))
      (try simp only[Act.put,List.setIfInBounds_toArray,List.set_cons_zero,List.set_cons_succ])
      refine oneR (i:=6) (by kernel_rfl) rfl (fun K hK=>?_);go_simp;go_at_call 22;refine hfd2H.out.mono ?_;rintro e w5 ⟨hb5,hans⟩
      rcases hans with ⟨x,hx,hxd,rfl⟩ | ⟨hno,rfl⟩
      ·have hC5:w5.cell? ⟨rb,0,none⟩=some (.slice A m c)∧w5.cell? ⟨xb0,1,none⟩=some (.string xg):=⟨keepC hb5 hC.1,keepC hb5 hC.2⟩;have hb35:Below W3.heap.size W3 w5:=hdr3H.out.trans hb5;have u0:=keepC hb35 z0;have u3:=keepC hb35 z3;have v1:=keepC hb35 r1;have hM5:=hM3H.out.below hb35;have hxt:=hgdH.out.text hFH.out hx hbcH.out (hxd.trans hgd1H.out);have hxu:=(hst3H.out.below hb35).sl.2.2 x hx;have hxn9:x.bytes.n≤2000000:=by have h1:=(hst3H.out.big x hx);have h2:x.bytes.l.length=x.bytes.n:=hxu.1.1;omega
       obtain⟨xd9,⟨xA9,xn9,xc9,xl9⟩⟩:=x;simp only at hxt hxu hxn9;subst hxt;have hdr5:Below w5.heap.size w5 w5.drew:=(Below.refl _ _).drew;have hcl:=clone_bytes xA9 xn9 xc9 f.bs w5.drew ((RSl RU8).mono _ _ _ hdr5 hxu) (by omega);clear z0 z1 z2 z3 r0 r1 g0 g1 g2 g3;obtain⟨hb5H,hb35H,hM5H,hxH,hxdH,hxuH,hdr5H,hclH⟩:=hq2 hb5 (hq2 hb35 (hq2 hM5 (hqb hx hxd hxu hdr5 (Lib.hid hcl))));clear hb5 hb35 hM5 hx hxd hxu hdr5 hcl;refine hK.out _ _ ⟨fun _ _ _=>trivial,fun _ _=>hC5⟩ ?_;clear hK K
       (try simp only[Act.put,List.setIfInBounds_toArray,List.set_cons_zero,List.set_cons_succ])
       clear hC;have hC:=hC5;refine takeC (i:=7) (d:=some 63) (v:=?_) rfl rfl (by kernel_rfl) (by kernel_rfl) (by kernel_rfl) (by kernel_rfl) (fun _ _ _ h=>h) (Or.inl ⟨by rfl,?_⟩) hC ?_
       rotate_left
       ·(intro w hSw;(try dsimp only at hSw);go_simp;(try with_reducible rfl))
       (try simp only[Act.put,List.setIfInBounds_toArray,List.set_cons_zero,List.set_cons_succ])
       refine takeC (i:=8) (d:=some 71) (v:=?_) rfl rfl (by kernel_rfl) (by kernel_rfl) (by kernel_rfl) (by kernel_rfl) (fun _ _ _ h=>h) (Or.inl ⟨by rfl,?_⟩) hC ?_
       rotate_left
       ·(intro w hSw;(try dsimp only at hSw);go_simp;(try with_reducible rfl))
       (try simp only[Act.put,List.setIfInBounds_toArray,List.set_cons_zero,List.set_cons_succ])
       refine takeC (i:=9) (d:=some 72) (v:=?_) rfl rfl (by kernel_rfl) (by kernel_rfl) (by kernel_rfl) (by kernel_rfl) (fun _ _ _ h=>h) (Or.inl ⟨by rfl,?_⟩) hC ?_
       rotate_left
       ·(intro w hSw;(try dsimp only at hSw);go_simp;(try with_reducible rfl))
       (try simp only[Act.put,List.setIfInBounds_toArray,List.set_cons_zero,List.set_cons_succ])
       refine takeC (i:=10) (d:=some 14) (v:=?_) rfl rfl (by kernel_rfl) (by kernel_rfl) (by kernel_rfl) (by kernel_rfl) (fun _ _ _ h=>h) (Or.inl ⟨by rfl,?_⟩) hC ?_
       rotate_left
       ·(intro w hSw;(try dsimp only at hSw);go_simp;(try with_reducible rfl))
       (try simp only[Act.put,List.setIfInBounds_toArray,List.set_cons_zero,List.set_cons_succ])
       refine takeC (i:=11) (d:=some 15) (v:=?_) rfl rfl (by kernel_rfl) (by kernel_rfl) (by kernel_rfl) (by kernel_rfl) (fun _ _ _ h=>h) (Or.inl ⟨by rfl,?_⟩) hC ?_
       rotate_left
       ·(intro w hSw;(try dsimp only at hSw);go_simp;(try with_reducible rfl))
       (try simp only[Act.put,List.setIfInBounds_toArray,List.set_cons_zero,List.set_cons_succ])
       refine doneR (by kernel_rfl) ?_ _;clear hC hC5;go_wp2_with fail;refine startR (R:=Rk (fun V=>V.cell? ⟨rb,1,none⟩=some (.slice AG G.length cG)) (fun V=>V.cell? ⟨xb0,0,none⟩=some (.string xn')∧V.cell? ⟨xb0,3,none⟩=some (.bool xr)) 18 99) (by kernel_rfl) ?_;have hF:w5.drew.cell? ⟨rb,1,none⟩=some (.slice AG G.length cG):=v1;have hC:w5.drew.cell? ⟨xb0,0,none⟩=some (.string xn')∧w5.drew.cell? ⟨xb0,3,none⟩=some (.bool xr):=⟨u0,u3⟩;have q1:¬ 9223372036854775807<path.size+xn'.size:=by omega
       refine takeC (i:=0) (d:=some 88) (v:=?_) rfl rfl (by kernel_rfl) (by kernel_rfl) (by kernel_rfl) (by kernel_rfl) (fun _ _ _ h=>h) (Or.inl ⟨by rfl,?_⟩) hC ?_
       rotate_left
       ·(intro w hSw;(try dsimp only at hSw);go_simp;(try with_reducible rfl))
       (try simp only[Act.put,List.setIfInBounds_toArray,List.set_cons_zero,List.set_cons_succ])
       refine takeC (i:=1) (d:=some 89) (v:=?_) rfl rfl (by kernel_rfl) (by kernel_rfl) (by kernel_rfl) (by kernel_rfl) (fun _ _ _ h=>h) (Or.inl ⟨by rfl,?_⟩) hC ?_
       rotate_left
       ·(intro w hSw;(try dsimp only at hSw);go_simp;(try with_reducible rfl))
       (try simp only[Act.put,List.setIfInBounds_toArray,List.set_cons_zero,List.set_cons_succ])
       refine takeC (i:=2) (d:=some 90) (v:=?_) rfl rfl (by kernel_rfl) (by kernel_rfl) (by kernel_rfl) (by kernel_rfl) (fun _ _ _ h=>h) (Or.inl ⟨by rfl,?_⟩) hC ?_
       rotate_left
       ·(intro w hSw;(try dsimp only at hSw);go_simp;(try with_reducible rfl))
       (try simp only[Act.put,List.setIfInBounds_toArray,List.set_cons_zero,List.set_cons_succ])
       refine takeC (i:=3) (d:=some 91) (v:=?_) rfl rfl (by kernel_rfl) (by kernel_rfl) (by kernel_rfl) (by kernel_rfl) (fun _ _ _ h=>h) (Or.inl ⟨by rfl,?_⟩) hC ?_
       rotate_left
       ·(intro w hSw;(try dsimp only at hSw);go_simp;(try with_reducible rfl))
       (try simp only[Act.put,List.setIfInBounds_toArray,List.set_cons_zero,List.set_cons_succ])
       refine tfS [(4,92)] ?_;(iterate 1 (refine tfL (v:=?_) (hy:=Or.inl ⟨by rfl,?_⟩) (hS:=hF) (h:=?_);rotate_left;(· (intro w hSw;(try dsimp only at hSw);go_simp;(try with_reducible rfl)));(try simp only[Act.put,List.setIfInBounds_toArray,List.set_cons_zero,List.set_cons_succ])));refine tfE ?_;refine takeC (i:=5) (d:=some 93) (v:=?_) rfl rfl (by kernel_rfl) (by kernel_rfl) (by kernel_rfl) (by kernel_rfl) (fun _ _ _ h=>h) (Or.inl ⟨by rfl,?_⟩) hC ?_
       rotate_left
       ·(intro w hSw;(try dsimp only at hSw);go_simp;(try with_reducible rfl))
       (try simp only[Act.put,List.setIfInBounds_toArray,List.set_cons_zero,List.set_cons_succ])
       refine takeC (i:=6) (d:=some 94) (v:=?_) rfl rfl (by kernel_rfl) (by kernel_rfl) (by kernel_rfl) (by kernel_rfl) (fun _ _ _ h=>h) (Or.inl ⟨by rfl,?_⟩) hC ?_
       rotate_left
       ·(intro w hSw;(try dsimp only at hSw);go_simp;(try with_reducible rfl))
       (try simp only[Act.put,List.setIfInBounds_toArray,List.set_cons_zero,List.set_cons_succ])
       refine takeC (i:=7) (d:=some 95) (v:=?_) rfl rfl (by kernel_rfl) (by kernel_rfl) (by kernel_rfl) (by kernel_rfl) (fun _ _ _ h=>h) (Or.inl ⟨by rfl,?_⟩) hC ?_
       rotate_left
       ·(intro w hSw;(try dsimp only at hSw);go_simp;(try with_reducible rfl))
       (try simp only[Act.put,List.setIfInBounds_toArray,List.set_cons_zero,List.set_cons_succ])
       refine takeC (i:=8) (d:=some 96) (v:=?_) rfl rfl (by kernel_rfl) (by kernel_rfl) (by kernel_rfl) (by kernel_rfl) (fun _ _ _ h=>h) (Or.inl ⟨by rfl,?_⟩) hC ?_
       rotate_left
       ·(intro w hSw;(try dsimp only at hSw);go_simp;(try with_reducible rfl))
       (try simp only[Act.put,List.setIfInBounds_toArray,List.set_cons_zero,List.set_cons_succ])
       refine takeC (i:=9) (d:=some 97) (v:=?_) rfl rfl (by kernel_rfl) (by kernel_rfl) (by kernel_rfl) (by kernel_rfl) (fun _ _ _ h=>h) (Or.inl ⟨by rfl,?_⟩) hC ?_
       rotate_left
       ·(intro w hSw;(try dsimp only at hSw);go_simp;(try with_reducible rfl))
       (try simp only[Act.put,List.setIfInBounds_toArray,List.set_cons_zero,List.set_cons_succ])
       refine takeC (i:=10) (d:=some 98) (v:=?_) rfl rfl (by kernel_rfl) (by kernel_rfl) (by kernel_rfl) (by kernel_rfl) (fun _ _ _ h=>h) (Or.inl ⟨by rfl,?_⟩) hC ?_
       rotate_left
       ·(intro w hSw;(try dsimp only at hSw);go_simp;(try with_reducible rfl))
       (try simp only[Act.put,List.setIfInBounds_toArray,List.set_cons_zero,List.set_cons_succ])
       refine takeC (i:=11) (d:=some 99) (v:=?_) rfl rfl (by kernel_rfl) (by kernel_rfl) (by kernel_rfl) (by kernel_rfl) (fun _ _ _ h=>h) (Or.inl ⟨by rfl,?_⟩) hC ?_
       rotate_left
       ·(intro w hSw;(try dsimp only at hSw);go_simp;(try with_reducible rfl))
       (try simp only[Act.put,List.setIfInBounds_toArray,List.set_cons_zero,List.set_cons_succ])
       refine oneR (i:=12) (by kernel_rfl) rfl (fun K hK=>?_);go_simp;go_at_call 63;refine hclH.out.mono ?_;rintro e w6 ⟨A6,c6,rfl,hown6,hb6⟩;have hb56:Below w5.heap.size w5 w6:=hdr5H.out.trans hb6;have hF6:w6.cell? ⟨rb,1,none⟩=some (.slice AG G.length cG):=keepC hb56 v1;have hC6:w6.cell? ⟨xb0,0,none⟩=some (.string xn')∧w6.cell? ⟨xb0,3,none⟩=some (.bool xr):=⟨keepC hb56 u0,keepC hb56 u3⟩;obtain⟨pn,hpnn⟩:∃ s,path++xn'=s:=⟨_,rfl⟩;obtain⟨W7,hW7⟩:∃ W,w6.alloc (.cells #[.string pn,.bool xr,.slice A6 xn9 c6] 95)=W:=⟨_,rfl⟩;have hb67:Below w6.heap.size w6 W7:=by rw[← hW7];exact(Below.refl _ _).alloc (Nat.le_refl _) _
       have hF7:=keepC hb67 hF6;have hC7:W7.cell? ⟨xb0,0,none⟩=some (.string xn')∧W7.cell? ⟨xb0,3,none⟩=some (.bool xr):=⟨keepC hb67 hC6.1,keepC hb67 hC6.2⟩;have hM7:=(hM5H.out.below hb56).below hb67;have hnew:SlAt RFv W7 (some ⟨w6.heap.size,0,none⟩) 1 [(⟨pn,xr,⟨A6,xn9,c6,f.bs⟩⟩:File)]:=by rw[← hW7];exact slAt_new (R:=RFv) w6 95 (⟨pn,xr,⟨A6,xn9,c6,f.bs⟩⟩:File) trivial
       have hu7:(RSl RU8).ok W7 ⟨A6,xn9,c6,f.bs⟩:=(RSl RU8).mono _ _ _ hb67 (own_u8_ok hown6);have hfar7:Far 0 (rb+1) (.slice AG G.length cG) ⟨A6,xn9,c6,f.bs⟩:=fun hn ad hA=>by
        have hA:A6=some ad:=hA;have h1:=(hown6.1.lt ad.block (by rw[hA];rfl)).1;have h3:W3.heap.size≤w5.heap.size:=hb35H.out.size;have h4:=hM3H.out.blk.lt (by simp);have h5:w5.heap.size≤ad.block:=h1;refine .inr ⟨by omega,fun e=>?_⟩;have:=(hM3H.out.lt ad.block e).2;omega
       obtain⟨nb,hnb⟩:∃ b,w6.heap.size=b:=⟨_,rfl⟩;rw[hnb]at hnew;clear hown6 v1 u0 u3;obtain⟨hb6H,hb56H,hb67H,hM7H,hnewH,hu7H,hfar7H⟩:=hq2 hb6 (hq2 hb56 (hqb hb67 hM7 hnew hu7 (Lib.hid hfar7)));clear hb6 hb56 hb67 hM7 hnew hu7 hfar7;refine hK.out _ _ ⟨fun _ _ _=>hF6,fun _ _=>hC6⟩ ?_;clear hK K
       (try simp only[Act.put,List.setIfInBounds_toArray,List.set_cons_zero,List.set_cons_succ])
       clear hC;have hC:=hC6;refine takeC (i:=13) (d:=some 101) (v:=?_) rfl rfl (by kernel_rfl) (by kernel_rfl) (by kernel_rfl) (by kernel_rfl) (fun _ _ _ h=>h) (Or.inl ⟨by rfl,?_⟩) hC ?_
       rotate_left
       ·(intro w hSw;(try dsimp only at hSw);go_simp;(try with_reducible rfl))
       (try simp only[Act.put,List.setIfInBounds_toArray,List.set_cons_zero,List.set_cons_succ])
       refine oneR (i:=14) (by kernel_rfl) rfl (fun K hK=>?_);go_simp;refine hK.out _ _ ⟨fun _ _ _=>hF7,fun _ _=>hC7⟩ ?_;clear hK K
       (try simp only[Act.put,List.setIfInBounds_toArray,List.set_cons_zero,List.set_cons_succ])
       clear hC;have hC:=hC7;refine oneR (i:=15) (by kernel_rfl) rfl (fun K hK=>?_);refine step_appW (R:=RFv) (base:=rb+1) rfl (.tmp 92) (.tmp 102) 22 rfl Tryz.underlying22 elem_FileV (by decide) rfl hM7H.out.own (some ⟨nb,0,none⟩) 1 1 [(⟨pn,xr,⟨A6,xn9,c6,f.bs⟩⟩:File)] rfl hnewH.out (fun h=>by cases h) (fun _ _ _ _ h=>h) (by unfold maxLen;omega) (by omega) (by have:=hM7H.out.blk.lt (by simp);omega) (G.length+1) rfl ?_;intro A8 c8 w8 hown8 hg8 hat8;have hx8:xb0≠rb∧∀ g,(Value.slice AG G.length cG).ownBlock=some g→g≠xb0:=by
        have h1:=hMrH.out.blk.lt (by simp);exact⟨by omega,fun g hg=>by have:=(hMrH.out.lt g hg).2;omega⟩
       have hrb7:rb<W7.heap.size:=hM7H.out.blk.lt (by simp);have hF8:w8.cell? ⟨rb,1,none⟩=some (.slice AG G.length cG):=hg8.cell hF7 (fun e=>by have e2:some rb=(Value.slice AG G.length cG).ownBlock:=e;have:=(hM7H.out.lt rb e2.symm).1;omega);have hf8:w8.frozen? ⟨rb,1,none⟩=false:=(World.frozen?_of_block (a:=⟨rb,1,none⟩) (hg8.block rb hrb7 (fun e=>by have:=(hM7H.out.lt rb e.symm).1;omega))).trans (hM7H.out.blk 1 _ rfl).2;have hC8:w8.cell? ⟨xb0,0,none⟩=some (.string xn')∧w8.cell? ⟨xb0,3,none⟩=some (.bool xr):=⟨hg8.cell hC7.1 (fun e=>hx8.2 xb0 e.symm rfl),hg8.cell hC7.2 (fun e=>hx8.2 xb0 e.symm rfl)⟩;obtain⟨hM9,hk9,hv9⟩:=hM7H.out.push hu7H.out hfar7H.out hown8 hg8 hat8;have hC9:(w8.setCell ⟨rb,1,none⟩ (.slice A8 (G.length+1) c8)).cell? ⟨xb0,0,none⟩=some (.string xn')∧(w8.setCell ⟨rb,1,none⟩ (.slice A8 (G.length+1) c8)).cell? ⟨xb0,3,none⟩=some (.bool xr):=by
        refine⟨?_,?_⟩
        ·rw[World.cell?_setCell_other _ _ _ _ (by simp <;> omega)];exact hC8.1
        ·rw[World.cell?_setCell_other _ _ _ _ (by simp <;> omega)];exact hC8.2
       have hkw:Kp (Sv rb (.slice AG G.length cG)) wr W7:=hk13H.out.trans (Kp.of_below (hb35H.out.trans ((hb56H.out.trans (hb67H.out.mono hb56H.out.size)).mono hb35H.out.size)));have hw2r:=hkpH.out.size;have hwr7:=hkw.size;have hv5':=hv5H.out;have R:DrRel Y N path.data.toList w0 rb A m c v F w2 (.int .i64 ((k:Int)+1)) (w8.setCell ⟨rb,1,none⟩ (.slice A8 (G.length+1) c8)):=by
        refine⟨k+1,.slice A8 (G.length+1) c8,G ++ [⟨pn,xr,⟨A6,xn9,c6,f.bs⟩⟩],by omega,by go_num,hM9,?_,?_,fun g hg=>?_⟩
        ·rw[List.map_append,hGH.out,htkH.out,hy1H.out,List.append_assoc]
         congr 2
         show [(⟨pn.data.toList,xr,f.bs⟩:TFi)]=_;rw[← hpnn,ByteArray.data_append,Array.toList_append,henH.out,← hgrH.out]
        ·refine hkpH.out.old (hkw.trans hk9) fun i hi hs=>?_
         rcases hs with h | h
         ·exact .inl h
         ·exact .inr ((hv5' i h).resolve_right (by omega))
        ·rcases hv9 g hg with h | h
         ·exact hv5' g h
         ·exact .inr (by omega)
       clear hown8 hg8 hat8 hx8 hM9 hk9 hv9 hkw hC6 hC7 hF6 hF7 hv5';have RH:=Lib.hid R;clear R;refine hK.out _ _ ⟨fun _ _ _=>hF8,fun _ _=>hC8⟩ ?_;clear hK K
       (try simp only[Act.put,List.setIfInBounds_toArray,List.set_cons_zero,List.set_cons_succ])
       clear hC;have hC:=hC8;refine takeC (i:=16) (d:=some 104) (v:=?_) rfl rfl (by kernel_rfl) (by kernel_rfl) (by kernel_rfl) (by kernel_rfl) (fun _ _ _ h=>h) (Or.inl ⟨by rfl,?_⟩) hC ?_
       rotate_left
       ·(intro w hSw;(try dsimp only at hSw);go_simp;(try with_reducible rfl))
       (try simp only[Act.put,List.setIfInBounds_toArray,List.set_cons_zero,List.set_cons_succ])
       refine takeC (i:=17) (d:=some 105) (v:=?_) rfl rfl (by kernel_rfl) (by kernel_rfl) (by kernel_rfl) (by kernel_rfl) (fun _ _ _ h=>h) (Or.inl ⟨by rfl,?_⟩) hC ?_
       rotate_left
       ·(intro w hSw;(try dsimp only at hSw);go_simp;(try with_reducible rfl))
       (try simp only[Act.put,List.setIfInBounds_toArray,List.set_cons_zero,List.set_cons_succ])
       refine oneR (i:=18) (by kernel_rfl) rfl (fun K hK=>?_);go_simp;refine hK.out _ _ ⟨fun _ h=>absurd rfl h,fun _ _=>hC9⟩ ?_;clear hK K
       (try simp only[Act.put,List.setIfInBounds_toArray,List.set_cons_zero,List.set_cons_succ])
       refine doneR (by kernel_rfl) ?_ _;clear hC hC8 hC9 hF hF8;go_wp2_with fail;exact⟨RH.out,by simp[intOf];omega⟩
      ·obtain⟨x,hx,hxd⟩:=hxinH.out;exact absurd hxd (hno x hx)
     | none =>
      obtain rfl:xd'=true:=by rw[hed,hyf];rfl
      clear hed;obtain⟨M,rfl,hds⟩:=hdH.out.node hLH.out hywH.out hyf;have hxg:=heg2H.out hyf;have hne:y.sub≠[]:=(grp_ok l y hygH.out).dir hyf;have hbk:∀ f∈y.sub,path.size+(y.name.length+1+f.path.length)≤200:=fun f hf=>by
       have hs:=node_sub hygH.out;have e:filesN y=y.sub.map (backF y.name):=by unfold filesN;rw[hyf]
       rw[e]at hs;have h1:=hplH.out _ (hs.subset (List.mem_map.2 ⟨f,hf,rfl⟩));have h2:(backF y.name f).path=y.name++47::f.path:=rfl;rw[h2,List.length_append,List.length_cons]at h1;omega
      have hnz:xn'.size=y.name.length:=by rw[Lib.size_eq,henH.out]
      obtain⟨pn,hpnn⟩:∃ s,path++xn'++(⟨#[47]⟩:ByteArray)=s:=⟨_,rfl⟩;have hpd:pn.data.toList=path.data.toList++y.name ++ [47]:=by rw[← hpnn];simp[ByteArray.data_append,henH.out]
      have hps:pn.size=path.size+xn'.size+1:=by
       rw[← hpnn,ByteArray.size_append,ByteArray.size_append];rfl
      obtain⟨f9,hf9⟩:=List.exists_mem_of_ne_nil _ hne;have hb9:=hbk f9 hf9;have hy1:outN (outF (M+1)) path.data.toList y=outF (M+1) pn.data.toList y.sub:=by unfold outN;rw[hyf,hpd]
      have hsl:(outF (M+1) pn.data.toList y.sub).length=y.sub.length:=by
       have h1:=hds.ok hLH.out;rw[(outF_perm (M+1) pn.data.toList y.sub h1.wf h1.path).length_eq,List.length_map]
      rw[hy1,hsl]at hcnt2;have hrec:=ihH.out M rfl y.sub pn w0 rb A m c v5 G W3 hds (fun h=>absurd h hne) (fun f hf=>by have:=hbk f hf;omega) (by omega) hcnt2 hstH.out hmxH.out hM3H.out;rw[← hxg]at hrec;have q1:¬ 9223372036854775807<path.size+xn'.size:=by omega
      have q2:¬ 9223372036854775807<path.size+xn'.size+1:=by omega
      clear hnz hps hb9 hbk hsl hcnt2 hf9 hxg;obtain⟨hyfH,hneH,hpdH,hy1H,hrecH,hdsH⟩:=hq2 hyf (hqb hne hpd hy1 hrec (Lib.hid hds));clear hyf hne hpd hy1 hrec hds;go_wp2_with fail;refine hrecH.out.mono ?_;rintro e w6 ⟨v6,G6,rfl,hM6,hG6,hk6,hv6⟩;have hkw:=hk13H.out.trans hk6;have hwr3:=hb13H.out.size;have hv5':=hv5H.out;have hw2r:=hkpH.out.size;have R:DrRel Y (M+1) path.data.toList w0 rb A m c v F w2 (.int .i64 ((k:Int)+1)) w6:=by
       refine⟨k+1,v6,G6,by omega,by go_num,hM6,?_,?_,fun g hg=>?_⟩
       ·rw[hG6,hGH.out,htkH.out,hy1H.out,List.append_assoc]
       ·refine hkpH.out.old hkw fun i hi hs=>?_
        rcases hs with h | h
        ·exact .inl h
        ·exact .inr ((hv5' i h).resolve_right (by omega))
       ·rcases hv6 g hg with h | h
        ·exact hv5' g h
        ·exact .inr (by omega)
      clear hM6 hG6 hk6 hv6 hkw hv5';have RH:=Lib.hid R;clear R;go_wp2_with fail;exact⟨RH.out,by simp[intOf];omega⟩
    ·obtain rfl:k=Y.length:=by omega
     rw[List.take_of_length_le (Nat.le_refl _),← hTYH.out]at hG;have R:=hZ'H.out (.returned (.int .i64 0)) wr ⟨v5,G,rfl,hMr,hG,(Kp.of_below (hb1H.out.trans (hb2H.out.mono hb1H.out.size))).trans hkp,fun g hg=>(hv5 g hg).imp id fun h=>by have:=hb1H.out.size;omega⟩;have e5:decide (Y.length<E.length)=false:=decide_eq_false hlt;clear hMr hG hkp hv5;have RH:=Lib.hid R;clear R;go_wp2_with fail;exact RH.out
 ·obtain⟨x,hx,hxd⟩:=hinH.out;exact absurd (hxd.trans hdgH.out) (hno x hx)
theorem rdir_all (L:List TFi) (hL:TreeOk L) (hF:Faith (Cs 200 L)) (O:List ObT) (hgd:Good L O) (hco:Complete L O):∀ N,DrHyp L O N
 | 0=>rdir_step L hL hF O hgd hco 0 fun M e=>by omega
 | N+1=>rdir_step L hL hF O hgd hco (N+1) fun M e=>by
  obtain rfl:M=N:=by omega
  exact rdir_all L hL hF O hgd hco M
theorem within_w (n a b:Int) (w:World) (r:Bool) (h:(decide (a≤n)&&decide (n≤b))=r):Calls Tryz.prog 27 #[.int .i64 n,.int .i64 a,.int .i64 b] w fun e w'=>e = .returned (.bool r)∧w'=w:=by
 by_cases h1:a≤n
 ·rw[decide_eq_true h1,Bool.true_and]at h;have e1:decide (a≤n)=true:=decide_eq_true h1;go_enter Tryz.func27,Tryz.ntmps27;go_wp2_with fail;go_ret;exact⟨rfl,rfl⟩
 ·rw[decide_eq_false h1,Bool.false_and]at h;obtain rfl:r=false:=h.symm;have e1:decide (a≤n)=false:=decide_eq_false h1;clear h;go_enter Tryz.func27,Tryz.ntmps27;go_wp2_with fail;go_ret;exact⟨rfl,rfl⟩
def CcAns (n:Nat) (w:World) (e:Ending) (w':World):Prop:=Below w.heap.size w w'∧((n≤100000∧e = .returned (.int .i64 0))∨(100000<n∧e = .returned (.int .i64 2)))
theorem checkContent_any (d:ByteArray) (hd:digB d=true) (A:Option Addr) (n c:Nat) (w:World) :
  Calls Tryz.prog 26 #[.string d,.slice A n c] w (CcAns n w):=by
 obtain⟨Z,hZ⟩:∃ Z,CcAns n w=Z:=⟨_,rfl⟩;have hZ':∀ e W,CcAns n w e W→Z e W:=fun e W h=>by rw[← hZ];exact h
 rw[hZ];clear hZ;have hdg:=dig_any d w true hd;obtain⟨hZ'H,hdgH,hdH⟩:=hq2 hZ' (hq2 hdg (Lib.hid hd));clear hZ' hdg hd;go_enter Tryz.func26,Tryz.ntmps26;go_wp2_with fail;refine hdgH.out.mono ?_;rintro e w1 ⟨rfl,hb1⟩
 by_cases hn:n≤100000
 ·have i1:¬ (100000:Int)<(n:Int):=by omega
  have R:=hZ'H.out (.returned (.int .i64 0)) w1 ⟨hb1,.inl ⟨hn,rfl⟩⟩;obtain⟨hb1H,RH⟩:=hq2 hb1 (Lib.hid R);clear hb1 R;go_wp2_with fail;exact RH.out
 ·have i1:(100000:Int)<(n:Int):=by omega
  have R:=hZ'H.out (.returned (.int .i64 2)) w1 ⟨hb1,.inr ⟨by omega,rfl⟩⟩;obtain⟨hb1H,RH⟩:=hq2 hb1 (Lib.hid R);clear hb1 R;go_wp2_with fail;exact RH.out
theorem doneAt_any (AD:Option Addr) (nD cD:Nat) (vP:Value) (D:List ObT) (s:ByteArray) (w:World) (hn:nD≤100000) (hl:SlAt ROv w AD nD D) (hr:D.Pairwise fun a b=>cmpS a.dig b.dig = -1) :
  Calls Tryz.prog 33 #[.agg #[.slice AD nD cD,vP],.string s] w (BsAns (fun x:ObT=>x.dig) D s w):=by
 obtain⟨Z,hZ⟩:∃ Z,BsAns (fun x:ObT=>x.dig) D s w=Z:=⟨_,rfl⟩;have hZ':∀ e W,BsAns (fun x:ObT=>x.dig) D s w e W→Z e W:=fun e W h=>by rw[← hZ];exact h
 rw[hZ];clear hZ;obtain⟨W1,hW1⟩:∃ W,w.alloc (.cells #[.slice AD nD cD,vP] 32)=W:=⟨_,rfl⟩;have hb1:Below w.heap.size w W1:=by rw[← hW1];exact(Below.refl _ _).alloc (Nat.le_refl _) _
 have hz1:Blk W1 w.heap.size [.slice AD nD cD,vP]:=by rw[← hW1];exact blk_new w _ _
 obtain⟨z0,-⟩:=hz1 0 _ rfl;have hbs:=done_bsf AD nD cD D s W1 hn (hl.below hb1) hr;obtain⟨hZ'H,hb1H,hz1H,hbsH,hlH,hrH⟩:=hq2 hZ' (hqb hb1 hz1 hbs hl (Lib.hid hr));clear hZ' hb1 hz1 hbs hl hr;go_enter Tryz.func33,Tryz.ntmps33;go_wp2_with fail;refine hbsH.out.mono ?_;rintro e w2 ⟨i,f,rfl,hb2,hat⟩;have R:=hZ'H.out (.returned (.tuple #[.int .i64 i,.bool f])) w2 ⟨i,f,rfl,hb1H.out.trans (hb2.mono hb1H.out.size),hat⟩;obtain⟨hb2H,hatH,RH⟩:=hq2 hb2 (hq2 hat (Lib.hid R));clear hb2 hat R;go_wp2_with fail;exact RH.out
theorem partAt_any (AP:Option Addr) (nP cP:Nat) (vD:Value) (P:List PaT) (s:ByteArray) (w:World) (hn:nP≤100000) (hl:SlAt RPv w AP nP P) (hr:P.Pairwise fun a b=>cmpS a.dig b.dig = -1) :
  Calls Tryz.prog 98 #[.agg #[vD,.slice AP nP cP],.string s] w (BsAns (fun x:PaT=>x.dig) P s w):=by
 obtain⟨Z,hZ⟩:∃ Z,BsAns (fun x:PaT=>x.dig) P s w=Z:=⟨_,rfl⟩;have hZ':∀ e W,BsAns (fun x:PaT=>x.dig) P s w e W→Z e W:=fun e W h=>by rw[← hZ];exact h
 rw[hZ];clear hZ;obtain⟨W1,hW1⟩:∃ W,w.alloc (.cells #[vD,.slice AP nP cP] 32)=W:=⟨_,rfl⟩;have hb1:Below w.heap.size w W1:=by rw[← hW1];exact(Below.refl _ _).alloc (Nat.le_refl _) _
 have hz1:Blk W1 w.heap.size [vD,.slice AP nP cP]:=by rw[← hW1];exact blk_new w _ _
 obtain⟨z0,-⟩:=hz1 1 _ rfl;have hbs:=part_bsf AP nP cP P s W1 hn (hl.below hb1) hr;obtain⟨hZ'H,hb1H,hz1H,hbsH,hlH,hrH⟩:=hq2 hZ' (hqb hb1 hz1 hbs hl (Lib.hid hr));clear hZ' hb1 hz1 hbs hl hr;go_enter Tryz.func98,Tryz.ntmps98;go_wp2_with fail;refine hbsH.out.mono ?_;rintro e w2 ⟨i,f,rfl,hb2,hat⟩;have R:=hZ'H.out (.returned (.tuple #[.int .i64 i,.bool f])) w2 ⟨i,f,rfl,hb1H.out.trans (hb2.mono hb1H.out.size),hat⟩;obtain⟨hb2H,hatH,RH⟩:=hq2 hb2 (hq2 hat (Lib.hid R));clear hb2 hat R;go_wp2_with fail;exact RH.out
theorem checkReceiver_any (AD AP:Option Addr) (nD cD cP:Nat) (D:List ObT) (w:World) (hst:Store w AD nD D) :
  Calls Tryz.prog 25 #[.agg #[.slice AD nD cD,.slice AP 0 cP]] w (Chk0 w):=by
 obtain⟨Z,hZ⟩:∃ Z,Chk0 w=Z:=⟨_,rfl⟩;have hZ':∀ e W,Chk0 w e W→Z e W:=fun e W h=>by rw[← hZ];exact h
 rw[hZ];clear hZ;obtain⟨W1,hW1⟩:∃ W,w.alloc (.cells #[.slice AD nD cD,.slice AP 0 cP] 32)=W:=⟨_,rfl⟩;have hb1:Below w.heap.size w W1:=by rw[← hW1];exact(Below.refl _ _).alloc (Nat.le_refl _) _
 have hz1:Blk W1 w.heap.size [.slice AD nD cD,.slice AP 0 cP]:=by rw[← hW1];exact blk_new w _ _
 obtain⟨z0,-⟩:=hz1 0 _ rfl;obtain⟨z1,-⟩:=hz1 1 _ rfl;have hck:=checkObjects_any AD nD cD D W1 (hst.below hb1);obtain⟨hZ'H,hb1H,hz1H,hckH,hstH⟩:=hqb hZ' hb1 hz1 hck (Lib.hid hst);clear hZ' hb1 hz1 hck hst;go_enter Tryz.func25,Tryz.ntmps25;go_wp2_with fail;refine hckH.out.mono ?_;rintro e w2 ⟨rfl,hb2⟩;have y1:=keepC hb2 z1;have hb02:=hb1H.out.trans (hb2.mono hb1H.out.size);have R0:=hZ'H.out (.returned (.int .i64 0)) w2 ⟨rfl,hb02⟩;clear z0 z1;obtain⟨hb2H,hb02H,R0H⟩:=hq2 hb2 (hq2 hb02 (Lib.hid R0));clear hb2 hb02 R0;go_wp2_with fail
 go_loopw [21] (fun i wr=>i = .int .i64 0∧wr=w2) (fun i _=>0)
 case atStart=>exact⟨rfl,rfl⟩
 case round =>
  obtain⟨rfl,hwe⟩:=hrel;replace hwe:=hwe.symm;subst hwe;go_wp2_with fail;exact R0H.out
end Go.Proofs.YtpdjjjiknijpkaaGreatDoor.C10