/-
 Several texts of mine as one, without what is not wanted here: XWrL, XWrM, XWrN, XWrO.
-/
import Derived.Test.YtpdjjjiknijpkaaGreatDoorTvSC10
set_option linter.unusedVariables false
set_option linter.unusedSimpArgs false
set_option maxRecDepth 100000
set_option maxHeartbeats 8000000
namespace Go.Proofs.YtpdjjjiknijpkaaGreatDoor.C10
open Go.ChangeShapes Go.WideShapes Go.Deep Go.RowKit Go.Lib
def Ob (w:World) (v v':Value):Prop:=∀ g,v'.ownBlock=some g→v.ownBlock=some g∨w.heap.size≤g
theorem Ob.refl (w:World) (v:Value):Ob w v v:=fun g h=>.inl h
theorem Ob.none (w:World) (v:Value):Ob w v (.slice none 0 0):=fun g h=>by cases h
def Part (d:ByteArray) (b:List UInt8) (n:Nat) (vB:Value) (P:List PaT) (bs:List UInt8):Prop :=
 (P = []∧bs = []∧vB = .slice none 0 0)∨∃ (AB:Option Addr) (nB cB:Nat),vB = .slice AB nB cB∧P = [⟨d,n,⟨AB,nB,cB,bs⟩⟩]∧bs=b.take nB∧nB<n
def TkO (vD vD' vB':Value) (D D':List ObT) (P':List PaT) (bs':List UInt8) (d:ByteArray) (b:List UInt8) (n lo:Nat) (k:Int) (f:Nat):Prop :=
 (k=4∧P' = []∧bs' = []∧vB' = .slice none 0 0∧∃ x:ObT,x.dig=d∧x.bytes.l=b∧PutO D x D'∧D'.Pairwise fun a b=>cmpS a.dig b.dig = -1) ∨
 (k=3∧D'=D∧lo≤f∧f<n∧∃ (AB:Option Addr) (cB:Nat),vB' = .slice AB f cB∧P' = [⟨d,n,⟨AB,f,cB,bs'⟩⟩]∧bs'=b.take f)
def TkR (T sb:Nat) (rest:List Value) (vD vP vB:Value) (D:List ObT) (d:ByteArray) (b:List UInt8) (n lo:Nat) (k:Int) (f:Nat) (w w':World):Prop :=
 Below T w w'∧Kp (SnS sb vD vP vB) w w'∧∃ (vD' vP' vB':Value) (D':List ObT) (P':List PaT) (bs':List UInt8),SnM T sb rest vD' vP' vB' D' P' bs' w'∧Ob w vD vD'∧Ob w vP vP'∧Ob w vB vB'∧(∀ x∈D',x∈D∨∀ ad,x.bytes.A=some ad→vB.ownBlock=some ad.block∨w.heap.size≤ad.block)∧TkO vD vD' vB' D D' P' bs' d b n lo k f
def TkAns (T sb:Nat) (rest:List Value) (vD vP vB:Value) (D:List ObT) (d:ByteArray) (b:List UInt8) (n lo:Nat) (w:World) (e:Ending) (w':World):Prop :=
 ∃ (k:Int) (f:Nat),e = .returned (.tuple #[msgV k d f 0 (.slice none 0 0),.int .i64 0])∧TkR T sb rest vD vP vB D d b n lo k f w w'
section
variable {T sb n lo:Nat} {rest:List Value} {vD vP vB:Value} {D:List ObT} {P:List PaT} {bs b:List UInt8} {d:ByteArray} {k:Int} {f:Nat}
theorem puto_mem {D D':List ObT} {x:ObT} (h:PutO D x D'):∀ y∈D',y∈D∨y=x:=fun y hy=>by
 obtain⟨k,rfl⟩:=h
 rcases List.mem_append.1 hy with h | h
 ·exact .inl (List.mem_of_mem_take h)
 ·rcases List.mem_cons.1 h with h | h
  ·exact .inr h
  ·exact .inl (List.mem_of_mem_drop h)
def Fr (m sb:Nat) (vD vP vB:Value) (D:List ObT):Prop:=m≠sb∧vD.ownBlock≠some m∧vP.ownBlock≠some m∧vB.ownBlock≠some m∧∀ x∈D,0<x.bytes.n→∀ ad,x.bytes.A=some ad→ad.block≠m
theorem Fr.step {m:Nat} {vD' vP' vB':Value} {D':List ObT} {w:World} (h:Fr m sb vD vP vB D) (hm:m<w.heap.size) (h1:Ob w vD vD') (h2:Ob w vP vP') (h3:Ob w vB vB') (h4:∀ x∈D',x∈D∨∀ ad,x.bytes.A=some ad→vB.ownBlock=some ad.block∨w.heap.size≤ad.block):Fr m sb vD' vP' vB' D':=by
 refine⟨h.1,fun e=>?_,fun e=>?_,fun e=>?_,fun x hx hn ad hA e=>?_⟩
 ·rcases h1 _ e with q | q
  ·exact h.2.1 q
  ·omega
 ·rcases h2 _ e with q | q
  ·exact h.2.2.1 q
  ·omega
 ·rcases h3 _ e with q | q
  ·exact h.2.2.2.1 q
  ·omega
 ·rcases h4 x hx with q | q
  ·exact h.2.2.2.2 x q hn ad hA e
  ·rcases q ad hA with q | q
   ·exact h.2.2.2.1 (by rw[q,e])
   ·omega
theorem Fr.nS {m:Nat} (h:Fr m sb vD vP vB D):¬ SnS sb vD vP vB m:=fun q=>by
 rcases q with q | q | q | q
 ·exact h.1 q
 ·exact h.2.1 q
 ·exact h.2.2.1 q
 ·exact h.2.2.2.1 q
theorem TkR.wrap {w W w5 w6:World} {tb:Nat} (hM:SnM T sb rest vD vP vB D P bs w) (hb:Below w.heap.size w W) (h:TkR T sb rest vD vP vB D d b n lo k f W w5) (h1:w.heap.size≤tb) (h2:tb<W.heap.size) (hg:w5.grownBy w6 (some tb)):TkR T sb rest vD vP vB D d b n lo k f w w6:=by
 obtain⟨a1,a2,vD',vP',vB',D',P',bs',a3,a4,a5,a6,a7,a8⟩:=h;have hT:T≤w.heap.size:=by have:=hM.lt;have:=hM.tb;omega
 have hsz:=hb.size;have hfr:Fr tb sb vD vP vB D:=hM.fresh h1;have hf2:=hfr.step h2 a4 a5 a6 a7;refine⟨((hb.mono hT).trans a1).grown hg (by have:=a3.lt;have:=a3.tb;omega) fun g e=>by injection e with e;omega,(((Kp.of_below hb).trans a2).old (Kp.of_grown (S:=fun k=>k=tb) hg fun k hk=>by injection hk with hk;exact hk.symm) fun i hi e=>by omega),vD',vP',vB',D',P',bs',a3.grown hg hf2.1 hf2.2.1 hf2.2.2.1 hf2.2.2.2.1 hf2.2.2.2.2,fun g e=>(a4 g e).imp id fun q=>by omega,fun g e=>(a5 g e).imp id fun q=>by omega,fun g e=>(a6 g e).imp id fun q=>by omega,fun x hx=>(a7 x hx).imp id fun q ad hA=>(q ad hA).imp id fun q=>by omega,a8⟩
end
theorem begin_all (T sb:Nat) (rest:List Value) (vD vP vB:Value) (D:List ObT) (P:List PaT) (bs:List UInt8) (d:ByteArray) (b:List UInt8) (n:Nat) (hn:b.length=n) (hn1:n≤100000) (hpt:Part d b n vB P bs) (hd:digF b=d) (hDl:D.length<4000) (hs:D.Pairwise fun a b=>cmpS a.dig b.dig = -1) (hno:∀ x∈D,x.dig≠d) (w:World) (hM:SnM T sb rest vD vP vB D P bs w) :
  Calls Tryz.prog 99 #[.pointer (some ⟨sb,0,none⟩),msgV 1 d 0 n (.slice none 0 0)] w (TkAns T sb rest vD vP vB D d b n 0 w):=by
 rcases hpt with ⟨rfl,rfl,rfl⟩ | ⟨AB,nB,cB,rfl,rfl,hbs,hlt⟩
 ·obtain⟨AP,cP,hvP⟩:=hM.oP.form;replace hvP:vP = .slice AP 0 cP:=hvP;subst hvP
  by_cases h0:n=0
  ·obtain rfl:b = []:=List.eq_nil_of_length_eq_zero (by omega);refine(begin_empty T sb rest vD AP cP D d n h0 w hM hd hDl hs hno).mono ?_;rintro e w' ⟨rfl,hb,hk,vD',D',h1,h2,h3,h4⟩;refine⟨4,0,rfl,hb,hk,vD',_,_,D',[],[],h1,h2,Ob.refl _ _,Ob.refl _ _,fun x hx=>?_,.inl ⟨rfl,rfl,rfl,rfl,_,rfl,rfl,h3,h4⟩⟩
   rcases puto_mem h3 x hx with h | h
   ·exact .inl h
   ·subst h;exact .inr fun ad hA=>by cases hA
  ·refine(begin_new T sb rest vD AP cP D d n (by omega) hn1 w hM).mono ?_;rintro e w' ⟨vP',h2,rfl,hb,hk,h1⟩;exact⟨3,0,rfl,hb,hk,vD,vP',_,D,_,[],h1,Ob.refl _ _,h2,Ob.refl _ _,fun x hx=>.inl hx,.inr ⟨rfl,rfl,Nat.zero_le _,by omega,none,0,rfl,rfl,rfl⟩⟩
 ·refine(begin_have T sb rest vD vP AB nB cB D d n bs w hM).mono ?_;rintro e w' ⟨rfl,hb,hk,h1⟩;exact⟨3,nB,rfl,hb,hk.mono fun _ _ h=>h.elim,vD,vP,_,D,_,bs,h1,Ob.refl _ _,Ob.refl _ _,Ob.refl _ _,fun x hx=>.inl hx,.inr ⟨rfl,rfl,Nat.zero_le _,hlt,AB,cB,rfl,rfl,hbs⟩⟩
theorem data_all (T sb:Nat) (rest:List Value) (vD vP:Value) (AB Ax:Option Addr) (nB cB nx cx:Nat) (D:List ObT) (d:ByteArray) (b bs l:List UInt8) (n:Nat) (hn:b.length=n) (hn1:n≤100000) (hbs:bs=b.take nB) (hl:l=(b.drop nB).take nx) (hlt:nB<n) (hnx:0<nx) (hle:nB+nx≤n) (hd:digF b=d) (hDl:D.length<4000) (hs:D.Pairwise fun a b=>cmpS a.dig b.dig = -1) (hno:∀ x∈D,x.dig≠d) (w:World) (hM:SnM T sb rest vD vP (.slice AB nB cB) D [⟨d,n,⟨AB,nB,cB,bs⟩⟩] bs w) (hx:(RSl RU8).ok w ⟨Ax,nx,cx,l⟩) :
  Calls Tryz.prog 100 #[.pointer (some ⟨sb,0,none⟩),.int .i64 0,msgV 2 d nB 0 (.slice Ax nx cx)] w (TkAns T sb rest vD vP (.slice AB nB cB) D d b n (nB+1) w):=by
 have hcat:bs++l=b.take (nB+nx):=by rw[hbs,hl,List.take_add]
 by_cases hq:nB+nx<n
 ·refine(data_more T sb rest vD vP AB Ax nB cB nx cx D d n bs l w hM hx hnx (nB+nx) rfl hle hn1 hq).mono ?_;rintro e w' ⟨A',c',h2,rfl,hb,hk,h1⟩;exact⟨3,nB+nx,rfl,hb,hk,vD,vP,_,D,_,_,h1,Ob.refl _ _,Ob.refl _ _,h2,fun x hx=>.inl hx,.inr ⟨rfl,rfl,by omega,hq,A',c',rfl,rfl,hcat⟩⟩
 ·have hall:bs++l=b:=by rw[hcat,List.take_of_length_le (by omega)]
  refine(data_last T sb rest vD vP AB Ax nB cB nx cx D d n bs l w hM hx hnx (nB+nx) rfl hle hn1 (by omega) (by rw[hall];exact hd) hDl hs hno).mono ?_;rintro e w' ⟨rfl,hb,hk,vD',vP',D',x,h1,h2,h3,h4,h5,h6,h7,h8⟩;refine⟨4,0,rfl,hb,hk,vD',vP',_,D',[],[],h1,h2,h3,Ob.none _ _,fun y hy=>?_,.inl ⟨rfl,rfl,rfl,rfl,x,h5,by rw[h6,hall],h7,h8⟩⟩
  rcases puto_mem h7 y hy with h | h
  ·exact .inl h
  ·subst h;exact .inr h4
theorem Part.sorted {d:ByteArray} {b bs:List UInt8} {n:Nat} {vB:Value} {P:List PaT} (h:Part d b n vB P bs):P.Pairwise fun a b=>cmpS a.dig b.dig = -1:=by
 rcases h with ⟨rfl,_,_⟩ | ⟨_,_,_,_,rfl,_,_⟩
 ·exact .nil
 ·exact List.pairwise_singleton _ _
theorem Part.len {d:ByteArray} {b bs:List UInt8} {n:Nat} {vB:Value} {P:List PaT} (h:Part d b n vB P bs):P.length≤1:=by
 rcases h with ⟨rfl,_,_⟩ | ⟨_,_,_,_,rfl,_,_⟩
 ·exact Nat.zero_le _
 ·exact Nat.le_refl _
theorem take_begin (T sb:Nat) (rest:List Value) (vD vP vB:Value) (D:List ObT) (P:List PaT) (bs:List UInt8) (d:ByteArray) (hdB:digB d=true) (b:List UInt8) (n:Nat) (hn:b.length=n) (hn1:n≤100000) (hpt:Part d b n vB P bs) (hd:digF b=d) (hDl:D.length<4000) (hs:D.Pairwise fun a b=>cmpS a.dig b.dig = -1) (hno:∀ x∈D,x.dig≠d) (w:World) (hM:SnM T sb rest vD vP vB D P bs w) :
  Calls Tryz.prog 64 #[.pointer (some ⟨sb,0,none⟩),msgV 1 d 0 n (.slice none 0 0)] w (TkAns T sb rest vD vP vB D d b n 0 w):=by
 obtain⟨Z,hZ⟩:∃ Z,TkAns T sb rest vD vP vB D d b n 0 w=Z:=⟨_,rfl⟩;have hZ':∀ e W,TkAns T sb rest vD vP vB D d b n 0 w e W→Z e W:=fun e W h=>by rw[← hZ];exact h
 rw[hZ];clear hZ;obtain⟨AD,cD,hvD⟩:=hM.oD.form;obtain⟨AP,cP,hvP⟩:=hM.oP.form;subst hvD hvP;unfold msgV;obtain⟨W2,hW2⟩:∃ W,(w.alloc (.cells #[.int .i64 1,.string d,.int .i64 0,.int .i64 n,.slice none 0 0] 131)).alloc (.cells #[.int .i64 0,.string ⟨#[]⟩,.int .i64 0,.int .i64 0,.slice none 0 0] 131)=W:=⟨_,rfl⟩;have hb2:Below w.heap.size w W2:=by rw[← hW2];exact((Below.refl _ _).alloc (Nat.le_refl _) _).alloc (by simp) _
 have hs2:W2.heap.size=w.heap.size+2:=by rw[← hW2];simp
 have hzi:Blk W2 w.heap.size (msgL 1 d 0 n (.slice none 0 0)):=by
  rw[← hW2];unfold msgL;exact blk_below (blk_new w [.int .i64 1,.string d,.int .i64 0,.int .i64 n,.slice none 0 0] 131) (by simp) ((Below.refl _ _).alloc (Nat.le_refl _) _)
 have hzm:Blk W2 (w.heap.size+1) zmV:=by
  rw[← hW2];have:=blk_new (w.alloc (.cells #[.int .i64 1,.string d,.int .i64 0,.int .i64 n,.slice none 0 0] 131)) [.int .i64 0,.string ⟨#[]⟩,.int .i64 0,.int .i64 0,.slice none 0 0] 131
  simpa[zmV]using this
 have hM2:=hM.below hb2;have hck:=checkBegin_any d hdB n hn1 W2;unfold msgV at hck;obtain⟨ib,hib⟩:∃ b,w.heap.size=b:=⟨_,rfl⟩;have hfi:Fr ib sb (.slice AD D.length cD) (.slice AP P.length cP) vB D:=hM.fresh (m:=ib) (by omega);have hfm:Fr (ib+1) sb (.slice AD D.length cD) (.slice AP P.length cP) vB D:=hM.fresh (m:=ib+1) (by omega);rw[hib]at hzi hzm hs2;obtain⟨i0,-⟩:=hzi 0 _ rfl;obtain⟨i1,-⟩:=hzi 1 _ rfl;obtain⟨i2,-⟩:=hzi 2 _ rfl;obtain⟨i3,-⟩:=hzi 3 _ rfl;obtain⟨i4,-⟩:=hzi 4 _ rfl;obtain⟨hZ'H,hMH,hb2H,hziH,hzmH,hM2H,hfiH,hfmH,hckH,hsH,hnoH,hdH,hptH⟩:=hqb hZ' hM hb2 hzi (hqc hzm hM2 hfi hfm hck hs hno hd (Lib.hid hpt));clear hZ' hM hb2 hzi hzm hM2 hfi hfm hck hs hno hd hpt;go_enter Tryz.func64,Tryz.ntmps64;go_wp2_with fail;refine hckH.out.mono ?_;rintro e w3 ⟨rfl,hb3⟩;have hM3:=hM2H.out.below hb3;have hzi3:=blk_below hziH.out (by simp[msgL]) hb3;have hzm3:=blk_below hzmH.out (by simp[zmV]) hb3;clear i0 i1 i2 i3 i4;obtain⟨i0,-⟩:=hzi3 0 _ rfl;obtain⟨i1,-⟩:=hzi3 1 _ rfl;obtain⟨i2,-⟩:=hzi3 2 _ rfl;obtain⟨i3,-⟩:=hzi3 3 _ rfl;obtain⟨i4,-⟩:=hzi3 4 _ rfl;obtain⟨r0,-⟩:=hM3.blk 0 _ rfl;obtain⟨r1,-⟩:=hM3.blk 1 _ rfl;have hbd3:Below w3.heap.size w3 w3.drew:=(Below.refl _ _).drew;have hda:=doneAt_any AD D.length cD (.slice AP P.length cP) D d w3.drew (by omega) (hM3.oD.slAt.below hbd3) hsH.out;obtain⟨hb3H,hM3H,hzi3H,hzm3H,hbd3H,hdaH⟩:=hq2 hb3 (hqb hM3 hzi3 hzm3 hbd3 (Lib.hid hda));clear hb3 hM3 hzi3 hzm3 hbd3 hda;go_wp2_with fail;refine startR (R:=Rk (fun _=>True) (fun V=>V.cell? ⟨sb,0,none⟩=some (.slice AD D.length cD)∧V.cell? ⟨sb,1,none⟩=some (.slice AP P.length cP)∧V.cell? ⟨ib,1,none⟩=some (.string d)) 99 99) (by kernel_rfl) ?_
 have hC:w3.drew.cell? ⟨sb,0,none⟩=some (.slice AD D.length cD)∧w3.drew.cell? ⟨sb,1,none⟩=some (.slice AP P.length cP)∧w3.drew.cell? ⟨ib,1,none⟩=some (.string d):=⟨r0,r1,i1⟩;refine takeC (i:=0) (d:=some 35) (v:=?_) rfl rfl (by kernel_rfl) (by kernel_rfl) (by kernel_rfl) (by kernel_rfl) (fun _ _ _ h=>h) (Or.inl ⟨by rfl,?_⟩) hC ?_
 rotate_left
 ·(intro w hSw;(try dsimp only at hSw);go_simp;(try with_reducible rfl))
 (try simp only[Act.put,List.setIfInBounds_toArray,List.set_cons_zero,List.set_cons_succ])
 refine takeC (i:=1) (d:=some 36) (v:=?_) rfl rfl (by kernel_rfl) (by kernel_rfl) (by kernel_rfl) (by kernel_rfl) (fun _ _ _ h=>h) (Or.inl ⟨by rfl,?_⟩) hC ?_
 rotate_left
 ·(intro w hSw;(try dsimp only at hSw);go_simp;(try with_reducible rfl))
 (try simp only[Act.put,List.setIfInBounds_toArray,List.set_cons_zero,List.set_cons_succ])
 refine takeC (i:=2) (d:=some 37) (v:=?_) rfl rfl (by kernel_rfl) (by kernel_rfl) (by kernel_rfl) (by kernel_rfl) (fun _ _ _ h=>h) (Or.inl ⟨by rfl,?_⟩) hC ?_
 rotate_left
 ·(intro w hSw;(try dsimp only at hSw);go_simp;(try with_reducible rfl))
 (try simp only[Act.put,List.setIfInBounds_toArray,List.set_cons_zero,List.set_cons_succ])
 refine takeC (i:=3) (d:=some 38) (v:=?_) rfl rfl (by kernel_rfl) (by kernel_rfl) (by kernel_rfl) (by kernel_rfl) (fun _ _ _ h=>h) (Or.inl ⟨by rfl,?_⟩) hC ?_
 rotate_left
 ·(intro w hSw;(try dsimp only at hSw);go_simp;(try with_reducible rfl))
 (try simp only[Act.put,List.setIfInBounds_toArray,List.set_cons_zero,List.set_cons_succ])
 refine takeC (i:=4) (d:=some 39) (v:=?_) rfl rfl (by kernel_rfl) (by kernel_rfl) (by kernel_rfl) (by kernel_rfl) (fun _ _ _ h=>h) (Or.inl ⟨by rfl,?_⟩) hC ?_
 rotate_left
 ·(intro w hSw;(try dsimp only at hSw);go_simp;(try with_reducible rfl))
 (try simp only[Act.put,List.setIfInBounds_toArray,List.set_cons_zero,List.set_cons_succ])
 refine oneR (i:=5) (by kernel_rfl) rfl (fun K hK=>?_);go_simp;go_at_call 33;refine hdaH.out.mono ?_;rintro e w4 ⟨kd,fd,rfl,hb4,hat⟩;have hb34:Below w3.heap.size w3 w4:=hbd3H.out.trans hb4;obtain rfl:fd=false:=by
  cases fd
  ·rfl
  ·obtain⟨x,hx,hxd⟩:=hat.yes rfl;exact absurd hxd (hnoH.out x (List.mem_of_getElem? hx))
 have hM4:=hM3H.out.below hb34;have hzi4:=blk_below hzi3H.out (by simp[msgL]) hb34;have hzm4:=blk_below hzm3H.out (by simp[zmV]) hb34;have hC4:w4.cell? ⟨sb,0,none⟩=some (.slice AD D.length cD)∧w4.cell? ⟨sb,1,none⟩=some (.slice AP P.length cP)∧w4.cell? ⟨ib,1,none⟩=some (.string d):=⟨keepC hb34 r0,keepC hb34 r1,keepC hb34 i1⟩;obtain⟨hb4H,hatH,hb34H,hM4H,hzi4H,hzm4H⟩:=hq2 hb4 (hqb hat hb34 hM4 hzi4 (Lib.hid hzm4));clear hb4 hat hb34 hM4 hzi4 hzm4;refine hK.out _ _ ⟨fun _ _ _=>trivial,fun _ _=>hC4⟩ ?_;clear hK K
 (try simp only[Act.put,List.setIfInBounds_toArray,List.set_cons_zero,List.set_cons_succ])
 clear hC;have hC:=hC4;refine takeC (i:=6) (d:=some 34) (v:=?_) rfl rfl (by kernel_rfl) (by kernel_rfl) (by kernel_rfl) (by kernel_rfl) (fun _ _ _ h=>h) (Or.inl ⟨by rfl,?_⟩) hC ?_
 rotate_left
 ·(intro w hSw;(try dsimp only at hSw);go_simp;(try with_reducible rfl))
 (try simp only[Act.put,List.setIfInBounds_toArray,List.set_cons_zero,List.set_cons_succ])
 refine takeC (i:=7) (d:=some 41) (v:=?_) rfl rfl (by kernel_rfl) (by kernel_rfl) (by kernel_rfl) (by kernel_rfl) (fun _ _ _ h=>h) (Or.inl ⟨by rfl,?_⟩) hC ?_
 rotate_left
 ·(intro w hSw;(try dsimp only at hSw);go_simp;(try with_reducible rfl))
 (try simp only[Act.put,List.setIfInBounds_toArray,List.set_cons_zero,List.set_cons_succ])
 refine takeC (i:=8) (d:=some 42) (v:=?_) rfl rfl (by kernel_rfl) (by kernel_rfl) (by kernel_rfl) (by kernel_rfl) (fun _ _ _ h=>h) (Or.inl ⟨by rfl,?_⟩) hC ?_
 rotate_left
 ·(intro w hSw;(try dsimp only at hSw);go_simp;(try with_reducible rfl))
 (try simp only[Act.put,List.setIfInBounds_toArray,List.set_cons_zero,List.set_cons_succ])
 refine takeC (i:=9) (d:=some 7) (v:=?_) rfl rfl (by kernel_rfl) (by kernel_rfl) (by kernel_rfl) (by kernel_rfl) (fun _ _ _ h=>h) (Or.inl ⟨by rfl,?_⟩) hC ?_
 rotate_left
 ·(intro w hSw;(try dsimp only at hSw);go_simp;(try with_reducible rfl))
 (try simp only[Act.put,List.setIfInBounds_toArray,List.set_cons_zero,List.set_cons_succ])
 refine takeC (i:=10) (d:=some 8) (v:=?_) rfl rfl (by kernel_rfl) (by kernel_rfl) (by kernel_rfl) (by kernel_rfl) (fun _ _ _ h=>h) (Or.inl ⟨by rfl,?_⟩) hC ?_
 rotate_left
 ·(intro w hSw;(try dsimp only at hSw);go_simp;(try with_reducible rfl))
 (try simp only[Act.put,List.setIfInBounds_toArray,List.set_cons_zero,List.set_cons_succ])
 refine doneR (by kernel_rfl) ?_ _;clear hC r0 r1 i0 i1 i2 i3 i4;obtain⟨r0,r1,i1⟩:=hC4;obtain⟨i0,-⟩:=hzi4H.out 0 _ rfl;obtain⟨i2,-⟩:=hzi4H.out 2 _ rfl;obtain⟨i3,-⟩:=hzi4H.out 3 _ rfl;obtain⟨i4,-⟩:=hzi4H.out 4 _ rfl;have hbd4:Below w4.heap.size w4 w4.drew:=(Below.refl _ _).drew;have hpa:=partAt_any AP P.length cP (.slice AD D.length cD) P d w4.drew (by have:=hptH.out.len;omega) (hM4H.out.oP.slAt.below hbd4) hptH.out.sorted;obtain⟨hbd4H,hpaH⟩:=hq2 hbd4 (Lib.hid hpa);clear hbd4 hpa;go_wp2_with fail;refine startR (R:=Rk (fun _=>True) (fun V=>V.cell? ⟨sb,0,none⟩=some (.slice AD D.length cD)∧V.cell? ⟨sb,1,none⟩=some (.slice AP P.length cP)∧V.cell? ⟨ib,1,none⟩=some (.string d)) 99 99) (by kernel_rfl) ?_;have hC:w4.drew.cell? ⟨sb,0,none⟩=some (.slice AD D.length cD)∧w4.drew.cell? ⟨sb,1,none⟩=some (.slice AP P.length cP)∧w4.drew.cell? ⟨ib,1,none⟩=some (.string d):=⟨r0,r1,i1⟩;refine takeC (i:=0) (d:=some 48) (v:=?_) rfl rfl (by kernel_rfl) (by kernel_rfl) (by kernel_rfl) (by kernel_rfl) (fun _ _ _ h=>h) (Or.inl ⟨by rfl,?_⟩) hC ?_
 rotate_left
 ·(intro w hSw;(try dsimp only at hSw);go_simp;(try with_reducible rfl))
 (try simp only[Act.put,List.setIfInBounds_toArray,List.set_cons_zero,List.set_cons_succ])
 refine takeC (i:=1) (d:=some 49) (v:=?_) rfl rfl (by kernel_rfl) (by kernel_rfl) (by kernel_rfl) (by kernel_rfl) (fun _ _ _ h=>h) (Or.inl ⟨by rfl,?_⟩) hC ?_
 rotate_left
 ·(intro w hSw;(try dsimp only at hSw);go_simp;(try with_reducible rfl))
 (try simp only[Act.put,List.setIfInBounds_toArray,List.set_cons_zero,List.set_cons_succ])
 refine takeC (i:=2) (d:=some 50) (v:=?_) rfl rfl (by kernel_rfl) (by kernel_rfl) (by kernel_rfl) (by kernel_rfl) (fun _ _ _ h=>h) (Or.inl ⟨by rfl,?_⟩) hC ?_
 rotate_left
 ·(intro w hSw;(try dsimp only at hSw);go_simp;(try with_reducible rfl))
 (try simp only[Act.put,List.setIfInBounds_toArray,List.set_cons_zero,List.set_cons_succ])
 refine takeC (i:=3) (d:=some 51) (v:=?_) rfl rfl (by kernel_rfl) (by kernel_rfl) (by kernel_rfl) (by kernel_rfl) (fun _ _ _ h=>h) (Or.inl ⟨by rfl,?_⟩) hC ?_
 rotate_left
 ·(intro w hSw;(try dsimp only at hSw);go_simp;(try with_reducible rfl))
 (try simp only[Act.put,List.setIfInBounds_toArray,List.set_cons_zero,List.set_cons_succ])
 refine takeC (i:=4) (d:=some 52) (v:=?_) rfl rfl (by kernel_rfl) (by kernel_rfl) (by kernel_rfl) (by kernel_rfl) (fun _ _ _ h=>h) (Or.inl ⟨by rfl,?_⟩) hC ?_
 rotate_left
 ·(intro w hSw;(try dsimp only at hSw);go_simp;(try with_reducible rfl))
 (try simp only[Act.put,List.setIfInBounds_toArray,List.set_cons_zero,List.set_cons_succ])
 refine oneR (i:=5) (by kernel_rfl) rfl (fun K hK=>?_);go_simp;go_at_call 98;refine hpaH.out.mono ?_;rintro e w5 ⟨kp,fp,rfl,hb5,hat5⟩;have hb45:Below w4.heap.size w4 w5:=hbd4H.out.trans hb5;have hM5:=hM4H.out.below hb45;have hzi5:=blk_below hzi4H.out (by simp[msgL]) hb45;have hzm5:=blk_below hzm4H.out (by simp[zmV]) hb45;have hC5:w5.cell? ⟨sb,0,none⟩=some (.slice AD D.length cD)∧w5.cell? ⟨sb,1,none⟩=some (.slice AP P.length cP)∧w5.cell? ⟨ib,1,none⟩=some (.string d):=⟨keepC hb45 r0,keepC hb45 r1,keepC hb45 i1⟩;have hb05:Below w.heap.size w w5:=by
  have h1:=hb2H.out.size;have h2:=hb3H.out.size;have h3:=hb34H.out.size;exact(hb2H.out.trans (hb3H.out.mono h1)).trans ((hb34H.out.mono (by omega)).trans (hb45.mono (by omega)))
 obtain⟨hb5H,hat5H,hb45H,hM5H,hzi5H,hzm5H,hb05H⟩:=hq2 hb5 (hq2 hat5 (hqb hb45 hM5 hzi5 hzm5 (Lib.hid hb05)));clear hb5 hat5 hb45 hM5 hzi5 hzm5 hb05;refine hK.out _ _ ⟨fun _ _ _=>trivial,fun _ _=>hC5⟩ ?_;clear hK K
 (try simp only[Act.put,List.setIfInBounds_toArray,List.set_cons_zero,List.set_cons_succ])
 clear hC;have hC:=hC5;refine takeC (i:=6) (d:=some 47) (v:=?_) rfl rfl (by kernel_rfl) (by kernel_rfl) (by kernel_rfl) (by kernel_rfl) (fun _ _ _ h=>h) (Or.inl ⟨by rfl,?_⟩) hC ?_
 rotate_left
 ·(intro w hSw;(try dsimp only at hSw);go_simp;(try with_reducible rfl))
 (try simp only[Act.put,List.setIfInBounds_toArray,List.set_cons_zero,List.set_cons_succ])
 refine takeC (i:=7) (d:=some 54) (v:=?_) rfl rfl (by kernel_rfl) (by kernel_rfl) (by kernel_rfl) (by kernel_rfl) (fun _ _ _ h=>h) (Or.inl ⟨by rfl,?_⟩) hC ?_
 rotate_left
 ·(intro w hSw;(try dsimp only at hSw);go_simp;(try with_reducible rfl))
 (try simp only[Act.put,List.setIfInBounds_toArray,List.set_cons_zero,List.set_cons_succ])
 refine takeC (i:=8) (d:=some 55) (v:=?_) rfl rfl (by kernel_rfl) (by kernel_rfl) (by kernel_rfl) (by kernel_rfl) (fun _ _ _ h=>h) (Or.inl ⟨by rfl,?_⟩) hC ?_
 rotate_left
 ·(intro w hSw;(try dsimp only at hSw);go_simp;(try with_reducible rfl))
 (try simp only[Act.put,List.setIfInBounds_toArray,List.set_cons_zero,List.set_cons_succ])
 refine takeC (i:=9) (d:=some 9) (v:=?_) rfl rfl (by kernel_rfl) (by kernel_rfl) (by kernel_rfl) (by kernel_rfl) (fun _ _ _ h=>h) (Or.inl ⟨by rfl,?_⟩) hC ?_
 rotate_left
 ·(intro w hSw;(try dsimp only at hSw);go_simp;(try with_reducible rfl))
 (try simp only[Act.put,List.setIfInBounds_toArray,List.set_cons_zero,List.set_cons_succ])
 refine takeC (i:=10) (d:=some 10) (v:=?_) rfl rfl (by kernel_rfl) (by kernel_rfl) (by kernel_rfl) (by kernel_rfl) (fun _ _ _ h=>h) (Or.inl ⟨by rfl,?_⟩) hC ?_
 rotate_left
 ·(intro w hSw;(try dsimp only at hSw);go_simp;(try with_reducible rfl))
 (try simp only[Act.put,List.setIfInBounds_toArray,List.set_cons_zero,List.set_cons_succ])
 refine doneR (by kernel_rfl) ?_ _;clear hC r0 r1 i0 i1 i2 i3 i4;obtain⟨r0,r1,i1⟩:=hC5;obtain⟨i0,-⟩:=hzi5H.out 0 _ rfl;obtain⟨i2,-⟩:=hzi5H.out 2 _ rfl;obtain⟨i3,-⟩:=hzi5H.out 3 _ rfl;obtain⟨i4,-⟩:=hzi5H.out 4 _ rfl;have hbg:=begin_all T sb rest (.slice AD D.length cD) (.slice AP P.length cP) vB D P bs d b n hn hn1 hptH.out hdH.out hDl hsH.out hnoH.out w5 hM5H.out;unfold msgV at hbg;have hbgH:=Lib.hid hbg;clear hbg;go_wp2_with fail;refine hbgH.out.mono ?_;rintro e w6 ⟨k,f,rfl,hR⟩;have hzm6:Blk w6 (ib+1) zmV:=hR.2.1.blk hzm5H.out (by simp[zmV]) hfmH.out.nS;obtain⟨y0,z0⟩:=hzm6 0 _ rfl;obtain⟨y1,z1⟩:=hzm6 1 _ rfl;obtain⟨y2,z2⟩:=hzm6 2 _ rfl;obtain⟨y3,z3⟩:=hzm6 3 _ rfl;obtain⟨y4,z4⟩:=hzm6 4 _ rfl;have hgm:=msg_grown w6 (ib+1) (.int .i64 k) (.string d) (.int .i64 f) (.int .i64 0) (.slice none 0 0);have hzm7:=msg_set hzm6 (.int .i64 k) (.string d) (.int .i64 f) (.int .i64 0) (.slice none 0 0);obtain⟨W7,hW7⟩:∃ W,(((((w6.setCell ⟨ib+1,0,none⟩ (.int .i64 k)).setCell ⟨ib+1,1,none⟩ (.string d)).setCell ⟨ib+1,2,none⟩ (.int .i64 f)).setCell ⟨ib+1,3,none⟩ (.int .i64 0)).setCell ⟨ib+1,4,none⟩ (.slice none 0 0))=W:=⟨_,rfl⟩;rw[hW7]at hgm hzm7;have hlt5:ib+1<w5.heap.size:=hzm5H.out.lt (by simp[zmV]);have R:=hZ'H.out (.returned (.tuple #[msgV k d f 0 (.slice none 0 0),.int .i64 0])) W7 ⟨k,f,rfl,hR.wrap hMH.out hb05H.out (by omega) hlt5 hgm⟩;clear hR hgm;obtain⟨hzm6H,hzm7H,RH⟩:=hq2 hzm6 (hq2 hzm7 (Lib.hid R));clear hzm6 hzm7 R;unfold msgV;go_wp2_with fail
 try rw[hW7]
 obtain⟨t0,-⟩:=hzm7H.out 0 _ rfl;obtain⟨t1,-⟩:=hzm7H.out 1 _ rfl;obtain⟨t2,-⟩:=hzm7H.out 2 _ rfl;obtain⟨t3,-⟩:=hzm7H.out 3 _ rfl;obtain⟨t4,-⟩:=hzm7H.out 4 _ rfl;exact bodyPost_ret (v:=.tuple #[msgV k d f 0 (.slice none 0 0),.int .i64 0]) (by simp[results,Tryz.results64,go_sem,t0,t1,t2,t3,t4,msgV]) rfl RH.out
theorem take_data (T sb:Nat) (rest:List Value) (vD vP:Value) (AB Ax:Option Addr) (nB cB nx cx:Nat) (D:List ObT) (d:ByteArray) (hdB:digB d=true) (b bs l:List UInt8) (n:Nat) (hn:b.length=n) (hn1:n≤100000) (hbs:bs=b.take nB) (hl:l=(b.drop nB).take nx) (hlt:nB<n) (hnx:0<nx) (hnx2:nx≤65536) (hle:nB+nx≤n) (hd:digF b=d) (hDl:D.length<4000) (hs:D.Pairwise fun a b=>cmpS a.dig b.dig = -1) (hno:∀ x∈D,x.dig≠d) (w:World) (hM:SnM T sb rest vD vP (.slice AB nB cB) D [⟨d,n,⟨AB,nB,cB,bs⟩⟩] bs w) (hx:(RSl RU8).ok w ⟨Ax,nx,cx,l⟩) :
  Calls Tryz.prog 64 #[.pointer (some ⟨sb,0,none⟩),msgV 2 d nB 0 (.slice Ax nx cx)] w (TkAns T sb rest vD vP (.slice AB nB cB) D d b n (nB+1) w):=by
 obtain⟨Z,hZ⟩:∃ Z,TkAns T sb rest vD vP (.slice AB nB cB) D d b n (nB+1) w=Z:=⟨_,rfl⟩;have hZ':∀ e W,TkAns T sb rest vD vP (.slice AB nB cB) D d b n (nB+1) w e W→Z e W:=fun e W h=>by rw[← hZ];exact h
 rw[hZ];clear hZ;obtain⟨AD,cD,hvD⟩:=hM.oD.form;obtain⟨AP,cP,hvP⟩:=hM.oP.form;replace hvP:vP = .slice AP 1 cP:=hvP;subst hvD hvP;unfold msgV;obtain⟨W2,hW2⟩:∃ W,(w.alloc (.cells #[.int .i64 2,.string d,.int .i64 nB,.int .i64 0,.slice Ax nx cx] 131)).alloc (.cells #[.int .i64 0,.string ⟨#[]⟩,.int .i64 0,.int .i64 0,.slice none 0 0] 131)=W:=⟨_,rfl⟩;have hb2:Below w.heap.size w W2:=by rw[← hW2];exact((Below.refl _ _).alloc (Nat.le_refl _) _).alloc (by simp) _
 have hs2:W2.heap.size=w.heap.size+2:=by rw[← hW2];simp
 have hzi:Blk W2 w.heap.size (msgL 2 d nB 0 (.slice Ax nx cx)):=by
  rw[← hW2];unfold msgL;exact blk_below (blk_new w [.int .i64 2,.string d,.int .i64 nB,.int .i64 0,.slice Ax nx cx] 131) (by simp) ((Below.refl _ _).alloc (Nat.le_refl _) _)
 have hzm:Blk W2 (w.heap.size+1) zmV:=by
  rw[← hW2];have:=blk_new (w.alloc (.cells #[.int .i64 2,.string d,.int .i64 nB,.int .i64 0,.slice Ax nx cx] 131)) [.int .i64 0,.string ⟨#[]⟩,.int .i64 0,.int .i64 0,.slice none 0 0] 131
  simpa[zmV]using this
 have hM2:=hM.below hb2;have hck:=checkData_any d hdB nB (by omega) Ax nx cx hnx hnx2 W2;unfold msgV at hck;obtain⟨ib,hib⟩:∃ b,w.heap.size=b:=⟨_,rfl⟩;have hfi:Fr ib sb (.slice AD D.length cD) (.slice AP 1 cP) (.slice AB nB cB) D:=hM.fresh (m:=ib) (by omega);have hfm:Fr (ib+1) sb (.slice AD D.length cD) (.slice AP 1 cP) (.slice AB nB cB) D:=hM.fresh (m:=ib+1) (by omega);rw[hib]at hzi hzm hs2;obtain⟨i0,-⟩:=hzi 0 _ rfl;obtain⟨i1,-⟩:=hzi 1 _ rfl;obtain⟨i2,-⟩:=hzi 2 _ rfl;obtain⟨i3,-⟩:=hzi 3 _ rfl;obtain⟨i4,-⟩:=hzi 4 _ rfl;obtain⟨hZ'H,hMH,hb2H,hziH,hzmH,hM2H,hfiH,hfmH,hckH,hsH,hnoH,hdH,hxH⟩:=hqb hZ' hM hb2 hzi (hqc hzm hM2 hfi hfm hck hs hno hd (Lib.hid hx));clear hZ' hM hb2 hzi hzm hM2 hfi hfm hck hs hno hd hx;go_enter Tryz.func64,Tryz.ntmps64;go_wp2_with fail;refine hckH.out.mono ?_;rintro e w3 ⟨rfl,hb3⟩;have hM3:=hM2H.out.below hb3;have hzi3:=blk_below hziH.out (by simp[msgL]) hb3;have hzm3:=blk_below hzmH.out (by simp[zmV]) hb3;clear i0 i1 i2 i3 i4;obtain⟨i0,-⟩:=hzi3 0 _ rfl;obtain⟨i1,-⟩:=hzi3 1 _ rfl;obtain⟨i2,-⟩:=hzi3 2 _ rfl;obtain⟨i3,-⟩:=hzi3 3 _ rfl;obtain⟨i4,-⟩:=hzi3 4 _ rfl;obtain⟨r0,-⟩:=hM3.blk 0 _ rfl;obtain⟨r1,-⟩:=hM3.blk 1 _ rfl;have hbd3:Below w3.heap.size w3 w3.drew:=(Below.refl _ _).drew;have hda:=doneAt_any AD D.length cD (.slice AP 1 cP) D d w3.drew (by omega) (hM3.oD.slAt.below hbd3) hsH.out;obtain⟨hb3H,hM3H,hzi3H,hzm3H,hbd3H,hdaH⟩:=hq2 hb3 (hqb hM3 hzi3 hzm3 hbd3 (Lib.hid hda));clear hb3 hM3 hzi3 hzm3 hbd3 hda;go_wp2_with fail
 refine startR (R:=Rk (fun _=>True) (fun V=>V.cell? ⟨sb,0,none⟩=some (.slice AD D.length cD)∧V.cell? ⟨sb,1,none⟩=some (.slice AP 1 cP)∧V.cell? ⟨ib,1,none⟩=some (.string d)) 99 99) (by kernel_rfl) ?_;have hC:w3.drew.cell? ⟨sb,0,none⟩=some (.slice AD D.length cD)∧w3.drew.cell? ⟨sb,1,none⟩=some (.slice AP 1 cP)∧w3.drew.cell? ⟨ib,1,none⟩=some (.string d):=⟨r0,r1,i1⟩;refine takeC (i:=0) (d:=some 35) (v:=?_) rfl rfl (by kernel_rfl) (by kernel_rfl) (by kernel_rfl) (by kernel_rfl) (fun _ _ _ h=>h) (Or.inl ⟨by rfl,?_⟩) hC ?_
 rotate_left
 ·(intro w hSw;(try dsimp only at hSw);go_simp;(try with_reducible rfl))
 (try simp only[Act.put,List.setIfInBounds_toArray,List.set_cons_zero,List.set_cons_succ])
 refine takeC (i:=1) (d:=some 36) (v:=?_) rfl rfl (by kernel_rfl) (by kernel_rfl) (by kernel_rfl) (by kernel_rfl) (fun _ _ _ h=>h) (Or.inl ⟨by rfl,?_⟩) hC ?_
 rotate_left
 ·(intro w hSw;(try dsimp only at hSw);go_simp;(try with_reducible rfl))
 (try simp only[Act.put,List.setIfInBounds_toArray,List.set_cons_zero,List.set_cons_succ])
 refine takeC (i:=2) (d:=some 37) (v:=?_) rfl rfl (by kernel_rfl) (by kernel_rfl) (by kernel_rfl) (by kernel_rfl) (fun _ _ _ h=>h) (Or.inl ⟨by rfl,?_⟩) hC ?_
 rotate_left
 ·(intro w hSw;(try dsimp only at hSw);go_simp;(try with_reducible rfl))
 (try simp only[Act.put,List.setIfInBounds_toArray,List.set_cons_zero,List.set_cons_succ])
 refine takeC (i:=3) (d:=some 38) (v:=?_) rfl rfl (by kernel_rfl) (by kernel_rfl) (by kernel_rfl) (by kernel_rfl) (fun _ _ _ h=>h) (Or.inl ⟨by rfl,?_⟩) hC ?_
 rotate_left
 ·(intro w hSw;(try dsimp only at hSw);go_simp;(try with_reducible rfl))
 (try simp only[Act.put,List.setIfInBounds_toArray,List.set_cons_zero,List.set_cons_succ])
 refine takeC (i:=4) (d:=some 39) (v:=?_) rfl rfl (by kernel_rfl) (by kernel_rfl) (by kernel_rfl) (by kernel_rfl) (fun _ _ _ h=>h) (Or.inl ⟨by rfl,?_⟩) hC ?_
 rotate_left
 ·(intro w hSw;(try dsimp only at hSw);go_simp;(try with_reducible rfl))
 (try simp only[Act.put,List.setIfInBounds_toArray,List.set_cons_zero,List.set_cons_succ])
 refine oneR (i:=5) (by kernel_rfl) rfl (fun K hK=>?_);go_simp;go_at_call 33;refine hdaH.out.mono ?_;rintro e w4 ⟨kd,fd,rfl,hb4,hat⟩;have hb34:Below w3.heap.size w3 w4:=hbd3H.out.trans hb4;obtain rfl:fd=false:=by
  cases fd
  ·rfl
  ·obtain⟨x,hx,hxd⟩:=hat.yes rfl;exact absurd hxd (hnoH.out x (List.mem_of_getElem? hx))
 have hM4:=hM3H.out.below hb34;have hzi4:=blk_below hzi3H.out (by simp[msgL]) hb34;have hzm4:=blk_below hzm3H.out (by simp[zmV]) hb34;have hC4:w4.cell? ⟨sb,0,none⟩=some (.slice AD D.length cD)∧w4.cell? ⟨sb,1,none⟩=some (.slice AP 1 cP)∧w4.cell? ⟨ib,1,none⟩=some (.string d):=⟨keepC hb34 r0,keepC hb34 r1,keepC hb34 i1⟩;obtain⟨hb4H,hatH,hb34H,hM4H,hzi4H,hzm4H⟩:=hq2 hb4 (hqb hat hb34 hM4 hzi4 (Lib.hid hzm4));clear hb4 hat hb34 hM4 hzi4 hzm4;refine hK.out _ _ ⟨fun _ _ _=>trivial,fun _ _=>hC4⟩ ?_;clear hK K
 (try simp only[Act.put,List.setIfInBounds_toArray,List.set_cons_zero,List.set_cons_succ])
 clear hC;have hC:=hC4;refine takeC (i:=6) (d:=some 34) (v:=?_) rfl rfl (by kernel_rfl) (by kernel_rfl) (by kernel_rfl) (by kernel_rfl) (fun _ _ _ h=>h) (Or.inl ⟨by rfl,?_⟩) hC ?_
 rotate_left
 ·(intro w hSw;(try dsimp only at hSw);go_simp;(try with_reducible rfl))
 (try simp only[Act.put,List.setIfInBounds_toArray,List.set_cons_zero,List.set_cons_succ])
 refine takeC (i:=7) (d:=some 41) (v:=?_) rfl rfl (by kernel_rfl) (by kernel_rfl) (by kernel_rfl) (by kernel_rfl) (fun _ _ _ h=>h) (Or.inl ⟨by rfl,?_⟩) hC ?_
 rotate_left
 ·(intro w hSw;(try dsimp only at hSw);go_simp;(try with_reducible rfl))
 (try simp only[Act.put,List.setIfInBounds_toArray,List.set_cons_zero,List.set_cons_succ])
 refine takeC (i:=8) (d:=some 42) (v:=?_) rfl rfl (by kernel_rfl) (by kernel_rfl) (by kernel_rfl) (by kernel_rfl) (fun _ _ _ h=>h) (Or.inl ⟨by rfl,?_⟩) hC ?_
 rotate_left
 ·(intro w hSw;(try dsimp only at hSw);go_simp;(try with_reducible rfl))
 (try simp only[Act.put,List.setIfInBounds_toArray,List.set_cons_zero,List.set_cons_succ])
 refine takeC (i:=9) (d:=some 7) (v:=?_) rfl rfl (by kernel_rfl) (by kernel_rfl) (by kernel_rfl) (by kernel_rfl) (fun _ _ _ h=>h) (Or.inl ⟨by rfl,?_⟩) hC ?_
 rotate_left
 ·(intro w hSw;(try dsimp only at hSw);go_simp;(try with_reducible rfl))
 (try simp only[Act.put,List.setIfInBounds_toArray,List.set_cons_zero,List.set_cons_succ])
 refine takeC (i:=10) (d:=some 8) (v:=?_) rfl rfl (by kernel_rfl) (by kernel_rfl) (by kernel_rfl) (by kernel_rfl) (fun _ _ _ h=>h) (Or.inl ⟨by rfl,?_⟩) hC ?_
 rotate_left
 ·(intro w hSw;(try dsimp only at hSw);go_simp;(try with_reducible rfl))
 (try simp only[Act.put,List.setIfInBounds_toArray,List.set_cons_zero,List.set_cons_succ])
 refine doneR (by kernel_rfl) ?_ _;clear hC r0 r1 i0 i1 i2 i3 i4;obtain⟨r0,r1,i1⟩:=hC4;obtain⟨i0,-⟩:=hzi4H.out 0 _ rfl;obtain⟨i2,-⟩:=hzi4H.out 2 _ rfl;obtain⟨i3,-⟩:=hzi4H.out 3 _ rfl;obtain⟨i4,-⟩:=hzi4H.out 4 _ rfl;have hbd4:Below w4.heap.size w4 w4.drew:=(Below.refl _ _).drew;have hpa:=partAt_any AP 1 cP (.slice AD D.length cD) [⟨d,n,⟨AB,nB,cB,bs⟩⟩] d w4.drew (by decide) (hM4H.out.oP.slAt.below hbd4) (List.pairwise_singleton _ _);obtain⟨hbd4H,hpaH⟩:=hq2 hbd4 (Lib.hid hpa);clear hbd4 hpa;go_wp2_with fail;refine startR (R:=Rk (fun _=>True) (fun V=>V.cell? ⟨sb,0,none⟩=some (.slice AD D.length cD)∧V.cell? ⟨sb,1,none⟩=some (.slice AP 1 cP)∧V.cell? ⟨ib,1,none⟩=some (.string d)) 99 99) (by kernel_rfl) ?_;have hC:w4.drew.cell? ⟨sb,0,none⟩=some (.slice AD D.length cD)∧w4.drew.cell? ⟨sb,1,none⟩=some (.slice AP 1 cP)∧w4.drew.cell? ⟨ib,1,none⟩=some (.string d):=⟨r0,r1,i1⟩;refine takeC (i:=0) (d:=some 48) (v:=?_) rfl rfl (by kernel_rfl) (by kernel_rfl) (by kernel_rfl) (by kernel_rfl) (fun _ _ _ h=>h) (Or.inl ⟨by rfl,?_⟩) hC ?_
 rotate_left
 ·(intro w hSw;(try dsimp only at hSw);go_simp;(try with_reducible rfl))
 (try simp only[Act.put,List.setIfInBounds_toArray,List.set_cons_zero,List.set_cons_succ])
 refine takeC (i:=1) (d:=some 49) (v:=?_) rfl rfl (by kernel_rfl) (by kernel_rfl) (by kernel_rfl) (by kernel_rfl) (fun _ _ _ h=>h) (Or.inl ⟨by rfl,?_⟩) hC ?_
 rotate_left
 ·(intro w hSw;(try dsimp only at hSw);go_simp;(try with_reducible rfl))
 (try simp only[Act.put,List.setIfInBounds_toArray,List.set_cons_zero,List.set_cons_succ])
 refine takeC (i:=2) (d:=some 50) (v:=?_) rfl rfl (by kernel_rfl) (by kernel_rfl) (by kernel_rfl) (by kernel_rfl) (fun _ _ _ h=>h) (Or.inl ⟨by rfl,?_⟩) hC ?_
 rotate_left
 ·(intro w hSw;(try dsimp only at hSw);go_simp;(try with_reducible rfl))
 (try simp only[Act.put,List.setIfInBounds_toArray,List.set_cons_zero,List.set_cons_succ])
 refine takeC (i:=3) (d:=some 51) (v:=?_) rfl rfl (by kernel_rfl) (by kernel_rfl) (by kernel_rfl) (by kernel_rfl) (fun _ _ _ h=>h) (Or.inl ⟨by rfl,?_⟩) hC ?_
 rotate_left
 ·(intro w hSw;(try dsimp only at hSw);go_simp;(try with_reducible rfl))
 (try simp only[Act.put,List.setIfInBounds_toArray,List.set_cons_zero,List.set_cons_succ])
 refine takeC (i:=4) (d:=some 52) (v:=?_) rfl rfl (by kernel_rfl) (by kernel_rfl) (by kernel_rfl) (by kernel_rfl) (fun _ _ _ h=>h) (Or.inl ⟨by rfl,?_⟩) hC ?_
 rotate_left
 ·(intro w hSw;(try dsimp only at hSw);go_simp;(try with_reducible rfl))
 (try simp only[Act.put,List.setIfInBounds_toArray,List.set_cons_zero,List.set_cons_succ])
 refine oneR (i:=5) (by kernel_rfl) rfl (fun K hK=>?_);go_simp;go_at_call 98;refine hpaH.out.mono ?_;rintro e w5 ⟨kp,fp,rfl,hb5,hat5⟩;have hb45:Below w4.heap.size w4 w5:=hbd4H.out.trans hb5;have hM5:=hM4H.out.below hb45;have hzi5:=blk_below hzi4H.out (by simp[msgL]) hb45;have hzm5:=blk_below hzm4H.out (by simp[zmV]) hb45;have hC5:w5.cell? ⟨sb,0,none⟩=some (.slice AD D.length cD)∧w5.cell? ⟨sb,1,none⟩=some (.slice AP 1 cP)∧w5.cell? ⟨ib,1,none⟩=some (.string d):=⟨keepC hb45 r0,keepC hb45 r1,keepC hb45 i1⟩;have hb05:Below w.heap.size w w5:=by
  have h1:=hb2H.out.size;have h2:=hb3H.out.size;have h3:=hb34H.out.size;exact(hb2H.out.trans (hb3H.out.mono h1)).trans ((hb34H.out.mono (by omega)).trans (hb45.mono (by omega)))
 obtain⟨rfl,rfl⟩:fp=true∧kp=0:=by
  have h1:fp=true:=by
   cases fp
   ·exact absurd rfl (hat5.no rfl ⟨d,n,⟨AB,nB,cB,bs⟩⟩ List.mem_cons_self)
   ·rfl
  obtain⟨x,hx,_⟩:=hat5.yes h1;refine⟨h1,?_⟩
  rcases kp with _ | kp
  ·rfl
  ·simp at hx
 obtain⟨hb5H,hat5H,hb45H,hM5H,hzi5H,hzm5H,hb05H⟩:=hq2 hb5 (hq2 hat5 (hqb hb45 hM5 hzi5 hzm5 (Lib.hid hb05)));clear hb5 hat5 hb45 hM5 hzi5 hzm5 hb05;refine hK.out _ _ ⟨fun _ _ _=>trivial,fun _ _=>hC5⟩ ?_;clear hK K
 (try simp only[Act.put,List.setIfInBounds_toArray,List.set_cons_zero,List.set_cons_succ])
 clear hC;have hC:=hC5;refine takeC (i:=6) (d:=some 47) (v:=?_) rfl rfl (by kernel_rfl) (by kernel_rfl) (by kernel_rfl) (by kernel_rfl) (fun _ _ _ h=>h) (Or.inl ⟨by rfl,?_⟩) hC ?_
 rotate_left
 ·(intro w hSw;(try dsimp only at hSw);go_simp;(try with_reducible rfl))
 (try simp only[Act.put,List.setIfInBounds_toArray,List.set_cons_zero,List.set_cons_succ])
 refine takeC (i:=7) (d:=some 54) (v:=?_) rfl rfl (by kernel_rfl) (by kernel_rfl) (by kernel_rfl) (by kernel_rfl) (fun _ _ _ h=>h) (Or.inl ⟨by rfl,?_⟩) hC ?_
 rotate_left
 ·(intro w hSw;(try dsimp only at hSw);go_simp;(try with_reducible rfl))
 (try simp only[Act.put,List.setIfInBounds_toArray,List.set_cons_zero,List.set_cons_succ])
 refine takeC (i:=8) (d:=some 55) (v:=?_) rfl rfl (by kernel_rfl) (by kernel_rfl) (by kernel_rfl) (by kernel_rfl) (fun _ _ _ h=>h) (Or.inl ⟨by rfl,?_⟩) hC ?_
 rotate_left
 ·(intro w hSw;(try dsimp only at hSw);go_simp;(try with_reducible rfl))
 (try simp only[Act.put,List.setIfInBounds_toArray,List.set_cons_zero,List.set_cons_succ])
 refine takeC (i:=9) (d:=some 9) (v:=?_) rfl rfl (by kernel_rfl) (by kernel_rfl) (by kernel_rfl) (by kernel_rfl) (fun _ _ _ h=>h) (Or.inl ⟨by rfl,?_⟩) hC ?_
 rotate_left
 ·(intro w hSw;(try dsimp only at hSw);go_simp;(try with_reducible rfl))
 (try simp only[Act.put,List.setIfInBounds_toArray,List.set_cons_zero,List.set_cons_succ])
 refine takeC (i:=10) (d:=some 10) (v:=?_) rfl rfl (by kernel_rfl) (by kernel_rfl) (by kernel_rfl) (by kernel_rfl) (fun _ _ _ h=>h) (Or.inl ⟨by rfl,?_⟩) hC ?_
 rotate_left
 ·(intro w hSw;(try dsimp only at hSw);go_simp;(try with_reducible rfl))
 (try simp only[Act.put,List.setIfInBounds_toArray,List.set_cons_zero,List.set_cons_succ])
 refine doneR (by kernel_rfl) ?_ _;clear hC r0 r1 i0 i1 i2 i3 i4;obtain⟨r0,r1,i1⟩:=hC5;obtain⟨i0,-⟩:=hzi5H.out 0 _ rfl;obtain⟨i2,-⟩:=hzi5H.out 2 _ rfl;obtain⟨i3,-⟩:=hzi5H.out 3 _ rfl;obtain⟨i4,-⟩:=hzi5H.out 4 _ rfl;have hbg:=data_all T sb rest (.slice AD D.length cD) (.slice AP 1 cP) AB Ax nB cB nx cx D d b bs l n hn hn1 hbs hl hlt hnx hle hdH.out hDl hsH.out hnoH.out w5 hM5H.out ((RSl RU8).mono _ _ _ hb05H.out hxH.out);unfold msgV at hbg;have hbgH:=Lib.hid hbg;clear hbg;go_wp2_with fail;refine hbgH.out.mono ?_;rintro e w6 ⟨k,f,rfl,hR⟩;have hzm6:Blk w6 (ib+1) zmV:=hR.2.1.blk hzm5H.out (by simp[zmV]) hfmH.out.nS;obtain⟨y0,z0⟩:=hzm6 0 _ rfl;obtain⟨y1,z1⟩:=hzm6 1 _ rfl;obtain⟨y2,z2⟩:=hzm6 2 _ rfl;obtain⟨y3,z3⟩:=hzm6 3 _ rfl;obtain⟨y4,z4⟩:=hzm6 4 _ rfl;have hgm:=msg_grown w6 (ib+1) (.int .i64 k) (.string d) (.int .i64 f) (.int .i64 0) (.slice none 0 0);have hzm7:=msg_set hzm6 (.int .i64 k) (.string d) (.int .i64 f) (.int .i64 0) (.slice none 0 0);obtain⟨W7,hW7⟩:∃ W,(((((w6.setCell ⟨ib+1,0,none⟩ (.int .i64 k)).setCell ⟨ib+1,1,none⟩ (.string d)).setCell ⟨ib+1,2,none⟩ (.int .i64 f)).setCell ⟨ib+1,3,none⟩ (.int .i64 0)).setCell ⟨ib+1,4,none⟩ (.slice none 0 0))=W:=⟨_,rfl⟩;rw[hW7]at hgm hzm7;have hlt5:ib+1<w5.heap.size:=hzm5H.out.lt (by simp[zmV]);have R:=hZ'H.out (.returned (.tuple #[msgV k d f 0 (.slice none 0 0),.int .i64 0])) W7 ⟨k,f,rfl,hR.wrap hMH.out hb05H.out (by omega) hlt5 hgm⟩;clear hR hgm;obtain⟨hzm6H,hzm7H,RH⟩:=hq2 hzm6 (hq2 hzm7 (Lib.hid R));clear hzm6 hzm7 R;unfold msgV;go_wp2_with fail
 try rw[hW7]
 obtain⟨t0,-⟩:=hzm7H.out 0 _ rfl;obtain⟨t1,-⟩:=hzm7H.out 1 _ rfl;obtain⟨t2,-⟩:=hzm7H.out 2 _ rfl;obtain⟨t3,-⟩:=hzm7H.out 3 _ rfl;obtain⟨t4,-⟩:=hzm7H.out 4 _ rfl;exact bodyPost_ret (v:=.tuple #[msgV k d f 0 (.slice none 0 0),.int .i64 0]) (by simp[results,Tryz.results64,go_sem,t0,t1,t2,t3,t4,msgV]) rfl RH.out
theorem SnM.sent {T sb:Nat} {r0 r1 r2 r3:Value} {vD vP vB:Value} {D:List ObT} {P:List PaT} {bs:List UInt8} {w:World} (h:SnM T sb [r0,r1,r2,r3] vD vP vB D P bs w) (u:Value):SnM T sb [r0,r1,r2,u] vD vP vB D P bs (w.setCell ⟨sb,5,none⟩ u) :=
 ⟨h.blk.set (k:=5) (by simp) u,own_apart h.oD _ h.nD (fun _ h=>h),own_apart h.oP _ h.nP (fun _ h=>h),own_apart h.oB _ h.nB (fun _ h=>h),h.dDP,h.dDB,h.dPB,h.nD,h.nP,h.nB,
  fun x hx=>⟨sl_grown (h.el x hx).1 (grown_setc w ⟨sb,5,none⟩ u) fun hn ad hA e=>((h.el x hx).2 hn ad hA).1 (by injection e),(h.el x hx).2⟩,h.tb⟩
theorem sl_belowT {T:Nat} {w w':World} {x:SlD UInt8} (h:(RSl RU8).ok w x) (hx:0<x.n→∀ ad,x.A=some ad→ad.block<T) (hb:Below T w w'):(RSl RU8).ok w' x:=by
 obtain⟨h1,h2⟩:=h;refine⟨⟨h1.1,fun hn=>?_,h1.2.2⟩,h2⟩;obtain⟨b,off,hA,hc⟩:=h1.2.1 hn;refine⟨b,off,hA,fun j y hj k u hk=>?_⟩;have h3:=hc j y hj k u hk;have hlt:=hx hn _ hA;exact(World.cell?_of_block (w:=w) (hb.block b hlt)).trans h3
def KpF (sb:Nat) (vD vP vB:Value) (D:List ObT) (vD' vP' vB':Value) (D':List ObT) (w w':World):Prop:=w.heap.size≤w'.heap.size∧∀ m,m<w.heap.size→Fr m sb vD vP vB D→w'.heap[m]? = w.heap[m]?∧Fr m sb vD' vP' vB' D'
section
variable {T sb:Nat} {vD vP vB vD' vP' vB' vD'' vP'' vB'':Value} {D D' D'':List ObT} {w w' w'':World}
theorem KpF.refl:KpF sb vD vP vB D vD vP vB D w w:=⟨Nat.le_refl _,fun m _ h=>⟨rfl,h⟩⟩
theorem KpF.trans (h:KpF sb vD vP vB D vD' vP' vB' D' w w') (k:KpF sb vD' vP' vB' D' vD'' vP'' vB'' D'' w' w''):KpF sb vD vP vB D vD'' vP'' vB'' D'' w w'' :=
 ⟨Nat.le_trans h.1 k.1,fun m hm hf=>by
  obtain⟨h1,h2⟩:=h.2 m hm hf;obtain⟨k1,k2⟩:=k.2 m (Nat.lt_of_lt_of_le hm h.1) h2;exact⟨k1.trans h1,k2⟩⟩
theorem KpF.below (h:KpF sb vD vP vB D vD' vP' vB' D' w w') (k:Below w'.heap.size w' w''):KpF sb vD vP vB D vD' vP' vB' D' w w'' :=
 ⟨Nat.le_trans h.1 k.size,fun m hm hf=>by
  obtain⟨h1,h2⟩:=h.2 m hm hf;exact⟨(k.block m (Nat.lt_of_lt_of_le hm h.1)).trans h1,h2⟩⟩
theorem KpF.grown {m0:Nat} (h:KpF sb vD vP vB D vD' vP' vB' D' w w') (hg:w'.grownBy w'' (some m0)) (hm:m0=sb∨w.heap.size≤m0):KpF sb vD vP vB D vD' vP' vB' D' w w'' :=
 ⟨Nat.le_trans h.1 hg.size,fun m hm1 hf=>by
  obtain⟨h1,h2⟩:=h.2 m hm1 hf;refine⟨(hg.block m (Nat.lt_of_lt_of_le hm1 h.1) fun e=>?_).trans h1,h2⟩;injection e with e
  rcases hm with hm | hm
  ·exact hf.1 (by rw[e,hm])
  ·omega⟩
theorem TkR.keeps (hk:Kp (SnS sb vD vP vB) w w') (h1:Ob w vD vD') (h2:Ob w vP vP') (h3:Ob w vB vB') (h4:∀ x∈D',x∈D∨∀ ad,x.bytes.A=some ad→vB.ownBlock=some ad.block∨w.heap.size≤ad.block):KpF sb vD vP vB D vD' vP' vB' D' w w' :=
 ⟨hk.size,fun m hm hf=>⟨hk.block m hm hf.nS,hf.step hm h1 h2 h3 h4⟩⟩
end
def onM (n mb:Nat) (W:World):Nat:=match W.cell? ⟨mb,0,none⟩,W.cell? ⟨mb,2,none⟩ with
 | some (.int _ k),some (.int _ f)=>if k=1 then n+1 else n-f.toNat
 | _,_=>0
def MsgAt (sb mb:Nat) (d:ByteArray) (b:List UInt8) (n:Nat) (vB:Value) (P:List PaT) (bs:List UInt8) (W:World):Prop :=
 (Blk W mb (msgL 1 d 0 n (.slice none 0 0))∧Part d b n vB P bs) ∨
 ∃ (f cB nx cx:Nat) (AB Ax:Option Addr) (l:List UInt8),Blk W mb (msgL 2 d f 0 (.slice Ax nx cx))∧vB = .slice AB f cB∧P = [⟨d,n,⟨AB,f,cB,bs⟩⟩]∧bs=b.take f∧f<n∧Own RU8 5 W (sb+1) (.slice Ax nx cx) l∧(∀ g,(Value.slice Ax nx cx).ownBlock=some g→g≠mb)∧l=(b.drop f).take nx∧0<nx∧nx≤65536∧f+nx≤n
def OnR (T sb:Nat) (r0 r1 r2:Value) (d:ByteArray) (b:List UInt8) (n:Nat) (vD vP vB:Value) (D:List ObT) (w w':World) (ends:Bool):Prop :=
 Below T w w'∧∃ (s5:Int) (vD' vP' vB':Value) (D':List ObT) (P':List PaT) (bs':List UInt8),SnM T sb [r0,r1,r2,.int .i64 s5] vD' vP' vB' D' P' bs' w'∧KpF sb vD vP vB D vD' vP' vB' D' w w' ∧
  ((ends=false∧D'=D∧Part d b n vB' P' bs')∨(ends=true∧P' = []∧bs' = []∧vB' = .slice none 0 0∧∃ x:ObT,x.dig=d∧x.bytes.l=b∧PutO D x D'∧D'.Pairwise fun a b=>cmpS a.dig b.dig = -1))
def OnAns (T sb:Nat) (r0 r1 r2:Value) (d:ByteArray) (b:List UInt8) (n:Nat) (vD vP vB:Value) (D:List ObT) (left:Int) (w:World) (e:Ending) (w':World):Prop :=
 ∃ ends,e = .returned (.tuple #[.bool ends,.int .i64 0])∧OnR T sb r0 r1 r2 d b n vD vP vB D w w' ends∧(left<0→ends=true)
def OnRel (T sb mb:Nat) (r0 r1 r2:Value) (d:ByteArray) (b:List UInt8) (n:Nat) (vD0 vP0 vB0:Value) (D:List ObT) (left:Int) (w0:World) (i:Value) (wr:World):Prop :=
 ∃ (k:Nat) (s5:Int) (vD vP vB:Value) (P:List PaT) (bs:List UInt8),i = .int .i64 (left-k)∧k+onM n mb wr≤n+1∧Below T w0 wr∧SnM T sb [r0,r1,r2,.int .i64 s5] vD vP vB D P bs wr∧KpF sb vD0 vP0 vB0 D vD vP vB D w0 wr∧Fr mb sb vD vP vB D∧MsgAt sb mb d b n vB P bs wr
theorem onM_begin {n mb:Nat} {W:World} {d:ByteArray} {s:Nat} {v:Value} (h:Blk W mb (msgL 1 d 0 s v)):onM n mb W=n+1:=by
 obtain⟨h0,-⟩:=h 0 _ rfl;obtain⟨h2,-⟩:=h 2 _ rfl;unfold onM;rw[h0,h2];rfl
theorem onM_data {n mb f:Nat} {W:World} {d:ByteArray} {s:Nat} {v:Value} (h:Blk W mb (msgL 2 d f s v)):onM n mb W=n-f:=by
 obtain⟨h0,-⟩:=h 0 _ rfl;obtain⟨h2,-⟩:=h 2 _ rfl;unfold onM;rw[h0,h2];simp
end Go.Proofs.YtpdjjjiknijpkaaGreatDoor.C10