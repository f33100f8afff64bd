/-
 Several texts of mine as one, without what is not wanted here: XWrE, XWrF.
-/
import Derived.Test.YtpdjjjiknijpkaaGreatDoorTvPC10
import Derived.Test.YtpdjjjiknijpkaaGreatDoorTvGf
import Derived.Test.YtpdjjjiknijpkaaGreatDoorTvGg
import Derived.Deep.MidRow
set_option linter.unusedVariables false
set_option linter.unusedSimpArgs false
set_option maxRecDepth 100000
set_option maxHeartbeats 8000000
namespace Go.Proofs.YtpdjjjiknijpkaaGreatDoor.C10
open Go.ChangeShapes Go.WideShapes Go.Deep Go.RowKit Go.Lib
def ApS (sb:Nat) (vD vP vB:Value) (x:SlD UInt8):Prop:=0<x.n→∀ ad,x.A=some ad→ad.block≠sb∧vD.ownBlock≠some ad.block∧vP.ownBlock≠some ad.block∧vB.ownBlock≠some ad.block
structure SnM (T sb:Nat) (rest:List Value) (vD vP vB:Value) (D:List ObT) (P:List PaT) (bs:List UInt8) (w:World):Prop where
 blk:Blk w sb (vD::vP::rest)
 oD:Own ROv 41 w T vD D
 oP:Own RPv 125 w T vP P
 oB:Own RU8 5 w T vB bs
 dDP:Dj vD vP
 dDB:Dj vD vB
 dPB:Dj vP vB
 nD:∀ g,vD.ownBlock=some g→g≠sb
 nP:∀ g,vP.ownBlock=some g→g≠sb
 nB:∀ g,vB.ownBlock=some g→g≠sb
 el:∀ x∈D,(RSl RU8).ok w x.bytes∧ApS sb vD vP vB x.bytes
 tb:T≤sb
section
variable {T sb:Nat} {rest:List Value} {vD vP vB:Value} {D:List ObT} {P:List PaT} {bs:List UInt8} {w w':World}
theorem SnM.lt (h:SnM T sb rest vD vP vB D P bs w):sb<w.heap.size:=h.blk.lt (by simp)
theorem SnM.below (h:SnM T sb rest vD vP vB D P bs w) (hb:Below w.heap.size w w'):SnM T sb rest vD vP vB D P bs w' :=
 ⟨h.blk.keep (hb.block sb h.lt),h.oD.below hb,h.oP.below hb,h.oB.below hb,h.dDP,h.dDB,h.dPB,h.nD,h.nP,h.nB,fun x hx=>⟨(RSl RU8).mono _ _ _ hb (h.el x hx).1,(h.el x hx).2⟩,h.tb⟩
theorem SnM.grown {m:Nat} (h:SnM T sb rest vD vP vB D P bs w) (hg:w.grownBy w' (some m)) (hm:m≠sb) (h1:vD.ownBlock≠some m) (h2:vP.ownBlock≠some m) (h3:vB.ownBlock≠some m) (he:∀ x∈D,0<x.bytes.n→∀ ad,x.bytes.A=some ad→ad.block≠m):SnM T sb rest vD vP vB D P bs w' :=
 ⟨h.blk.keep (hg.block sb h.lt fun e=>hm (by injection e with e;exact e.symm)),h.oD.kept hg (.inr h1) (fun _ _ h=>h),h.oP.kept hg (.inr h2) (fun _ _ h=>h),h.oB.kept hg (.inr h3) (fun _ _ h=>h),h.dDP,h.dDB,h.dPB,h.nD,h.nP,h.nB,
  fun x hx=>⟨sl_grown (h.el x hx).1 hg fun hn ad hA e=>he x hx hn ad hA (by injection e),(h.el x hx).2⟩,h.tb⟩
theorem SnM.fresh (h:SnM T sb rest vD vP vB D P bs w) {m:Nat} (hm:w.heap.size≤m):m≠sb∧vD.ownBlock≠some m∧vP.ownBlock≠some m∧vB.ownBlock≠some m∧∀ x∈D,0<x.bytes.n→∀ ad,x.bytes.A=some ad→ad.block≠m:=by
 have h0:=h.lt;refine⟨by omega,fun e=>?_,fun e=>?_,fun e=>?_,fun x hx hn ad hA e=>?_⟩
 ·have:=(h.oD.1.lt m e).2;omega
 ·have:=(h.oP.1.lt m e).2;omega
 ·have:=(h.oB.1.lt m e).2;omega
 ·have:=sl_lt (h.el x hx).1 hn hA;omega
end
def zmV:List Value:=[.int .i64 0,.string ⟨#[]⟩,.int .i64 0,.int .i64 0,.slice none 0 0]
def PutO (D:List ObT) (x:ObT) (D':List ObT):Prop:=∃ k,D'=D.take k++x::D.drop k
def SnS (sb:Nat) (vD vP vB:Value) (k:Nat):Prop:=k=sb∨vD.ownBlock=some k∨vP.ownBlock=some k∨vB.ownBlock=some k
def WhAns (T sb:Nat) (rest:List Value) (vD vP:Value) (D:List ObT) (d:ByteArray) (A:Option Addr) (n c:Nat) (bs:List UInt8) (w:World) (e:Ending) (w':World):Prop :=
 e = .returned (.tuple #[msgV 4 d 0 0 (.slice none 0 0),.int .i64 0])∧Below T w w'∧Kp (SnS sb vD vP (.slice A n c)) w w'∧∃ (vD':Value) (D':List ObT),SnM T sb rest vD' vP (.slice none 0 0) D' [] [] w'∧(∀ g,vD'.ownBlock=some g→vD.ownBlock=some g∨w.heap.size≤g)∧PutO D ⟨d,⟨A,n,c,bs⟩⟩ D'∧D'.Pairwise fun a b=>cmpS a.dig b.dig = -1
theorem put_sorted {D:List ObT} {x:ObT} {k:Nat} (hs:D.Pairwise fun a b=>cmpS a.dig b.dig = -1) (h1:∀ (t:Nat) y,D[t]? = some y→t<k→cmpS y.dig x.dig = -1) (h2:∀ (t:Nat) y,D[t]? = some y→k≤t→cmpS x.dig y.dig = -1):(D.take k++x::D.drop k).Pairwise fun a b=>cmpS a.dig b.dig = -1:=by
 have e:D.take k++D.drop k=D:=List.take_append_drop k D;rw[← e]at hs;obtain⟨p1,p2,p3⟩:=List.pairwise_append.1 hs;refine List.pairwise_append.2 ⟨p1,List.pairwise_cons.2 ⟨fun y hy=>?_,p2⟩,fun a ha b hb=>?_⟩
 ·obtain⟨j,hj,rfl⟩:=List.getElem_of_mem hy;rw[List.length_drop]at hj;rw[List.getElem_drop];exact h2 (k+j) _ (List.getElem?_eq_getElem (by omega)) (by omega)
 ·rcases List.mem_cons.1 hb with rfl | hb
  ·obtain⟨j,hj,rfl⟩:=List.getElem_of_mem ha;rw[List.length_take]at hj;rw[List.getElem_take];exact h1 j _ (List.getElem?_eq_getElem (by omega)) (by omega)
  ·exact p3 a ha b hb
theorem SnM.whole {T sb n n' c cD cD' nD:Nat} {rest:List Value} {A AD AD':Option Addr} {vP:Value} {D D':List ObT} {bs:List UInt8} {w w5:World} {x:ObT} (h:SnM T sb rest (.slice AD nD cD) vP (.slice A n c) D [] bs w) (hx:x.bytes=⟨A,n,c,bs⟩)
  (ho:Own ROv 41 w5 T (.slice AD' n' cD') D') (hm:∀ y∈D',y∈D∨y=x) (hg:w.grownBy w5 (Value.slice AD nD cD).ownBlock) (hat:(Value.slice AD' n' cD').ownBlock=(Value.slice AD nD cD).ownBlock∨(Value.slice AD' n' cD').ownBlock=some w.heap.size) :
  SnM T sb rest (.slice AD' n' cD') vP (.slice none 0 0) D' [] [] (w5.setCell ⟨sb,0,none⟩ (.slice AD' n' cD')):=by
 have hlt:=h.lt;have hgs:=grown_setc w5 ⟨sb,0,none⟩ (.slice AD' n' cD');have hDP:=dj_step h.dDP hat (own_lt h.oP);have hDB:=dj_step h.dDB hat (own_lt h.oB);have hnD:∀ g,(Value.slice AD' n' cD').ownBlock=some g→g≠sb:=fun g hg9 e=>by
  rcases hat with h1 | h1
  ·exact h.nD g (h1 ▸ hg9) e
  ·rw[h1]at hg9;injection hg9 with hg9;omega
 have hb5:Blk w5 sb (.slice AD nD cD::vP::rest):=h.blk.keep (hg.block sb hlt fun e=>h.nD sb e.symm rfl);refine⟨hb5.set (k:=0) (by simp) _,own_apart ho _ hnD (fun _ h=>h),own_apart (h.oP.kept hg h.dDP.symm.ne (fun _ _ h=>h)) _ h.nP (fun _ h=>h),Own.nil _ _,hDP,(fun g _ e=>by cases e),(fun g _ e=>by cases e),hnD,h.nP,(fun g hg=>by cases hg),fun y hy=>?_,h.tb⟩
 rcases hm y hy with h1 | h1
 ·obtain⟨h2,h3⟩:=h.el y h1;refine⟨sl_grown (sl_grown h2 hg fun hn ad hA e=>(h3 hn ad hA).2.1 e.symm) hgs fun hn ad hA e=>(h3 hn ad hA).1 (by injection e),fun hn ad hA=>?_⟩;obtain⟨q1,q2,q3,_⟩:=h3 hn ad hA;refine⟨q1,fun e=>?_,q3,fun e=>by cases e⟩
  rcases hat with h4 | h4
  ·exact q2 (h4 ▸ e)
  ·rw[h4]at e;injection e with e;have:=sl_lt h2 hn hA;omega
 ·subst h1;rw[hx];have h2:=own_u8_ok h.oB;have hB:∀ ad,A=some ad→(Value.slice A n c).ownBlock=some ad.block:=fun ad hA=>by rw[hA];rfl
  refine⟨sl_grown (sl_grown h2 hg fun hn ad hA e=>h.dDB.symm ad.block (hB ad hA) e.symm) hgs fun hn ad hA e=>h.nB ad.block (hB ad hA) (by injection e),fun hn ad hA=>⟨h.nB ad.block (hB ad hA),fun e=>hDB ad.block e (hB ad hA),fun e=>h.dPB ad.block e (hB ad hA),fun e=>by cases e⟩⟩
theorem whole_any (T sb:Nat) (rest:List Value) (vD vP:Value) (D:List ObT) (d:ByteArray) (A:Option Addr) (n c:Nat) (bs:List UInt8) (w:World) (hM:SnM T sb rest vD vP (.slice A n c) D [] bs w) (hd:digF bs=d) (hn:n≤1000000) (hDl:D.length<4000) (hs:D.Pairwise fun a b=>cmpS a.dig b.dig = -1) (hno:∀ x∈D,x.dig≠d) :
  Calls Tryz.prog 137 #[.pointer (some ⟨sb,0,none⟩),.string d,.slice A n c] w (WhAns T sb rest vD vP D d A n c bs w):=by
 obtain⟨Z,hZ⟩:∃ Z,WhAns T sb rest vD vP D d A n c bs w=Z:=⟨_,rfl⟩;have hZ':∀ e W,WhAns T sb rest vD vP D d A n c bs w e W→Z e W:=fun e W h=>by rw[← hZ];exact h
 rw[hZ];clear hZ;obtain⟨W1,hW1⟩:∃ W,w.alloc (.cells #[.int .i64 0,.string ⟨#[]⟩,.int .i64 0,.int .i64 0,.slice none 0 0] 131)=W:=⟨_,rfl⟩;have hb1:Below w.heap.size w W1:=by rw[← hW1];exact(Below.refl _ _).alloc (Nat.le_refl _) _
 have hz1:Blk W1 w.heap.size zmV:=by rw[← hW1];exact blk_new w _ _
 obtain⟨mb,hmb⟩:∃ b,w.heap.size=b:=⟨_,rfl⟩;rw[hmb]at hz1;have hM1:=hM.below hb1;have hsl:=hM1.oB.slAt;have hdg:=digest_any A n c bs W1 hsl (by omega);rw[hd]at hdg;obtain⟨AD,cD,hvD⟩:=hM.oD.form;subst hvD;have hn4:¬ (4000:Int)≤(D.length:Int):=by omega
 obtain⟨hZ'H,hMH,hb1H,hz1H,hM1H,hslH,hdgH,hsH,hnoH,hdH⟩:=hq2 hZ' (hqc hM hb1 hz1 hM1 hsl hdg hs hno (Lib.hid hd));clear hZ' hM hb1 hz1 hM1 hsl hdg hs hno hd;go_enter Tryz.func137,Tryz.ntmps137;go_wp2_with fail;refine hdgH.out.mono ?_;rintro e w2 ⟨rfl,hb2⟩;have hM2:=hM1H.out.below hb2;obtain⟨r0,-⟩:=hM2.blk 0 _ rfl;obtain⟨r1,-⟩:=hM2.blk 1 _ rfl;have e5:(d.toList==d.toList)=true:=by rw[beq_data];simp
 have hda:=doneAt_any AD D.length cD vP D d w2 (by omega) hM2.oD.slAt hsH.out;obtain⟨hb2H,hM2H,hdaH⟩:=hq2 hb2 (hq2 hM2 (Lib.hid hda));clear hb2 hM2 hda;go_wp2_with fail;refine hdaH.out.mono ?_;rintro e w3 ⟨k,f,rfl,hb3,hat⟩;have hM3:=hM2H.out.below hb3;obtain⟨s0,t0⟩:=hM3.blk 0 _ rfl;have hkl:=hat.le;obtain⟨W4,hW4⟩:∃ W,w3.alloc (.cells #[.string d,.slice A n c] 41)=W:=⟨_,rfl⟩;have hb34:Below w3.heap.size w3 W4:=by rw[← hW4];exact(Below.refl _ _).alloc (Nat.le_refl _) _
 have hM4:=hM3.below hb34;have hv4:W4.heap[w3.heap.size]? = some (.cells (ROv.vals ⟨d,⟨A,n,c,bs⟩⟩).toArray 41 (0,0)):=by rw[← hW4];exact heap_alloc_new w3 _
 have hoD4:=hM4.oD;rw[← List.take_append_drop k D]at hoD4;have hins:=ins_anyOb T D.length cD k w3.heap.size AD (D.take k) (D.drop k) ⟨d,⟨A,n,c,bs⟩⟩ W4 (by rw[List.length_take];omega) (by rw[List.take_append_drop]at hoD4 ⊢;exact hoD4) hv4 trivial (fun g hg e=>by have:=(hM3.oD.1.lt g hg).2;omega) (by have:=hM4.lt;have:=hM4.tb;omega) (by omega);obtain⟨vb,hvb⟩:∃ b,w3.heap.size=b:=⟨_,rfl⟩;rw[hvb]at hins hv4;obtain⟨hb3H,hatH,hM3H,hb34H,hM4H,hv4H,hoD4H,hinsH⟩:=hq2 hb3 (hq2 hat (hq2 hM3 (hqb hb34 hM4 hv4 hoD4 (Lib.hid hins))));clear hb3 hat hM3 hb34 hM4 hv4 hoD4 hins;have hzm4:Blk W4 mb zmV:=blk_below (blk_below (blk_below hz1H.out (by simp[zmV]) hb2H.out) (by simp[zmV]) hb3H.out) (by simp[zmV]) hb34H.out;have hs4:w.heap.size<W4.heap.size:=by have h1:=hz1H.out.lt (by simp[zmV]);have h2:=hb2H.out.size;have h3:=hb3H.out.size;have h4:=hb34H.out.size;omega
 have hbT4:Below T w W4:=by
  have ht:T≤w.heap.size:=by have:=hMH.out.lt;have:=hMH.out.tb;omega
  have h1:=hb1H.out.size;have h2:=hb2H.out.size;have h3:=hb3H.out.size;exact((hb1H.out.mono ht).trans (hb2H.out.mono (by omega))).trans ((hb3H.out.mono (by omega)).trans (hb34H.out.mono (by omega)))
 obtain⟨hzm4H,hbT4H⟩:=hq2 hzm4 (Lib.hid hbT4);clear hzm4 hbT4;go_wp2_with fail;refine hinsH.out.mono ?_;rintro e w5 ⟨A5,c5,rfl,ho5,hg5,hat5⟩;have hno3:=hatH.out;have hM6:=hM4H.out.whole rfl ho5 (x:=⟨d,⟨A,n,c,bs⟩⟩) (fun y hy=>by
  rcases List.mem_append.1 hy with h | h
  ·exact .inl (List.mem_of_mem_take h)
  ·rcases List.mem_cons.1 h with h | h
   ·exact .inr h
   ·exact .inl (List.mem_of_mem_drop h)) hg5 hat5
 have hfr:=hMH.out.fresh (m:=mb) (by omega);have hlt4:=hM4H.out.lt;obtain⟨p0,p1⟩:=(hM4H.out.blk.keep (hg5.block sb hlt4 fun e=>hM4H.out.nD sb e.symm rfl)) 0 _ rfl;have hzm5:Blk w5 mb zmV:=hzm4H.out.keep (hg5.block mb (by omega) fun e=>hfr.2.1 e.symm);obtain⟨W6,hW6⟩:∃ W,w5.setCell ⟨sb,0,none⟩ (.slice A5 (D.length+1) c5)=W:=⟨_,rfl⟩;rw[hW6]at hM6;have hzm6:Blk W6 mb zmV:=by rw[← hW6];exact hzm5.keep (Below.heap_setCell _ _ _ _ hfr.1)
 have hsz5:=hg5.size;have hnew5:(Value.slice A5 (D.length+1) c5).ownBlock≠some mb:=fun e=>by
  rcases hat5 with h1 | h1
  ·exact hfr.2.1 (h1 ▸ e)
  ·rw[h1]at e;injection e with e;omega
 have hbT6:Below T w W6:=by
  rw[← hW6];have ht:T≤W4.heap.size:=by have:=hM4H.out.tb;omega
  exact(hbT4H.out.grown hg5 ht fun g hg=>(hM4H.out.oD.1.lt g hg).1).setCell hM4H.out.tb _
 have hsrt:=put_sorted (k:=k) (x:=(⟨d,⟨A,n,c,bs⟩⟩:ObT)) hsH.out (fun t y hy ht=>hno3.lo t y hy ht) (fun t y hy ht=>by
  have h1:=hno3.hi t y hy ht;have h2:=hnoH.out y (List.mem_of_getElem? hy)
  rcases cmpS_range y.dig d with e | e | e
  ·exact absurd e h1
  ·exact absurd ((cmpS_zero _ _).1 e) h2
  ·show cmpS d y.dig = -1;rw[cmpS_swap,e])
 have hel6:∀ x∈D.take k++(⟨d,⟨A,n,c,bs⟩⟩:ObT)::D.drop k,0<x.bytes.n→∀ ad,x.bytes.A=some ad→ad.block≠mb:=fun x hx hn9 ad hA=>by
  have hc:x∈D∨x=(⟨d,⟨A,n,c,bs⟩⟩:ObT):=by
   rcases List.mem_append.1 hx with h | h
   ·exact .inl (List.mem_of_mem_take h)
   ·rcases List.mem_cons.1 h with h | h
    ·exact .inr h
    ·exact .inl (List.mem_of_mem_drop h)
  rcases hc with h | h
  ·exact hfr.2.2.2.2 x h hn9 ad hA
  ·subst h;intro e;have hA:A=some ad:=hA;exact hfr.2.2.2.1 (by rw[hA];show some ad.block=some mb;rw[e])
 have hgm:=grown_setCs W6 mb [.int .i64 4,.string d,.int .i64 0,.int .i64 0,.slice none 0 0] 0 W6;have hM7:=hM6.grown hgm hfr.1 hnew5 hfr.2.2.1 (fun e=>by cases e) hel6;have hzm7:=((((hzm6.set (k:=0) (by simp[zmV]) (.int .i64 4)).set (k:=1) (by simp[zmV]) (.string d)).set (k:=2) (by simp[zmV]) (.int .i64 0)).set (k:=3) (by simp[zmV]) (.int .i64 0)).set (k:=4) (by simp[zmV]) (.slice none 0 0);have hbT7:Below T w (W6.setCells mb 0 [.int .i64 4,.string d,.int .i64 0,.int .i64 0,.slice none 0 0]):=hbT6.grown hgm (by have:=hM6.lt;have:=hM6.tb;omega) fun g hg=>by injection hg with hg;have:=hMH.out.lt;have:=hMH.out.tb;omega
 obtain⟨y0,z0⟩:=hzm6 0 _ rfl;obtain⟨y1,z1⟩:=hzm6 1 _ rfl;obtain⟨y2,z2⟩:=hzm6 2 _ rfl;obtain⟨y3,z3⟩:=hzm6 3 _ rfl;obtain⟨y4,z4⟩:=hzm6 4 _ rfl;have hkp7:Kp (SnS sb (.slice AD D.length cD) vP (.slice A n c)) w (W6.setCells mb 0 [.int .i64 4,.string d,.int .i64 0,.int .i64 0,.slice none 0 0]):=by
  have k1:Kp (SnS sb (.slice AD D.length cD) vP (.slice A n c)) w W4:=Kp.of_below (hb1H.out.trans ((hb2H.out.mono hb1H.out.size).trans ((hb3H.out.mono (Nat.le_trans hb1H.out.size hb2H.out.size)).trans (hb34H.out.mono (Nat.le_trans hb1H.out.size (Nat.le_trans hb2H.out.size hb3H.out.size))))));have k2:=k1.trans (Kp.of_grown (S:=SnS sb (.slice AD D.length cD) vP (.slice A n c)) hg5 fun k hk=>.inr (.inl hk));have k3:=k2.setCell (a:=⟨sb,0,none⟩) (.inr (.inl rfl)) (.slice A5 (D.length+1) c5);rw[hW6]at k3;exact k3.old (Kp.of_grown (S:=fun k=>k=mb) hgm fun k hk=>by injection hk with hk;exact hk.symm) fun i hi h9=>by omega
 have hvD7:∀ g,(Value.slice A5 (D.length+1) c5).ownBlock=some g→(Value.slice AD D.length cD).ownBlock=some g∨w.heap.size≤g:=fun g hg=>by
  rcases hat5 with h | h
  ·exact .inl (h ▸ hg)
  ·rw[h]at hg;injection hg with hg;exact .inr (by omega)
 have R:=hZ'H.out (.returned (.tuple #[msgV 4 d 0 0 (.slice none 0 0),.int .i64 0])) _ ⟨rfl,hbT7,hkp7,_,_,hM7,hvD7,⟨k,rfl⟩,hsrt⟩;clear hkp7 hvD7 ho5 hM6 hfr hzm5 hnew5 hbT6 hsrt hel6 hM7 hbT7 hno3 hg5 hat5 hgm;obtain⟨hzm6H,hzm7H,RH⟩:=hq2 hzm6 (hq2 hzm7 (Lib.hid R));clear hzm6 hzm7 R;go_wp2_with fail;obtain⟨t0,-⟩:=hzm7H.out 0 _ rfl;obtain⟨t1,-⟩:=hzm7H.out 1 _ rfl;obtain⟨t2,-⟩:=hzm7H.out 2 _ rfl;obtain⟨t3,-⟩:=hzm7H.out 3 _ rfl;obtain⟨t4,-⟩:=hzm7H.out 4 _ rfl;exact bodyPost_ret (v:=.tuple #[msgV 4 d 0 0 (.slice none 0 0),.int .i64 0]) (by simp[results,Tryz.results137,go_sem,t0,t1,t2,t3,t4,msgV]) rfl RH.out
def msgL (k:Int) (d:ByteArray) (f s:Nat) (vb:Value):List Value:=[.int .i64 k,.string d,.int .i64 f,.int .i64 s,vb]
theorem msg_set {w:World} {mb:Nat} {a0 a1 a2 a3 a4:Value} (h:Blk w mb [a0,a1,a2,a3,a4]) (b0 b1 b2 b3 b4:Value):Blk (((((w.setCell ⟨mb,0,none⟩ b0).setCell ⟨mb,1,none⟩ b1).setCell ⟨mb,2,none⟩ b2).setCell ⟨mb,3,none⟩ b3).setCell ⟨mb,4,none⟩ b4) mb [b0,b1,b2,b3,b4] :=
 ((((h.set (k:=0) (by simp) b0).set (k:=1) (by simp) b1).set (k:=2) (by simp) b2).set (k:=3) (by simp) b3).set (k:=4) (by simp) b4
theorem msg_grown (w:World) (mb:Nat) (b0 b1 b2 b3 b4:Value):w.grownBy (((((w.setCell ⟨mb,0,none⟩ b0).setCell ⟨mb,1,none⟩ b1).setCell ⟨mb,2,none⟩ b2).setCell ⟨mb,3,none⟩ b3).setCell ⟨mb,4,none⟩ b4) (some mb):=grown_setCs w mb [b0,b1,b2,b3,b4] 0 w
theorem grown_keep {w w':World} {mb:Nat} (hg:w.grownBy w' (some mb)) {a:Addr} {v:Value} (h:w.cell? a=some v) (hne:a.block≠mb):w'.cell? a=some v:=hg.cell h fun e=>hne (by injection e)
theorem there_msg {w:World} {mb:Nat} {a0 a1 a2 a3 a4:Value} (h:Blk w mb [a0,a1,a2,a3,a4]):w.there mb 0 5:=fun j hj=>by
 have hj':j < [a0,a1,a2,a3,a4].length:=hj;obtain⟨h1,h2⟩:=h j _ (List.getElem?_eq_getElem hj');rw[Nat.zero_add];exact⟨by rw[h1];rfl,h2⟩
theorem step_msg {w:World} {mb:Nat} {a0 a1 a2 a3 a4:Value} (h:Blk w mb [a0,a1,a2,a3,a4]) {ops:Array Oper} {o:Oper} {a:Act} {K:Act→World→Prop} {Q:Exit→Act→World→Prop} {E:Prop} (hgd:o.guard=none) (x y:Operand) (ho:o.op = .store 131 x y)
  (hx:a.eval x = .pointer (some ⟨mb,0,none⟩)) (b0 b1 b2 b3 b4:Value) (hy:a.eval y = .agg #[b0,b1,b2,b3,b4]) (h1:b0.oneCell'=true) (h2:b1.oneCell'=true) (h3:b2.oneCell'=true) (h4:b3.oneCell'=true) (h5:b4.oneCell'=true)
  (hK:K (a.put o.dst undef) (((((w.setCell ⟨mb,0,none⟩ b0).setCell ⟨mb,1,none⟩ b1).setCell ⟨mb,2,none⟩ b2).setCell ⟨mb,3,none⟩ b3).setCell ⟨mb,4,none⟩ b4)) :
  if Region.wanted o (yielded ops a.tmps)=true then Oper.wp Tryz.prog o a w K Q else E:=by
 have hw:Region.wanted o (yielded ops a.tmps)=true:=by simp[Region.wanted,hgd]
 rw[if_pos hw];exact wp_store_mid 131 x y ho mb 0 #[b0,b1,b2,b3,b4] hx hy (there_msg h) (by kernel_rfl) (by simp[h1,h2,h3,h4,h5]) hK
def HvAns (S:Nat→Prop) (T sb:Nat) (rest:List Value) (vD vP vB:Value) (D:List ObT) (P:List PaT) (bs:List UInt8) (d:ByteArray) (f:Nat) (w:World) (e:Ending) (w':World):Prop :=
 e = .returned (.tuple #[msgV 3 d f 0 (.slice none 0 0),.int .i64 0])∧Below T w w'∧Kp S w w'∧SnM T sb rest vD vP vB D P bs w'
theorem begin_have (T sb:Nat) (rest:List Value) (vD vP:Value) (AB:Option Addr) (nB cB:Nat) (D:List ObT) (d:ByteArray) (s:Nat) (bs:List UInt8) (w:World) (hM:SnM T sb rest vD vP (.slice AB nB cB) D [⟨d,s,⟨AB,nB,cB,bs⟩⟩] bs w) :
  Calls Tryz.prog 99 #[.pointer (some ⟨sb,0,none⟩),msgV 1 d 0 s (.slice none 0 0)] w (HvAns (fun _=>False) T sb rest vD vP (.slice AB nB cB) D [⟨d,s,⟨AB,nB,cB,bs⟩⟩] bs d nB w):=by
 obtain⟨P,hP⟩:∃ P,[(⟨d,s,⟨AB,nB,cB,bs⟩⟩:PaT)]=P:=⟨_,rfl⟩;rw[hP]at hM ⊢;obtain⟨Z,hZ⟩:∃ Z,HvAns (fun _=>False) T sb rest vD vP (.slice AB nB cB) D P bs d nB w=Z:=⟨_,rfl⟩;have hZ':∀ e W,HvAns (fun _=>False) T sb rest vD vP (.slice AB nB cB) D P bs d nB w e W→Z e W:=fun e W h=>by rw[← hZ];exact h
 rw[hZ];clear hZ;unfold msgV;obtain⟨W2,hW2⟩:∃ W,(w.alloc (.cells #[.int .i64 1,.string d,.int .i64 0,.int .i64 s,.slice none 0 0] 131)).alloc (.cells #[.int .i64 0,.string ⟨#[]⟩,.int .i64 0,.int .i64 0,.slice none 0 0] 131)=W:=⟨_,rfl⟩;have hb2:Below w.heap.size w W2:=by rw[← hW2];exact((Below.refl _ _).alloc (Nat.le_refl _) _).alloc (by simp) _
 have hzi:Blk W2 w.heap.size (msgL 1 d 0 s (.slice none 0 0)):=by
  rw[← hW2];unfold msgL;exact blk_below (blk_new w [.int .i64 1,.string d,.int .i64 0,.int .i64 s,.slice none 0 0] 131) (by simp) ((Below.refl _ _).alloc (Nat.le_refl _) _)
 have hzm:Blk W2 (w.heap.size+1) zmV:=by
  rw[← hW2];have:=blk_new (w.alloc (.cells #[.int .i64 1,.string d,.int .i64 0,.int .i64 s,.slice none 0 0] 131)) [.int .i64 0,.string ⟨#[]⟩,.int .i64 0,.int .i64 0,.slice none 0 0] 131
  simpa[zmV]using this
 have hM2:=hM.below hb2;obtain⟨AP,cP,hvP⟩:=hM.oP.form;have hPl:P.length=1:=by rw[← hP];rfl
 rw[hPl]at hvP;subst hvP;obtain⟨gP,hAP⟩:=own_form hM.oP (by decide);subst hAP;obtain⟨vD0,hvD⟩:∃ v,vD=v:=⟨_,rfl⟩;obtain⟨ib,hib⟩:∃ b,w.heap.size=b:=⟨_,rfl⟩;have hfi:=hM.fresh (m:=ib) (by omega);have hfm:=hM.fresh (m:=ib+1) (by omega);rw[hib]at hzi hzm;obtain⟨i1,-⟩:=hzi 1 _ rfl;obtain⟨i3,-⟩:=hzi 3 _ rfl;obtain⟨r0,-⟩:=hM2.blk 0 _ rfl;obtain⟨r1,-⟩:=hM2.blk 1 _ rfl;have hP0:P[0]? = some ⟨d,s,⟨AB,nB,cB,bs⟩⟩:=by rw[← hP];rfl
 obtain⟨p0,p1,p2⟩:=cells_PaT hM2.oP.slAt hP0;have p1:W2.cell? ⟨gP,1,none⟩=some (.int .i64 s):=by simpa using p1
 have p2:W2.cell? ⟨gP,2,none⟩=some (.slice AB nB cB):=by simpa using p2
 have hbd:Below W2.heap.size W2 W2.drew:=(Below.refl _ _).drew;have hpa:=partAt_any (some ⟨gP,0,none⟩) 1 cP vD P d W2.drew (by decide) (hM2.oP.slAt.below hbd) (by rw[← hP];exact List.pairwise_singleton _ _);clear p0;obtain⟨hZ'H,hMH,hb2H,hziH,hzmH,hM2H,hfiH,hfmH,hbdH,hpaH,hPH,hP0H,hvDH,hPlH⟩:=hq2 hZ' (hqb hM hb2 hzi hzm (hqc hM2 hfi hfm hbd hpa hP hP0 hvD (Lib.hid hPl)));clear hZ' hM hb2 hzi hzm hM2 hfi hfm hbd hpa hP hP0 hvD hPl;go_enter Tryz.func99,Tryz.ntmps99;go_wp2_with fail;refine startR (R:=Rk (fun _=>True) (fun V=>V.cell? ⟨sb,0,none⟩=some vD∧V.cell? ⟨sb,1,none⟩=some (.slice (some ⟨gP,0,none⟩) 1 cP)∧V.cell? ⟨ib,1,none⟩=some (.string d)) 99 99) (by kernel_rfl) ?_;have hC:W2.drew.cell? ⟨sb,0,none⟩=some vD∧W2.drew.cell? ⟨sb,1,none⟩=some (.slice (some ⟨gP,0,none⟩) 1 cP)∧W2.drew.cell? ⟨ib,1,none⟩=some (.string d):=⟨r0,r1,i1⟩;refine takeC (i:=0) (d:=some 9) (v:=?_) rfl rfl (by kernel_rfl) (by kernel_rfl) (by kernel_rfl) (by kernel_rfl) (fun _ _ _ h=>h) (Or.inl ⟨by rfl,?_⟩) hC ?_
 rotate_left
 ·(intro w hSw;(try dsimp only at hSw);go_simp;(try with_reducible rfl))
 (try simp only[Act.put,List.setIfInBounds_toArray,List.set_cons_zero,List.set_cons_succ])
 refine takeC (i:=1) (d:=some 10) (v:=?_) rfl rfl (by kernel_rfl) (by kernel_rfl) (by kernel_rfl) (by kernel_rfl) (fun _ _ _ h=>h) (Or.inl ⟨by rfl,?_⟩) hC ?_
 rotate_left
 ·(intro w hSw;(try dsimp only at hSw);go_simp;(try with_reducible rfl))
 (try simp only[Act.put,List.setIfInBounds_toArray,List.set_cons_zero,List.set_cons_succ])
 refine takeC (i:=2) (d:=some 11) (v:=?_) rfl rfl (by kernel_rfl) (by kernel_rfl) (by kernel_rfl) (by kernel_rfl) (fun _ _ _ h=>h) (Or.inl ⟨by rfl,?_⟩) hC ?_
 rotate_left
 ·(intro w hSw;(try dsimp only at hSw);go_simp;(try with_reducible rfl))
 (try simp only[Act.put,List.setIfInBounds_toArray,List.set_cons_zero,List.set_cons_succ])
 refine takeC (i:=3) (d:=some 12) (v:=?_) rfl rfl (by kernel_rfl) (by kernel_rfl) (by kernel_rfl) (by kernel_rfl) (fun _ _ _ h=>h) (Or.inl ⟨by rfl,?_⟩) hC ?_
 rotate_left
 ·(intro w hSw;(try dsimp only at hSw);go_simp;(try with_reducible rfl))
 (try simp only[Act.put,List.setIfInBounds_toArray,List.set_cons_zero,List.set_cons_succ])
 refine takeC (i:=4) (d:=some 13) (v:=?_) rfl rfl (by kernel_rfl) (by kernel_rfl) (by kernel_rfl) (by kernel_rfl) (fun _ _ _ h=>h) (Or.inl ⟨by rfl,?_⟩) hC ?_
 rotate_left
 ·(intro w hSw;(try dsimp only at hSw);go_simp;(try with_reducible rfl))
 (try simp only[Act.put,List.setIfInBounds_toArray,List.set_cons_zero,List.set_cons_succ])
 refine oneR (i:=5) (by kernel_rfl) rfl (fun K hK=>?_);go_simp;go_at_call 98;refine hpaH.out.mono ?_;rintro e w3 ⟨k,f,rfl,hb3,hat⟩;have hb23:Below W2.heap.size W2 w3:=hbdH.out.trans hb3;obtain⟨rfl,rfl⟩:k=0∧f=true:=by
  have h0:=hat.le;have h1:f=true:=by
   cases f
   ·exact absurd rfl (hat.no rfl ⟨d,s,⟨AB,nB,cB,bs⟩⟩ (by rw[← hPH.out];exact List.mem_cons_self))
   ·rfl
  obtain⟨x,hx,_⟩:=hat.yes h1;have:=(List.getElem?_eq_some_iff.1 hx).1;have h2:=hPlH.out;exact⟨by omega,h1⟩
 have hM3:=hM2H.out.below hb23;have hC3:w3.cell? ⟨sb,0,none⟩=some vD∧w3.cell? ⟨sb,1,none⟩=some (.slice (some ⟨gP,0,none⟩) 1 cP)∧w3.cell? ⟨ib,1,none⟩=some (.string d):=⟨keepC hb23 r0,keepC hb23 r1,keepC hb23 i1⟩;have u3:=keepC hb23 i3;have u1:=keepC hb23 p1;have u2:=keepC hb23 p2;have hzm3:=blk_below hzmH.out (by simp[zmV]) hb23;obtain⟨hb3H,hatH,hb23H,hM3H,hzm3H⟩:=hqb hb3 hat hb23 hM3 (Lib.hid hzm3);clear hb3 hat hb23 hM3 hzm3;refine hK.out _ _ ⟨fun _ _ _=>trivial,fun _ _=>hC3⟩ ?_;clear hK K
 (try simp only[Act.put,List.setIfInBounds_toArray,List.set_cons_zero,List.set_cons_succ])
 clear hC;have hC:=hC3;refine takeC (i:=6) (d:=some 8) (v:=?_) rfl rfl (by kernel_rfl) (by kernel_rfl) (by kernel_rfl) (by kernel_rfl) (fun _ _ _ h=>h) (Or.inl ⟨by rfl,?_⟩) hC ?_
 rotate_left
 ·(intro w hSw;(try dsimp only at hSw);go_simp;(try with_reducible rfl))
 (try simp only[Act.put,List.setIfInBounds_toArray,List.set_cons_zero,List.set_cons_succ])
 refine takeC (i:=7) (d:=some 15) (v:=?_) rfl rfl (by kernel_rfl) (by kernel_rfl) (by kernel_rfl) (by kernel_rfl) (fun _ _ _ h=>h) (Or.inl ⟨by rfl,?_⟩) hC ?_
 rotate_left
 ·(intro w hSw;(try dsimp only at hSw);go_simp;(try with_reducible rfl))
 (try simp only[Act.put,List.setIfInBounds_toArray,List.set_cons_zero,List.set_cons_succ])
 refine takeC (i:=8) (d:=some 16) (v:=?_) rfl rfl (by kernel_rfl) (by kernel_rfl) (by kernel_rfl) (by kernel_rfl) (fun _ _ _ h=>h) (Or.inl ⟨by rfl,?_⟩) hC ?_
 rotate_left
 ·(intro w hSw;(try dsimp only at hSw);go_simp;(try with_reducible rfl))
 (try simp only[Act.put,List.setIfInBounds_toArray,List.set_cons_zero,List.set_cons_succ])
 refine takeC (i:=9) (d:=some 6) (v:=?_) rfl rfl (by kernel_rfl) (by kernel_rfl) (by kernel_rfl) (by kernel_rfl) (fun _ _ _ h=>h) (Or.inl ⟨by rfl,?_⟩) hC ?_
 rotate_left
 ·(intro w hSw;(try dsimp only at hSw);go_simp;(try with_reducible rfl))
 (try simp only[Act.put,List.setIfInBounds_toArray,List.set_cons_zero,List.set_cons_succ])
 refine takeC (i:=10) (d:=some 7) (v:=?_) rfl rfl (by kernel_rfl) (by kernel_rfl) (by kernel_rfl) (by kernel_rfl) (fun _ _ _ h=>h) (Or.inl ⟨by rfl,?_⟩) hC ?_
 rotate_left
 ·(intro w hSw;(try dsimp only at hSw);go_simp;(try with_reducible rfl))
 (try simp only[Act.put,List.setIfInBounds_toArray,List.set_cons_zero,List.set_cons_succ])
 refine doneR (by kernel_rfl) ?_ _;clear hC r0 r1 i1 i3 p1 p2;go_wp2_with fail;obtain⟨q0,q1,q2⟩:=hC3;refine startR (R:=Rk (fun _=>True) (fun V=>V.cell? ⟨sb,1,none⟩=some (.slice (some ⟨gP,0,none⟩) 1 cP)∧V.cell? ⟨gP,1,none⟩=some (.int .i64 s)∧V.cell? ⟨ib,3,none⟩=some (.int .i64 s)) 99 99) (by kernel_rfl) ?_;have hC:w3.drew.cell? ⟨sb,1,none⟩=some (.slice (some ⟨gP,0,none⟩) 1 cP)∧w3.drew.cell? ⟨gP,1,none⟩=some (.int .i64 s)∧w3.drew.cell? ⟨ib,3,none⟩=some (.int .i64 s):=⟨q1,u1,u3⟩;refine takeC (i:=0) (d:=some 17) (v:=?_) rfl rfl (by kernel_rfl) (by kernel_rfl) (by kernel_rfl) (by kernel_rfl) (fun _ _ _ h=>h) (Or.inl ⟨by rfl,?_⟩) hC ?_
 rotate_left
 ·(intro w hSw;(try dsimp only at hSw);go_simp;(try with_reducible rfl))
 (try simp only[Act.put,List.setIfInBounds_toArray,List.set_cons_zero,List.set_cons_succ])
 refine takeC (i:=1) (d:=some 18) (v:=?_) rfl rfl (by kernel_rfl) (by kernel_rfl) (by kernel_rfl) (by kernel_rfl) (fun _ _ _ h=>h) (Or.inl ⟨by rfl,?_⟩) hC ?_
 rotate_left
 ·(intro w hSw;(try dsimp only at hSw);go_simp;(try with_reducible rfl))
 (try simp only[Act.put,List.setIfInBounds_toArray,List.set_cons_zero,List.set_cons_succ])
 refine takeC (i:=2) (d:=some 19) (v:=?_) rfl rfl (by kernel_rfl) (by kernel_rfl) (by kernel_rfl) (by kernel_rfl) (fun _ _ _ h=>h) (Or.inl ⟨by rfl,?_⟩) hC ?_
 rotate_left
 ·(intro w hSw;(try dsimp only at hSw);go_simp;(try with_reducible rfl))
 (try simp only[Act.put,List.setIfInBounds_toArray,List.set_cons_zero,List.set_cons_succ])
 refine takeC (i:=3) (d:=some 20) (v:=?_) rfl rfl (by kernel_rfl) (by kernel_rfl) (by kernel_rfl) (by kernel_rfl) (fun _ _ _ h=>h) (Or.inl ⟨by rfl,?_⟩) hC ?_
 rotate_left
 ·(intro w hSw;(try dsimp only at hSw);go_simp;(try with_reducible rfl))
 (try simp only[Act.put,List.setIfInBounds_toArray,List.set_cons_zero,List.set_cons_succ])
 refine takeC (i:=4) (d:=some 21) (v:=?_) rfl rfl (by kernel_rfl) (by kernel_rfl) (by kernel_rfl) (by kernel_rfl) (fun _ _ _ h=>h) (Or.inl ⟨by rfl,?_⟩) hC ?_
 rotate_left
 ·(intro w hSw;(try dsimp only at hSw);go_simp;(try with_reducible rfl))
 (try simp only[Act.put,List.setIfInBounds_toArray,List.set_cons_zero,List.set_cons_succ])
 refine takeC (i:=5) (d:=some 22) (v:=?_) rfl rfl (by kernel_rfl) (by kernel_rfl) (by kernel_rfl) (by kernel_rfl) (fun _ _ _ h=>h) (Or.inl ⟨by rfl,?_⟩) hC ?_
 rotate_left
 ·(intro w hSw;(try dsimp only at hSw);go_simp;(try with_reducible rfl))
 (try simp only[Act.put,List.setIfInBounds_toArray,List.set_cons_zero,List.set_cons_succ])
 refine takeC (i:=6) (d:=some 23) (v:=?_) rfl rfl (by kernel_rfl) (by kernel_rfl) (by kernel_rfl) (by kernel_rfl) (fun _ _ _ h=>h) (Or.inl ⟨by rfl,?_⟩) hC ?_
 rotate_left
 ·(intro w hSw;(try dsimp only at hSw);go_simp;(try with_reducible rfl))
 (try simp only[Act.put,List.setIfInBounds_toArray,List.set_cons_zero,List.set_cons_succ])
 refine takeC (i:=7) (d:=some 24) (v:=?_) rfl rfl (by kernel_rfl) (by kernel_rfl) (by kernel_rfl) (by kernel_rfl) (fun _ _ _ h=>h) (Or.inl ⟨by rfl,?_⟩) hC ?_
 rotate_left
 ·(intro w hSw;(try dsimp only at hSw);go_simp;(try with_reducible rfl))
 (try simp only[Act.put,List.setIfInBounds_toArray,List.set_cons_zero,List.set_cons_succ])
 refine takeC (i:=8) (d:=some 25) (v:=?_) rfl rfl (by kernel_rfl) (by kernel_rfl) (by kernel_rfl) (by kernel_rfl) (fun _ _ _ h=>h) (Or.inl ⟨by rfl,?_⟩) hC ?_
 rotate_left
 ·(intro w hSw;(try dsimp only at hSw);go_simp;(try with_reducible rfl))
 (try simp only[Act.put,List.setIfInBounds_toArray,List.set_cons_zero,List.set_cons_succ])
 refine takeC (i:=9) (d:=some 26) (v:=?_) rfl rfl (by kernel_rfl) (by kernel_rfl) (by kernel_rfl) (by kernel_rfl) (fun _ _ _ h=>h) (Or.inl ⟨by rfl,?_⟩) hC ?_
 rotate_left
 ·(intro w hSw;(try dsimp only at hSw);go_simp;(try with_reducible rfl))
 (try simp only[Act.put,List.setIfInBounds_toArray,List.set_cons_zero,List.set_cons_succ])
 refine takeC (i:=10) (d:=some 27) (v:=?_) rfl rfl (by kernel_rfl) (by kernel_rfl) (by kernel_rfl) (by kernel_rfl) (fun _ _ _ h=>h) (Or.inl ⟨by rfl,?_⟩) hC ?_
 rotate_left
 ·(intro w hSw;(try dsimp only at hSw);go_simp;(try with_reducible rfl))
 (try simp only[Act.put,List.setIfInBounds_toArray,List.set_cons_zero,List.set_cons_succ])
 refine takeC (i:=11) (d:=some 28) (v:=?_) rfl rfl (by kernel_rfl) (by kernel_rfl) (by kernel_rfl) (by kernel_rfl) (fun _ _ _ h=>h) (Or.inl ⟨by rfl,?_⟩) hC ?_
 rotate_left
 ·(intro w hSw;(try dsimp only at hSw);go_simp;(try with_reducible rfl))
 (try simp only[Act.put,List.setIfInBounds_toArray,List.set_cons_zero,List.set_cons_succ])
 refine takeC (i:=12) (d:=some 29) (v:=?_) rfl rfl (by kernel_rfl) (by kernel_rfl) (by kernel_rfl) (by kernel_rfl) (fun _ _ _ h=>h) (Or.inl ⟨by rfl,?_⟩) hC ?_
 rotate_left
 ·(intro w hSw;(try dsimp only at hSw);go_simp;(try with_reducible rfl))
 (try simp only[Act.put,List.setIfInBounds_toArray,List.set_cons_zero,List.set_cons_succ])
 refine takeC (i:=13) (d:=some 30) (v:=?_) rfl rfl (by kernel_rfl) (by kernel_rfl) (by kernel_rfl) (by kernel_rfl) (fun _ _ _ h=>h) (Or.inl ⟨by rfl,?_⟩) hC ?_
 rotate_left
 ·(intro w hSw;(try dsimp only at hSw);go_simp;(try with_reducible rfl))
 (try simp only[Act.put,List.setIfInBounds_toArray,List.set_cons_zero,List.set_cons_succ])
 refine doneR (by kernel_rfl) ?_ _;clear hC;go_wp2_with fail;obtain⟨w4,hw4⟩:∃ W,w3.drew=W:=⟨_,rfl⟩;have hb34:Below w3.heap.size w3 w4:=by rw[← hw4];exact(Below.refl _ _).drew
 rw[hw4];have hb24:=hb23H.out.trans (hb34.mono hb23H.out.size);replace q1:=keepC hb34 q1;replace q2:=keepC hb34 q2;replace u2:=keepC hb34 u2;have hM4:=hM3H.out.below hb34;have hzm4:=blk_below hzm3H.out (by simp[zmV]) hb34;clear q0 u1 u3 hw4;obtain⟨hb34H,hb24H,hM4H,hzm4H⟩:=hq2 hb34 (hq2 hb24 (hq2 hM4 (Lib.hid hzm4)));clear hb34 hb24 hM4 hzm4;have hsb3:=hM4H.out.lt;have hibm:ib+1<w4.heap.size:=hzm4H.out.lt (by simp[zmV]);have hgP:=hM4H.out.oP.1.lt gP rfl;have hgPm:gP≠ib+1:=fun e=>hfmH.out.2.2.1 (by rw[← e];rfl);have hgm:=msg_grown w4.drew (ib+1) (.int .i64 3) (.string d) (.int .i64 (nB:Nat)) (.int .i64 0) (.slice none 0 0);have hzd:Blk w4.drew (ib+1) zmV:=hzm4H.out;have hzm7:=msg_set hzd (.int .i64 3) (.string d) (.int .i64 (nB:Nat)) (.int .i64 0) (.slice none 0 0);have hbd3:Below w4.heap.size w4 w4.drew:=(Below.refl _ _).drew;obtain⟨W7,hW7⟩:∃ W,(((((w4.drew.setCell ⟨ib+1,0,none⟩ (.int .i64 3)).setCell ⟨ib+1,1,none⟩ (.string d)).setCell ⟨ib+1,2,none⟩ (.int .i64 (nB:Nat))).setCell ⟨ib+1,3,none⟩ (.int .i64 0)).setCell ⟨ib+1,4,none⟩ (.slice none 0 0))=W:=⟨_,rfl⟩;rw[hW7]at hgm hzm7;have hM7:=(hM4H.out.below hbd3).grown hgm hfmH.out.1 hfmH.out.2.1 hfmH.out.2.2.1 hfmH.out.2.2.2.1 hfmH.out.2.2.2.2;have hbT:Below T w W7:=by
  have ht:T≤w.heap.size:=by have:=hMH.out.lt;have:=hMH.out.tb;omega
  have h1:=hb2H.out.size;have h2:=hb24H.out.size;exact(((hb2H.out.mono ht).trans (hb24H.out.mono (by omega))).trans (hbd3.mono (by omega))).grown hgm (by show T≤w4.heap.size;omega) fun g hg=>by injection hg with hg;omega
 refine startR (R:=Rk (fun _=>True) (fun V=>V.cell? ⟨sb,1,none⟩=some (.slice (some ⟨gP,0,none⟩) 1 cP)∧V.cell? ⟨gP,2,none⟩=some (.slice AB nB cB)∧V.cell? ⟨ib,1,none⟩=some (.string d)) 99 99) (by kernel_rfl) ?_;have hC:w4.drew.cell? ⟨sb,1,none⟩=some (.slice (some ⟨gP,0,none⟩) 1 cP)∧w4.drew.cell? ⟨gP,2,none⟩=some (.slice AB nB cB)∧w4.drew.cell? ⟨ib,1,none⟩=some (.string d):=⟨q1,u2,q2⟩;have hsm:sb≠ib+1:=fun e=>hfmH.out.1 e.symm;have hC7:(fun V:World=>V.cell? ⟨sb,1,none⟩=some (.slice (some ⟨gP,0,none⟩) 1 cP)∧V.cell? ⟨gP,2,none⟩=some (.slice AB nB cB)∧V.cell? ⟨ib,1,none⟩=some (.string d)) W7:=⟨grown_keep hgm hC.1 hsm,grown_keep hgm hC.2.1 hgPm,grown_keep hgm hC.2.2 (by show ib≠ib+1;omega)⟩;have R:=hZ'H.out (.returned (.tuple #[.agg #[.int .i64 3,.string d,.int .i64 (nB:Nat),.int .i64 0,.slice none 0 0],.int .i64 0])) _ ⟨rfl,hbT,(Kp.of_below (hb2H.out.trans ((hb24H.out.mono hb2H.out.size).trans (hbd3.mono (Nat.le_trans hb2H.out.size hb24H.out.size))))).old (Kp.of_grown (S:=fun k=>k=ib+1) hgm fun k hk=>by injection hk with hk;exact hk.symm) (fun i hi h9=>by omega),hM7⟩;clear hgm hM7 hbT hbd3;obtain⟨hzm7H,hzdH,RH⟩:=hq2 hzm7 (hq2 hzd (Lib.hid R));clear hzm7 hzd R;refine takeC (i:=0) (d:=some 31) (v:=?_) rfl rfl (by kernel_rfl) (by kernel_rfl) (by kernel_rfl) (by kernel_rfl) (fun _ _ _ h=>h) (Or.inl ⟨by rfl,?_⟩) hC ?_
 rotate_left
 ·(intro w hSw;(try dsimp only at hSw);go_simp;(try with_reducible rfl))
 (try simp only[Act.put,List.setIfInBounds_toArray,List.set_cons_zero,List.set_cons_succ])
 refine takeC (i:=1) (d:=some 32) (v:=?_) rfl rfl (by kernel_rfl) (by kernel_rfl) (by kernel_rfl) (by kernel_rfl) (fun _ _ _ h=>h) (Or.inl ⟨by rfl,?_⟩) hC ?_
 rotate_left
 ·(intro w hSw;(try dsimp only at hSw);go_simp;(try with_reducible rfl))
 (try simp only[Act.put,List.setIfInBounds_toArray,List.set_cons_zero,List.set_cons_succ])
 refine takeC (i:=2) (d:=some 33) (v:=?_) rfl rfl (by kernel_rfl) (by kernel_rfl) (by kernel_rfl) (by kernel_rfl) (fun _ _ _ h=>h) (Or.inl ⟨by rfl,?_⟩) hC ?_
 rotate_left
 ·(intro w hSw;(try dsimp only at hSw);go_simp;(try with_reducible rfl))
 (try simp only[Act.put,List.setIfInBounds_toArray,List.set_cons_zero,List.set_cons_succ])
 refine takeC (i:=3) (d:=some 34) (v:=?_) rfl rfl (by kernel_rfl) (by kernel_rfl) (by kernel_rfl) (by kernel_rfl) (fun _ _ _ h=>h) (Or.inl ⟨by rfl,?_⟩) hC ?_
 rotate_left
 ·(intro w hSw;(try dsimp only at hSw);go_simp;(try with_reducible rfl))
 (try simp only[Act.put,List.setIfInBounds_toArray,List.set_cons_zero,List.set_cons_succ])
 refine takeC (i:=4) (d:=some 35) (v:=?_) rfl rfl (by kernel_rfl) (by kernel_rfl) (by kernel_rfl) (by kernel_rfl) (fun _ _ _ h=>h) (Or.inl ⟨by rfl,?_⟩) hC ?_
 rotate_left
 ·(intro w hSw;(try dsimp only at hSw);go_simp;(try with_reducible rfl))
 (try simp only[Act.put,List.setIfInBounds_toArray,List.set_cons_zero,List.set_cons_succ])
 refine takeC (i:=5) (d:=some 36) (v:=?_) rfl rfl (by kernel_rfl) (by kernel_rfl) (by kernel_rfl) (by kernel_rfl) (fun _ _ _ h=>h) (Or.inl ⟨by rfl,?_⟩) hC ?_
 rotate_left
 ·(intro w hSw;(try dsimp only at hSw);go_simp;(try with_reducible rfl))
 (try simp only[Act.put,List.setIfInBounds_toArray,List.set_cons_zero,List.set_cons_succ])
 refine takeC (i:=6) (d:=some 37) (v:=?_) rfl rfl (by kernel_rfl) (by kernel_rfl) (by kernel_rfl) (by kernel_rfl) (fun _ _ _ h=>h) (Or.inl ⟨by rfl,?_⟩) hC ?_
 rotate_left
 ·(intro w hSw;(try dsimp only at hSw);go_simp;(try with_reducible rfl))
 (try simp only[Act.put,List.setIfInBounds_toArray,List.set_cons_zero,List.set_cons_succ])
 refine takeC (i:=7) (d:=some 38) (v:=?_) rfl rfl (by kernel_rfl) (by kernel_rfl) (by kernel_rfl) (by kernel_rfl) (fun _ _ _ h=>h) (Or.inl ⟨by rfl,?_⟩) hC ?_
 rotate_left
 ·(intro w hSw;(try dsimp only at hSw);go_simp;(try with_reducible rfl))
 (try simp only[Act.put,List.setIfInBounds_toArray,List.set_cons_zero,List.set_cons_succ])
 refine takeC (i:=8) (d:=some 39) (v:=?_) rfl rfl (by kernel_rfl) (by kernel_rfl) (by kernel_rfl) (by kernel_rfl) (fun _ _ _ h=>h) (Or.inl ⟨by rfl,?_⟩) hC ?_
 rotate_left
 ·(intro w hSw;(try dsimp only at hSw);go_simp;(try with_reducible rfl))
 (try simp only[Act.put,List.setIfInBounds_toArray,List.set_cons_zero,List.set_cons_succ])
 refine takeC (i:=9) (d:=some 40) (v:=?_) rfl rfl (by kernel_rfl) (by kernel_rfl) (by kernel_rfl) (by kernel_rfl) (fun _ _ _ h=>h) (Or.inl ⟨by rfl,?_⟩) hC ?_
 rotate_left
 ·(intro w hSw;(try dsimp only at hSw);go_simp;(try with_reducible rfl))
 (try simp only[Act.put,List.setIfInBounds_toArray,List.set_cons_zero,List.set_cons_succ])
 refine takeC (i:=10) (d:=some 41) (v:=?_) rfl rfl (by kernel_rfl) (by kernel_rfl) (by kernel_rfl) (by kernel_rfl) (fun _ _ _ h=>h) (Or.inl ⟨by rfl,?_⟩) hC ?_
 rotate_left
 ·(intro w hSw;(try dsimp only at hSw);go_simp;(try with_reducible rfl))
 (try simp only[Act.put,List.setIfInBounds_toArray,List.set_cons_zero,List.set_cons_succ])
 refine takeC (i:=11) (d:=some 42) (v:=?_) rfl rfl (by kernel_rfl) (by kernel_rfl) (by kernel_rfl) (by kernel_rfl) (fun _ _ _ h=>h) (Or.inl ⟨by rfl,?_⟩) hC ?_
 rotate_left
 ·(intro w hSw;(try dsimp only at hSw);go_simp;(try with_reducible rfl))
 (try simp only[Act.put,List.setIfInBounds_toArray,List.set_cons_zero,List.set_cons_succ])
 refine oneR (i:=12) (by kernel_rfl) rfl (fun K hK=>?_);refine step_msg hzdH.out rfl (.tmp 4) (.tmp 42) rfl rfl (.int .i64 3) (.string d) (.int .i64 (nB:Nat)) (.int .i64 0) (.slice none 0 0) rfl rfl rfl rfl rfl rfl ?_;rw[hW7];clear hW7;refine hK.out _ _ ⟨fun _ _ _=>trivial,fun _ _=>hC7⟩ ?_;clear hK K
 (try simp only[Act.put,List.setIfInBounds_toArray,List.set_cons_zero,List.set_cons_succ])
 clear hC;have hC:=hC7;refine takeC (i:=13) (d:=some 5) (v:=?_) rfl rfl (by kernel_rfl) (by kernel_rfl) (by kernel_rfl) (by kernel_rfl) (fun _ _ _ h=>h) (Or.inl ⟨by rfl,?_⟩) hC ?_
 rotate_left
 ·(intro w hSw;(try dsimp only at hSw);go_simp;(try with_reducible rfl))
 (try simp only[Act.put,List.setIfInBounds_toArray,List.set_cons_zero,List.set_cons_succ])
 refine doneR (by kernel_rfl) ?_ _;clear hC hC7;obtain⟨t0,-⟩:=hzm7H.out 0 _ rfl;obtain⟨t1,-⟩:=hzm7H.out 1 _ rfl;obtain⟨t2,-⟩:=hzm7H.out 2 _ rfl;obtain⟨t3,-⟩:=hzm7H.out 3 _ rfl;obtain⟨t4,-⟩:=hzm7H.out 4 _ rfl;go_wp2_with fail;exact bodyPost_ret (v:=.tuple #[.agg #[.int .i64 3,.string d,.int .i64 (nB:Nat),.int .i64 0,.slice none 0 0],.int .i64 0]) (by simp[results,Tryz.results99,go_sem,t0,t1,t2,t3,t4]) rfl RH.out
end Go.Proofs.YtpdjjjiknijpkaaGreatDoor.C10