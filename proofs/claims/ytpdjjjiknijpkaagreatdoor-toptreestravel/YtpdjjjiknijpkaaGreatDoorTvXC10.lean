/-
 Several texts of mine as one, without what is not wanted here: XMsW, XFoW.
-/
import Derived.Test.YtpdjjjiknijpkaaGreatDoorTvOC10
import Derived.Test.YtpdjjjiknijpkaaGreatDoorTvGh
set_option linter.unusedVariables false
set_option linter.unusedSimpArgs false
set_option maxRecDepth 100000
set_option maxHeartbeats 8000000
namespace Go.Proofs.YtpdjjjiknijpkaaGreatDoor.C10
open Go.ChangeShapes Go.WideShapes Go.Deep Go.RowKit Go.Lib Go.Maps Go.Sort
theorem wpList_tnextB {P:Program} {k:TypeId} {κ:Type} {K:KD P k κ} {w:World} {b r c cnt:Nat} {f:κ→Option Bool} {left:κ→Bool} {ops:Array Oper} {rest:List Oper} {o:Oper} {a:Act} {Q:Exit→Act→World→Prop} [DecidableEq κ] (hg:o.guard=none) (it:Operand) (hop:o.op=Op.next it false) (hit:a.eval it = .pointer (some ⟨r,0,none⟩)) (h:TRange K valB w b r c f left cnt)
  (hDone:cnt=0→(∀ x,K.good x→left x=false)→wpList P ops Q rest (a.put o.dst (.tuple #[.bool false])) w)
  (hMore:∀ (x:κ) (v:Value) (w':World) (cnt':Nat),K.good x→left x=true→(f x).isSome=true→TRange K valB w' b r c f (fun z=>left z && !decide (z=x)) cnt'→cnt'<cnt →
   w.grownBy w' (some r)→w'.heap.size=w.heap.size→(Instr.entry (.pointer (some ⟨r,0,none⟩))).run P w' = .ok (.tuple #[K.val x,v]) w'→wpList P ops Q rest (a.put o.dst (.tuple #[.bool true,K.val x,v])) w') :
  wpList P ops Q (o::rest) a w :=
 wpList_tnext hg it hop hit injB h hDone fun x y w' cnt' h1 h2 h3 h4 h5 h6 h7 h8=>hMore x (valB y) w' cnt' h1 h2 (by rw[h3];rfl) h4 h5 h6 h7 h8
theorem elem_StrM:Elem Tryz.prog 9 1 16:=elem_of (z:=.string ByteArray.empty) (by kernel_rfl) (by decide)
theorem wpList_tinsert {P:Program} {k:TypeId} {κ α:Type} {K:KD P k κ} {val:α→Value} {w:World} {b c:Nat} {f:κ→Option α} {ops:Array Oper} {rest:List Oper} {o:Oper} {a:Act} {Q:Exit→Act→World→Prop} [DecidableEq κ] (hg:o.guard=none) (m x v:Operand) (t:TypeId) (hop:o.op=Op.insert t m x v) {e:TypeId} (ht:P.underlying t=some (.map k e)) (hi:InjV val)
  (hm:a.eval m = .map (some b)) (h:TMap K val w b f c) (hc:c<maxLen) (kx:κ) (hx:a.eval x=K.val kx) (hgood:K.good kx) (y:α) (hv:a.eval v=val y)
  (hK:∀ w',TMap K val w' b (upd f kx y) (if (f kx).isSome then c else c+1)→w.grownBy w' (some b)→wpList P ops Q rest (a.put o.dst undef) w'):wpList P ops Q (o::rest) a w:=by
 refine wpList_plain hg fun K' hK'=>?_;obtain⟨w',hr,h',ht'⟩:=h.store ht hi hc hgood y;unfold Oper.wp;simp[execOp,hop,hm,hx,hv,hr,Result.andThen];exact hK' _ _ (hK w' h' ht'.grown)
theorem sortB_permM (l:List ByteArray):(sortB l).Perm l:=by
 unfold sortB;have h:=(List.mergeSort_perm (dat l) (fun x y=>decide (x≤y))).map bsOf;have h2:(dat l).map bsOf=l:=und_dat l;rw[h2]at h;exact h
theorem nodup_snoc {α:Type} {l:List α} {x:α} (h:l.Nodup) (hx:x ∉ l):(l ++ [x]).Nodup :=
 List.nodup_append.2 ⟨h,List.pairwise_singleton _ _,fun a ha b hb e=>by rw[List.mem_singleton.1 hb]at e;subst e;exact hx ha⟩
structure MsM (w0:World) (gb b off n c:Nat) (td:List ByteArray) (g s:ByteArray→Option Bool) (cg cs:Nat) (wr:World):Prop where
 q:QStr wr b off n c td
 gt:gb+1<b
 base:w0.heap.size≤gb
 hg:TMap KB valB wr gb g cg
 hs:TMap KB valB wr (gb+1) s cs
 bel:Below w0.heap.size w0 wr
 tg:∀ d,(g d).isSome=true→Tr g d
 ts:∀ d,(s d).isSome=true→Tr s d
section
variable {w0 wr w':World} {gb b off n c cg cs:Nat} {td:List ByteArray} {g s:ByteArray→Option Bool}
theorem MsM.below (h:MsM w0 gb b off n c td g s cg cs wr) (hb:Below wr.heap.size wr w'):MsM w0 gb b off n c td g s cg cs w':=⟨h.q.below hb,h.gt,h.base,h.hg.below hb h.hg.lt,h.hs.below hb h.hs.lt,h.bel.trans (hb.mono h.bel.size),h.tg,h.ts⟩
theorem MsM.gone (h:MsM w0 gb b off n c td g s cg cs wr) {d:ByteArray} {cg':Nat} (hg:TMap KB valB w' gb (upd g d true) cg') (hw:wr.grownBy w' (some gb)):MsM w0 gb b off n c td (upd g d true) s cg' cs w' :=
 ⟨h.q.grown hw (by have:=h.gt;simp;omega),h.gt,h.base,hg,h.hs.kept hw (by simp),h.bel.trans (grown_below hw h.base h.bel.size),tr_upd h.tg d,h.ts⟩
theorem MsM.seen (h:MsM w0 gb b off n c td g s cg cs wr) {d:ByteArray} {cs':Nat} (hs:TMap KB valB w' (gb+1) (upd s d true) cs') (hw:wr.grownBy w' (some (gb+1))):MsM w0 gb b off n c td g (upd s d true) cg cs' w' :=
 ⟨h.q.grown hw (by have:=h.gt;simp;omega),h.gt,h.base,h.hg.kept hw (by simp),hs,h.bel.trans (grown_below hw (by have:=h.base;omega) h.bel.size),h.tg,tr_upd h.ts d⟩
theorem MsM.push (h:MsM w0 gb b off n c td g s cg cs wr) {b' off' c':Nat} {d:ByteArray} (hq:QStr w' b' off' (n+1) c' (td ++ [d])) (hw:wr.grownBy w' (some b)) (hb:b'=b∨wr.heap.size≤b'):MsM w0 gb b' off' (n+1) c' (td ++ [d]) g s cg cs w' :=
 ⟨hq,by have:=h.gt;have:=h.hs.lt;omega,h.base,h.hg.kept hw (by have:=h.gt;simp;omega),h.hs.kept hw (by have:=h.gt;simp;omega),h.bel.trans (grown_below hw (by have:=h.base;have:=h.gt;omega) h.bel.size),h.tg,h.ts⟩
end
def MsRel (L:List TFi) (O:List ObT) (w0:World) (gb:Nat) (v:Value) (wr:World):Prop :=
 ∃ (b off n c:Nat) (td:List ByteArray) (g s:ByteArray→Option Bool) (cg cs:Nat),v = .slice (some ⟨b,off,none⟩) n c∧MsM w0 gb b off n c td g s cg cs wr∧MsInv L O td (Tr s) (Tr g)∧(200001-cs)+n≤200001
def MsRel2 (L:List TFi) (O:List ObT) (w0:World) (gb:Nat) (d:ByteArray) (E:List Ent) (B M:Nat) (vE:Value) (base:Nat) (i v:Value) (wr:World):Prop :=
 ∃ (k b off n c:Nat) (td:List ByteArray) (g s:ByteArray→Option Bool) (cg cs:Nat),k≤E.length∧i = .int .i64 k∧v = .slice (some ⟨b,off,none⟩) n c∧MsM w0 gb b off n c td g s cg cs wr∧MsIn L O d E k td s g∧(B-cs)+n≤M∧cs≤B∧Own REn 73 wr base vE E∧(∀ x,vE.ownBlock=some x→gb+1<x∧x≠b)
def MsAns (L:List TFi) (O:List ObT) (w:World) (e:Ending) (w':World):Prop :=
 Below w.heap.size w w'∧∃ (A:Option Addr) (c:Nat) (G:List ByteArray),e = .returned (.tuple #[.slice A G.length c,.int .i64 0])∧SlAt RStr w' A G.length G∧(∀ d∈G,¬ InS O d∧∃ b∈Cs 200 L,d=digF b)∧(G = []→Complete L O)∧G.length≤1000000∧G.Nodup
def MsRel3 (w0:World) (gb rb cg:Nat) (g:ByteArray→Option Bool) (v:Value) (wr:World):Prop :=
 ∃ (left:ByteArray→Bool) (cnt:Nat) (G:List ByteArray) (A:Option Addr) (n c:Nat),v = .slice A n c∧TRange KB valB wr gb rb cg g left cnt∧Own RStr 9 wr w0.heap.size v G∧(∀ s,s.size≤maxLen→(s∈G↔(g s).isSome=true∧left s=false))∧(∀ s∈G,s.size≤maxLen)∧G.Nodup∧G.length+cnt≤cg∧Below w0.heap.size w0 wr∧(∀ x,v.ownBlock=some x→rb<x∧gb<x)
theorem fresh_mem {w0 W3 w6:World} {gb b2 of2 n2 c3 cg cs qb xb0 base n cE:Nat} {td:List ByteArray} {g s:ByteArray→Option Bool} {xg:ByteArray} {E:List Ent} (hM:MsM w0 gb b2 of2 n2 c3 td g s cg cs W3) (hm6:TMap KB valB w6 (gb+1) (upd s xg true) (if (s xg).isSome=true then cs else cs+1)) (hg6:W3.grownBy w6 (some (gb+1))) (hsv:(s xg).getD false=false)
  (hown:Own REn 73 W3 base (.slice (some ⟨qb,0,none⟩) n cE) E) (hq:gb+1<qb) (z1:W3.cell? ⟨xb0,1,none⟩=some (.string xg)) (hx:gb+1<xb0) :
  MsM w0 gb b2 of2 n2 c3 td g (upd s xg true) cg (cs+1) (w6.alloc (.cells #[.string xg] 9))∧Own REn 73 (w6.alloc (.cells #[.string xg] 9)) base (.slice (some ⟨qb,0,none⟩) n cE) E∧(w6.alloc (.cells #[.string xg] 9)).cell? ⟨w6.heap.size,0,none⟩=some (.string xg)∧w6.cell? ⟨xb0,1,none⟩=some (.string xg):=by
 have hns:(s xg).isSome=false:=by
  cases h0:(s xg).isSome with
  | false=>rfl
  | true =>
   have h1:(s xg).getD false=true:=hM.ts xg h0;rw[hsv]at h1;cases h1
 have hm6':TMap KB valB w6 (gb+1) (upd s xg true) (cs+1):=by rw[hns]at hm6;exact hm6
 have hM6:=hM.seen hm6' hg6;have hown6:=hown.kept hg6 (.inr (fun e=>by have e2:some qb=some (gb+1):=e;injection e2 with e2;omega)) (fun _ _ h=>h);have hbA:Below w6.heap.size w6 (w6.alloc (.cells #[.string xg] 9)):=(Below.refl _ _).alloc (Nat.le_refl _) _;refine⟨hM6.below hbA,hown6.below hbA,?_,hg6.cell z1 (by simp;omega)⟩;have:=cell_new w6 #[.string xg] 9 0;rw[this];rfl
theorem missing_any (L:List TFi) (hL:TreeOk L) (hF:Faith (Cs 200 L)) (A:Option Addr) (m c:Nat) (O:List ObT) (w:World) (hmx:MaxLenAt w) (hst:Store w A m O) (hgd:Good L O) :
  Calls Tryz.prog 7 #[.string (digF (TD 200 L)),.slice A m c] w (MsAns L O w):=by
 obtain⟨Z,hZ⟩:∃ Z,MsAns L O w=Z:=⟨_,rfl⟩;have hZ':∀ e W,MsAns L O w e W→Z e W:=fun e W h=>by rw[← hZ];exact h
 rw[hZ];clear hZ;obtain⟨rt,hrt⟩:∃ r,digF (TD 200 L)=r:=⟨_,rfl⟩;have hdg:digB rt=true:=by rw[← hrt];exact digB_digT _
 have hrs:rt.size=16:=by rw[← hrt];exact digF_size _
 have hrl:rt.size≤maxLen:=by rw[hrs];decide
 have hi0:=MsInv.start (L:=L) (O:=O);have hCn:(Cs 200 L).length≤200001:=by
  have h1:=Cs_count partT 200 L;have h2:L.length*200≤1000*200:=Nat.mul_le_mul_right _ hL.cnt;omega
 rw[hrt]at hi0 ⊢;have hmk:=@run_makeMap Tryz.prog;obtain⟨hZ'H,hmxH,hstH,hgdH,hLH,hFH,hrtH,hdgH,hi0H,hCnH⟩:=hq2 hZ' (hqc hmx hst hgd hL hF hrt hdg hi0 (Lib.hid hCn));clear hZ' hmx hst hgd hL hF hrt hdg hi0 hCn;go_enter Tryz.func7,Tryz.ntmps7;go_wp2_with fail;refine(checkRoot_any A m c O rt w hstH.out hdgH.out).mono ?_;rintro e w1 ⟨rfl,hb1⟩;have hm1:TMap KB valB ((w1.alloc (.map #[] 0)).alloc (.map #[] 0)) w1.heap.size (fun _=>none) 0:=(TMap.made w1 KB valB).alloc _;have hm2:TMap KB valB ((w1.alloc (.map #[] 0)).alloc (.map #[] 0)) (w1.heap.size+1) (fun _=>none) 0:=by
  have:=TMap.made (w1.alloc (.map #[] 0)) KB valB
  simpa using this
 have hb2:Below w.heap.size w ((w1.alloc (.map #[] 0)).alloc (.map #[] 0)):=(hb1.alloc hb1.size _).alloc (by have:=hb1.size;simp;omega) _;have hw1:=hb1.size;obtain⟨gb,hgb⟩:∃ b,w1.heap.size=b:=⟨_,rfl⟩;rw[hgb]at hm1 hm2 hw1;obtain⟨hb1H,hm1H,hm2H,hb2H⟩:=hq2 hb1 (hq2 hm1 (hq2 hm2 (Lib.hid hb2)));clear hb1 hm1 hm2 hb2;go_wp2_with (go_loud (refine wpList_tinsert rfl (.tmp 28) (.tmp 29) (.const (.bool true)) 66 rfl Tryz.underlying66 injB rfl hm2H.out (by decide) rt rfl hrl true rfl ?_);intro w3 hm3 hg3;have hm3H:=Lib.hid hm3;clear hm3;have hg3H:=Lib.hid hg3;clear hg3)
 go_loopw [9] (fun v wr=>MsRel L O w gb v wr) (fun v wr=>200001-mapN wr (gb+1)+lenO v)
 case atStart =>
  have hlt2:=hm2H.out.lt;have hsz3:=hg3H.out.size;have hno0:∀ d,((fun _=>none:ByteArray→Option Bool) d).isSome=true→Tr (fun _=>none) d:=fun d h=>by cases h
  exact⟨w3.heap.size,0,1,1,[rt],fun _=>none,upd (fun _=>none) rt true,0,_,rfl,⟨QStr.new w3 rt _,by omega,hw1,(hm1H.out.kept hg3H.out (by simp)).alloc _,hm3H.out.alloc _,(hb2H.out.trans (grown_below hg3H.out (by omega) hb2H.out.size)).alloc (Nat.le_trans hb2H.out.size hsz3) _,hno0,tr_upd hno0 rt⟩,hi0H.out,by simp⟩
 case round =>
  clear hm3H hg3H hm1H hm2H hb2H hi0H;obtain⟨b,off,n,c2,td,g,s,cg,cs,rfl,hM,hI,hms0⟩:=hrel;have hcsN:=mapN_of hM.hs;have hcgC:cg≤200001:=Nat.le_trans (small_map hM.hg hM.tg fun d hd=>(hI.gone d hd).2) hCnH.out;have hcsC:cs≤200001:=Nat.le_trans (small_map hM.hs hM.ts fun d hd=>by
   obtain⟨n',l',h1,h2⟩:=hI.dir d hd;exact⟨_,(h1.ok hLH.out).cs _ (Cs_self n' l'),h2⟩) hCnH.out
  by_cases hn:0<n
  ·obtain⟨d,t,rfl⟩:∃ d t,td=d::t:=by
    cases td with
    | nil=>have:=hM.q.len;simp at this;omega
    | cons d t=>exact⟨d,t,rfl⟩
   have c0:wr.cell? ⟨b,off,none⟩=some (.string d):=by simpa using hM.q.at_ 0 d rfl
   obtain⟨n',l',hdir,hdd⟩:=hI.dir d (hI.todo d List.mem_cons_self);have hdz:d.size≤maxLen:=by rw[hdd,digF_size];decide
   obtain⟨off2,hsl,hM1⟩:∃ off2,(∀ W,(Instr.slice 33 (.slice (some ⟨b,off,none⟩) n c2) (some (.int .i64 1)) none none).run Tryz.prog W = .ok (.slice (some ⟨b,off2,none⟩) (n-1) (c2-1)) W)∧MsM w gb b off2 (n-1) (c2-1) t g s cg cs wr:=by
    have hr:=run_slFrom 33 utS 1 szS (some ⟨b,off,none⟩) n c2 1 hn;obtain⟨q1,q2⟩:=hM.q.tail
    by_cases hc1:c2=1
    ·refine⟨off,fun W=>?_,⟨q2 (by omega),hM.gt,hM.base,hM.hg,hM.hs,hM.bel,hM.tg,hM.ts⟩⟩;have:=hr W;rw[if_pos hc1]at this;exact this
    ·refine⟨off+1,fun W=>?_,⟨q1,hM.gt,hM.base,hM.hg,hM.hs,hM.bel,hM.tg,hM.ts⟩⟩;have:=hr W;rw[if_neg hc1]at this;exact this
   have hst1:=hstH.out.below hM.bel;have hfd:=find_ob A m c O d wr hst1;have hnI:∀ x∈O,x.dig=d→InS O d:=fun x hx e=>⟨x,hx,e⟩;obtain⟨hMH,hM1H,hIH,hdirH,hddH,hst1H,hfdH,hnIH,hcsNH⟩:=hqc hM hM1 hI hdir hdd hst1 hfd hnI (Lib.hid hcsN);clear hM hM1 hI hdir hdd hst1 hfd hnI hcsN;go_wp2_with fail;refine hfdH.out.mono ?_;rintro e w2 ⟨hb2,hans⟩;have hM2:=hM1H.out.below hb2
   rcases hans with ⟨x,hx,hxd,rfl⟩ | ⟨hno,rfl⟩
   ·have hin:InS O d:=⟨x,hx,hxd⟩;have htx:=hgdH.out.text hFH.out hx ((hdirH.out.ok hLH.out).cs _ (Cs_self n' l')) (hxd.trans hddH.out);rw[ents_text]at htx;have hst2:=hst1H.out.below hb2;have hxb:=hst2.sl.2.2 x hx;have hxn:x.bytes.n≤2000000:=by have h1:=hst2.big x hx;have h2:x.bytes.l.length=x.bytes.n:=hxb.1.1;omega
    obtain⟨hEo,hEr,hEl,hEt⟩:=ents_ok hLH.out hdirH.out;have hEn:=ents_nil (n:=n') (l:=l');have hEd:=fun e (he:e∈ents n' l')=>ents_dig hLH.out hdirH.out he;obtain⟨E,hE⟩:∃ E,ents n' l'=E:=⟨_,rfl⟩;rw[hE]at htx hEo hEr hEl hEn hEd;obtain⟨xd,⟨xA,xn,xc,xl⟩⟩:=x;simp only at htx hxb hxn;subst htx;have hmx2:=hmxH.out.below (hM2.bel);have hrd:=readDir_any E hEo hEr (by omega) xA xn xc w2 hmx2 hxb hxn;have hroot:E = []→d=rt:=fun h0=>by
     have h1:=hEn h0
     rcases(hdirH.out.ok hLH.out).ne with ⟨h2,h3⟩ | h2
     ·rw[hddH.out,← hrtH.out,h2,h3]
     ·exact absurd h1 h2
    obtain⟨hb2H,hM2H,hinH,hxH,hxdH,hst2H,hxbH,hEoH,hErH,hEtH,hEnH,hEdH,hEH,hmx2H,hrdH,hrootH⟩:=hq2 hb2 (hq2 hM2 (hq2 hin (hqb hx hxd hst2 hxb (hqc hEo hEr hEt hEn hEd hE hmx2 hrd (Lib.hid hroot)))));clear hb2 hM2 hin hx hxd hst2 hxb hEo hEr hEt hEn hEd hE hmx2 hrd hroot;go_wp2_with fail;refine hrdH.out.mono ?_;rintro e w3 ⟨AE,cE,rfl,hown,hb3⟩;have hM3:=hM2H.out.below hb3;have hI3:MsIn L O d E 0 t s g:=MsIn.start hIH.out;have hmx3:=hmx2H.out.below hb3;have hst3:=hst2H.out.below hb3;have hw23:=hb3.size;have hMq:∀ x,(Value.slice AE E.length cE).ownBlock=some x→gb+1<x∧x≠b:=fun x hx=>by
     have h1:=(hown.1.lt x hx).1;have h2:=hM2H.out.q.lt;have h3:=hM2H.out.hs.lt;exact⟨by omega,by omega⟩
    have hst0:MsRel2 L O w gb d E 200001 (200001-cs+(n-1)) (.slice AE E.length cE) w2.heap.size (.int .i64 0) (.slice (some ⟨b,off2,none⟩) (n-1) (c2-1)) w3 :=
     ⟨0,b,off2,n-1,c2-1,t,g,s,cg,cs,Nat.zero_le _,rfl,rfl,hM3,hI3,Nat.le_refl _,hcsC,hown,hMq⟩
    clear hown hM3 hI3 hMq;obtain⟨hb3H,hst0H,hmx3H,hst3H⟩:=hq2 hb3 (hq2 hst0 (hq2 hmx3 (Lib.hid hst3)));clear hb3 hst0 hmx3 hst3;obtain⟨z,hz⟩:∃ z,((E.length:Int)==0)=z:=⟨_,rfl⟩
    cases z
    ·go_wp2_with fail
     go_loopw [70,9] (fun i v wr=>MsRel2 L O w gb d E 200001 (200001-cs+(n-1)) (.slice AE E.length cE) w2.heap.size i v wr) (fun i _ _=>E.length-(intOf i).toNat)
     case atStart=>exact hst0H.out
     case round =>
      clear hst0H;obtain⟨k,b2,of2,n2,c3,td,g2,s2,cg2,cs2,hk,rfl,rfl,hMk,hIk,hmeas,hcsB,hown,hMq⟩:=hrel;have hcsN2:=mapN_of hMk.hs;have hcgC2:cg2≤200001:=Nat.le_trans (small_map hMk.hg hMk.tg fun d hd=>(hIk.inv.gone d hd).2) hCnH.out
      by_cases hlt:k<E.length
      ·obtain⟨e1,he1⟩:∃ e,E[k]? = some e:=⟨E[k]'hlt,List.getElem?_eq_getElem _⟩;have hem:=List.mem_of_getElem? he1;obtain⟨qb,hA⟩:=own_form hown (by omega);subst hA;obtain⟨f0,f1,f2,f3⟩:=cells_Ent hown.slAt he1;have hq:=hMq qb rfl;obtain⟨hd1,hd2⟩:=hEdH.out e1 hem;have hxz:e1.digest.size≤maxLen:=by obtain⟨bb,_,h2⟩:=hd2;rw[h2,digF_size];decide
       obtain⟨xn',xg,xd',xr⟩:=e1;simp only at f0 f1 f2 f3 hd1 hd2 hxz;have g0:wr.cell? ⟨qb,k*4,none⟩=some (.string xn'):=by simpa using f0
       have g1:wr.cell? ⟨qb,k*4+1,none⟩=some (.string xg):=by simpa using f1
       have g2c:wr.cell? ⟨qb,k*4+2,none⟩=some (.bool xd'):=by simpa using f2
       have g3:wr.cell? ⟨qb,k*4+3,none⟩=some (.bool xr):=by simpa using f3
       clear f0 f1 f2 f3;obtain⟨W3,hW3⟩:∃ W,wr.alloc (.cells #[.string xn',.string xg,.bool xd',.bool xr] 73)=W:=⟨_,rfl⟩;have hb13:Below wr.heap.size wr W3:=by rw[← hW3];exact(Below.refl _ _).alloc (Nat.le_refl _) _
       have hz3:Blk W3 wr.heap.size [.string xn',.string xg,.bool xd',.bool xr]:=by rw[← hW3];exact blk_new wr _ _
       have hMW:=hMk.below hb13;have hownW:=hown.below hb13;have hstW:=hstH.out.below hMW.bel;obtain⟨z1,-⟩:=hz3 1 _ rfl;obtain⟨z2,-⟩:=hz3 2 _ rfl;have hrb:wr.heap.size<W3.heap.size:=by rw[← hW3];simp
       obtain⟨xb0,hxb0⟩:∃ b,wr.heap.size=b:=⟨_,rfl⟩;rw[hxb0]at z1 z2 hz3 hrb;have hfd2:=find_ob A m c O xg W3 hstW;obtain⟨hMkH,hIkH,hcsN2H,hownH,hMqH,hqH,he1H,hemH,hd1H,hd2H,hb13H,hz3H,hMWH,hownWH,hstWH,hfd2H⟩:=hq2 hMk (hq2 hIk (hq2 hcsN2 (hqb hown hMq hq he1 (hqc hem hd1 hd2 hb13 hz3 hMW hownW hstW (Lib.hid hfd2)))));clear hMk hIk hcsN2 hown hMq hq he1 hem hd1 hd2 hb13 hz3 hMW hownW hstW hfd2
       cases xd'
       ·go_wp2_with fail;refine hfd2H.out.mono ?_;rintro e w5 ⟨hb5,hans⟩;have hM5:=hMWH.out.below hb5;have hown5:=hownWH.out.below hb5
        rcases hans with ⟨x5,hx5,hxd5,rfl⟩ | ⟨hno5,rfl⟩
        ·have hI5:=hIkH.out.file he1H.out rfl ⟨x5,hx5,hxd5⟩;have R:MsRel2 L O w gb d E 200001 (200001-cs+(n-1)) (.slice (some ⟨qb,0,none⟩) E.length cE) w2.heap.size (.int .i64 ((k:Int)+1)) (.slice (some ⟨b2,of2,none⟩) n2 c3) w5:=⟨k+1,b2,of2,n2,c3,td,g2,s2,cg2,cs2,by omega,by go_num,rfl,hM5,hI5,hmeas,hcsB,hown5,hMqH.out⟩;clear hx5 hxd5;obtain⟨hb5H,hM5H,hown5H,hI5H,RH⟩:=hqb hb5 hM5 hown5 hI5 (Lib.hid R);clear hb5 hM5 hown5 hI5 R;go_wp2_with fail;exact⟨RH.out,by simp[intOf];omega⟩
        ·have hI5:=hIkH.out.lost he1H.out rfl (fun ⟨x,hx,e⟩=>hno5 x hx e) hd2H.out;have hg5:=hM5.hg;have hb5w:xb0<w5.heap.size:=by have:=hb5.size;omega
         have z15:=keepC hb5 z1;clear hno5;obtain⟨hb5H,hM5H,hown5H,hI5H,hg5H⟩:=hqb hb5 hM5 hown5 hI5 (Lib.hid hg5);clear hb5 hM5 hown5 hI5 hg5;go_wp2_with (at_mapUpdate;go_loud (refine wpList_tstore rfl (.tmp 86) (.tmp 88) (.const (.bool true)) 66 rfl Tryz.underlying66 injB rfl hg5H.out (by simp only[maxLen];omega) xg rfl hxz true rfl ?_);intro w6 hm6 hg6;have hm6H:=Lib.hid hm6;clear hm6;have hg6H:=Lib.hid hg6;clear hg6);have hM6:=hM5H.out.gone hm6H.out hg6H.out;have hown6:=hown5H.out.kept hg6H.out (.inr (fun e=>by have e2:some qb=some gb:=e;injection e2 with e2;have:=hqH.out.1;omega)) (fun _ _ h=>h);go_wp2;exact⟨⟨k+1,b2,of2,n2,c3,td,_,s2,_,cs2,by omega,by go_num,rfl,hM6,hI5H.out,hmeas,hcsB,hown6,hMqH.out⟩,by simp[intOf];omega⟩
       ·have hlk:=(hMWH.out.hs.look (t:=66) Tryz.underlying66 (z0:=false) (zeroB W3) injB (x:=xg) hxz).1;obtain⟨sv,hsv⟩:∃ v,(s2 xg).getD false=v:=⟨_,rfl⟩;rw[hsv]at hlk;have hlk:(Instr.lookup 66 (.map (some (gb+1))) (.string xg) false).run Tryz.prog W3 = .ok (.bool sv) W3:=hlk
        cases sv
        ·have hI5:=hIkH.out.fresh he1H.out rfl (hd1H.out rfl);have hs5:=hMWH.out.hs;have hgx:gb+1<xb0:=by have:=hMkH.out.hs.lt;omega
         obtain⟨hI5H,hs5H,hsvH⟩:=hq2 hI5 (hq2 hs5 (Lib.hid hsv));clear hI5 hs5 hsv;go_wp2_with (first | (at_mapUpdate;go_loud (refine wpList_tstore rfl (.tmp 94) (.tmp 96) (.const (.bool true)) 66 rfl Tryz.underlying66 injB rfl hs5H.out (by simp only[maxLen];omega) xg rfl hxz true rfl ?_);intro w6 hm6 hg6;have hfr:=fresh_mem hMWH.out hm6 hg6 hsvH.out hownWH.out hqH.out.1 z1 hgx;obtain⟨hM7,hown7,hc7,z16⟩:=hfr;have hq7H:=Lib.hid hM7.q;have hM7H:=Lib.hid hM7;clear hM7;have hown7H:=Lib.hid hown7;clear hown7;have hc7H:=Lib.hid hc7;clear hc7 hm6 hg6 z1 z2) | (at_builtin;go_loud (refine wpList_push rfl (.tmp 97) (.tmp 100) 33 rfl Tryz.underlying33 elem_StrM rfl hq7H.out ⟨w6.heap.size,0,none⟩ xg rfl hc7H.out ?c1 ?c2 ?_)))
         case c1=>unfold maxLen;omega
         case c2=>omega
         intro b' off' c' w8 hq8 hg8 hb8;replace hb8:b'=b2∨(w6.alloc (.cells #[.string xg] 9)).heap.size≤b':=by simpa using hb8
         have hcs6:cs2+1≤200001:=Nat.le_trans (small_map hM7H.out.hs hM7H.out.ts fun d hd=>by
          obtain⟨n9,l9,h1,h2⟩:=hI5H.out.inv.dir d hd;exact⟨_,(h1.ok hLH.out).cs _ (Cs_self n9 l9),h2⟩) hCnH.out
         have hM8:=hM7H.out.push hq8 hg8 hb8;have hown8:=hown7H.out.kept hg8 (.inr (fun e=>by have e2:some qb=some b2:=e;injection e2 with e2;exact hqH.out.2 e2)) (fun _ _ h=>h);have hMq8:∀ x,(Value.slice (some ⟨qb,0,none⟩) E.length cE).ownBlock=some x→gb+1<x∧x≠b':=fun x hx=>by
          have hx2:some qb=some x:=hx;injection hx2 with hx2;subst hx2;refine⟨hqH.out.1,fun e=>?_⟩
          rcases hb8 with h1 | h1
          ·rw[h1]at e;exact hqH.out.2 e
          ·have:=(hown7H.out.1.lt qb rfl).2;rw[← e]at h1;have h2:qb<(w6.alloc (.cells #[.string xg] 9)).heap.size:=this;omega
         have R:MsRel2 L O w gb d E 200001 (200001-cs+(n-1)) (.slice (some ⟨qb,0,none⟩) E.length cE) w2.heap.size (.int .i64 ((k:Int)+1)) (.slice (some ⟨b',off',none⟩) (n2+1) c') w8:=⟨k+1,b',off',n2+1,c',td ++ [xg],g2,_,cg2,cs2+1,by omega,by go_num,rfl,hM8,hI5H.out,by omega,hcs6,hown8,hMq8⟩;clear hM8 hown8 hMq8 hq8 hg8 hb8;have RH:=Lib.hid R;clear R;go_wp2;exact⟨RH.out,by simp[intOf];omega⟩
        ·have hI5:=hIkH.out.old he1H.out rfl hsv;have R:MsRel2 L O w gb d E 200001 (200001-cs+(n-1)) (.slice (some ⟨qb,0,none⟩) E.length cE) w2.heap.size (.int .i64 ((k:Int)+1)) (.slice (some ⟨b2,of2,none⟩) n2 c3) W3:=⟨k+1,b2,of2,n2,c3,td,g2,s2,cg2,cs2,by omega,by go_num,rfl,hMWH.out,hI5,hmeas,hcsB,hownWH.out,hMqH.out⟩;obtain⟨hI5H,RH⟩:=hq2 hI5 (Lib.hid R);clear hI5 R;go_wp2_with fail;exact⟨RH.out,by simp[intOf];omega⟩
      ·obtain rfl:k=E.length:=by omega
       have hI6:=hIk.done hLH.out hFH.out hinH.out hdirH.out hEH.out.symm hddH.out;have e2:=hcsNH.out;obtain⟨hIkH,hI6H,hownH,hMkH⟩:=hq2 hIk (hq2 hI6 (hq2 hown (Lib.hid hMk)));clear hIk hI6 hown hMk;go_wp2_with fail;exact⟨⟨b2,of2,n2,c3,td,g2,s2,cg2,cs2,rfl,hMkH.out,hI6H.out,by omega⟩,by rw[hcsN2,e2];simp only[lenO];omega⟩
    ·have hE0:E = []:=by
      cases E with
      | nil=>rfl
      | cons e0 E0=>simp at hz;omega
     have i1:=nbne_data (hrootH.out hE0);clear hE0;go_wp2_with fail
     go_loopw [70,9] (fun i v wr=>MsRel2 L O w gb d E 200001 (200001-cs+(n-1)) (.slice AE E.length cE) w2.heap.size i v wr) (fun i _ _=>E.length-(intOf i).toNat)
     case atStart=>exact hst0H.out
     case round =>
      clear hst0H;obtain⟨k,b2,of2,n2,c3,td,g2,s2,cg2,cs2,hk,rfl,rfl,hMk,hIk,hmeas,hcsB,hown,hMq⟩:=hrel;have hcsN2:=mapN_of hMk.hs;have hcgC2:cg2≤200001:=Nat.le_trans (small_map hMk.hg hMk.tg fun d hd=>(hIk.inv.gone d hd).2) hCnH.out
      by_cases hlt:k<E.length
      ·obtain⟨e1,he1⟩:∃ e,E[k]? = some e:=⟨E[k]'hlt,List.getElem?_eq_getElem _⟩;have hem:=List.mem_of_getElem? he1;obtain⟨qb,hA⟩:=own_form hown (by omega);subst hA;obtain⟨f0,f1,f2,f3⟩:=cells_Ent hown.slAt he1;have hq:=hMq qb rfl;obtain⟨hd1,hd2⟩:=hEdH.out e1 hem;have hxz:e1.digest.size≤maxLen:=by obtain⟨bb,_,h2⟩:=hd2;rw[h2,digF_size];decide
       obtain⟨xn',xg,xd',xr⟩:=e1;simp only at f0 f1 f2 f3 hd1 hd2 hxz;have g0:wr.cell? ⟨qb,k*4,none⟩=some (.string xn'):=by simpa using f0
       have g1:wr.cell? ⟨qb,k*4+1,none⟩=some (.string xg):=by simpa using f1
       have g2c:wr.cell? ⟨qb,k*4+2,none⟩=some (.bool xd'):=by simpa using f2
       have g3:wr.cell? ⟨qb,k*4+3,none⟩=some (.bool xr):=by simpa using f3
       clear f0 f1 f2 f3;obtain⟨W3,hW3⟩:∃ W,wr.alloc (.cells #[.string xn',.string xg,.bool xd',.bool xr] 73)=W:=⟨_,rfl⟩;have hb13:Below wr.heap.size wr W3:=by rw[← hW3];exact(Below.refl _ _).alloc (Nat.le_refl _) _
       have hz3:Blk W3 wr.heap.size [.string xn',.string xg,.bool xd',.bool xr]:=by rw[← hW3];exact blk_new wr _ _
       have hMW:=hMk.below hb13;have hownW:=hown.below hb13;have hstW:=hstH.out.below hMW.bel;obtain⟨z1,-⟩:=hz3 1 _ rfl;obtain⟨z2,-⟩:=hz3 2 _ rfl;have hrb:wr.heap.size<W3.heap.size:=by rw[← hW3];simp
       obtain⟨xb0,hxb0⟩:∃ b,wr.heap.size=b:=⟨_,rfl⟩;rw[hxb0]at z1 z2 hz3 hrb;have hfd2:=find_ob A m c O xg W3 hstW;obtain⟨hMkH,hIkH,hcsN2H,hownH,hMqH,hqH,he1H,hemH,hd1H,hd2H,hb13H,hz3H,hMWH,hownWH,hstWH,hfd2H⟩:=hq2 hMk (hq2 hIk (hq2 hcsN2 (hqb hown hMq hq he1 (hqc hem hd1 hd2 hb13 hz3 hMW hownW hstW (Lib.hid hfd2)))));clear hMk hIk hcsN2 hown hMq hq he1 hem hd1 hd2 hb13 hz3 hMW hownW hstW hfd2
       cases xd'
       ·go_wp2_with fail;refine hfd2H.out.mono ?_;rintro e w5 ⟨hb5,hans⟩;have hM5:=hMWH.out.below hb5;have hown5:=hownWH.out.below hb5
        rcases hans with ⟨x5,hx5,hxd5,rfl⟩ | ⟨hno5,rfl⟩
        ·have hI5:=hIkH.out.file he1H.out rfl ⟨x5,hx5,hxd5⟩;have R:MsRel2 L O w gb d E 200001 (200001-cs+(n-1)) (.slice (some ⟨qb,0,none⟩) E.length cE) w2.heap.size (.int .i64 ((k:Int)+1)) (.slice (some ⟨b2,of2,none⟩) n2 c3) w5:=⟨k+1,b2,of2,n2,c3,td,g2,s2,cg2,cs2,by omega,by go_num,rfl,hM5,hI5,hmeas,hcsB,hown5,hMqH.out⟩;clear hx5 hxd5;obtain⟨hb5H,hM5H,hown5H,hI5H,RH⟩:=hqb hb5 hM5 hown5 hI5 (Lib.hid R);clear hb5 hM5 hown5 hI5 R;go_wp2_with fail;exact⟨RH.out,by simp[intOf];omega⟩
        ·have hI5:=hIkH.out.lost he1H.out rfl (fun ⟨x,hx,e⟩=>hno5 x hx e) hd2H.out;have hg5:=hM5.hg;have hb5w:xb0<w5.heap.size:=by have:=hb5.size;omega
         have z15:=keepC hb5 z1;clear hno5;obtain⟨hb5H,hM5H,hown5H,hI5H,hg5H⟩:=hqb hb5 hM5 hown5 hI5 (Lib.hid hg5);clear hb5 hM5 hown5 hI5 hg5;go_wp2_with (at_mapUpdate;go_loud (refine wpList_tstore rfl (.tmp 86) (.tmp 88) (.const (.bool true)) 66 rfl Tryz.underlying66 injB rfl hg5H.out (by simp only[maxLen];omega) xg rfl hxz true rfl ?_);intro w6 hm6 hg6;have hm6H:=Lib.hid hm6;clear hm6;have hg6H:=Lib.hid hg6;clear hg6);have hM6:=hM5H.out.gone hm6H.out hg6H.out;have hown6:=hown5H.out.kept hg6H.out (.inr (fun e=>by have e2:some qb=some gb:=e;injection e2 with e2;have:=hqH.out.1;omega)) (fun _ _ h=>h);go_wp2;exact⟨⟨k+1,b2,of2,n2,c3,td,_,s2,_,cs2,by omega,by go_num,rfl,hM6,hI5H.out,hmeas,hcsB,hown6,hMqH.out⟩,by simp[intOf];omega⟩
       ·have hlk:=(hMWH.out.hs.look (t:=66) Tryz.underlying66 (z0:=false) (zeroB W3) injB (x:=xg) hxz).1;obtain⟨sv,hsv⟩:∃ v,(s2 xg).getD false=v:=⟨_,rfl⟩;rw[hsv]at hlk;have hlk:(Instr.lookup 66 (.map (some (gb+1))) (.string xg) false).run Tryz.prog W3 = .ok (.bool sv) W3:=hlk
        cases sv
        ·have hI5:=hIkH.out.fresh he1H.out rfl (hd1H.out rfl);have hs5:=hMWH.out.hs;have hgx:gb+1<xb0:=by have:=hMkH.out.hs.lt;omega
         obtain⟨hI5H,hs5H,hsvH⟩:=hq2 hI5 (hq2 hs5 (Lib.hid hsv));clear hI5 hs5 hsv;go_wp2_with (first | (at_mapUpdate;go_loud (refine wpList_tstore rfl (.tmp 94) (.tmp 96) (.const (.bool true)) 66 rfl Tryz.underlying66 injB rfl hs5H.out (by simp only[maxLen];omega) xg rfl hxz true rfl ?_);intro w6 hm6 hg6;have hfr:=fresh_mem hMWH.out hm6 hg6 hsvH.out hownWH.out hqH.out.1 z1 hgx;obtain⟨hM7,hown7,hc7,z16⟩:=hfr;have hq7H:=Lib.hid hM7.q;have hM7H:=Lib.hid hM7;clear hM7;have hown7H:=Lib.hid hown7;clear hown7;have hc7H:=Lib.hid hc7;clear hc7 hm6 hg6 z1 z2) | (at_builtin;go_loud (refine wpList_push rfl (.tmp 97) (.tmp 100) 33 rfl Tryz.underlying33 elem_StrM rfl hq7H.out ⟨w6.heap.size,0,none⟩ xg rfl hc7H.out ?c1 ?c2 ?_)))
         case c1=>unfold maxLen;omega
         case c2=>omega
         intro b' off' c' w8 hq8 hg8 hb8;replace hb8:b'=b2∨(w6.alloc (.cells #[.string xg] 9)).heap.size≤b':=by simpa using hb8
         have hcs6:cs2+1≤200001:=Nat.le_trans (small_map hM7H.out.hs hM7H.out.ts fun d hd=>by
          obtain⟨n9,l9,h1,h2⟩:=hI5H.out.inv.dir d hd;exact⟨_,(h1.ok hLH.out).cs _ (Cs_self n9 l9),h2⟩) hCnH.out
         have hM8:=hM7H.out.push hq8 hg8 hb8;have hown8:=hown7H.out.kept hg8 (.inr (fun e=>by have e2:some qb=some b2:=e;injection e2 with e2;exact hqH.out.2 e2)) (fun _ _ h=>h);have hMq8:∀ x,(Value.slice (some ⟨qb,0,none⟩) E.length cE).ownBlock=some x→gb+1<x∧x≠b':=fun x hx=>by
          have hx2:some qb=some x:=hx;injection hx2 with hx2;subst hx2;refine⟨hqH.out.1,fun e=>?_⟩
          rcases hb8 with h1 | h1
          ·rw[h1]at e;exact hqH.out.2 e
          ·have:=(hown7H.out.1.lt qb rfl).2;rw[← e]at h1;have h2:qb<(w6.alloc (.cells #[.string xg] 9)).heap.size:=this;omega
         have R:MsRel2 L O w gb d E 200001 (200001-cs+(n-1)) (.slice (some ⟨qb,0,none⟩) E.length cE) w2.heap.size (.int .i64 ((k:Int)+1)) (.slice (some ⟨b',off',none⟩) (n2+1) c') w8:=⟨k+1,b',off',n2+1,c',td ++ [xg],g2,_,cg2,cs2+1,by omega,by go_num,rfl,hM8,hI5H.out,by omega,hcs6,hown8,hMq8⟩;clear hM8 hown8 hMq8 hq8 hg8 hb8;have RH:=Lib.hid R;clear R;go_wp2;exact⟨RH.out,by simp[intOf];omega⟩
        ·have hI5:=hIkH.out.old he1H.out rfl hsv;have R:MsRel2 L O w gb d E 200001 (200001-cs+(n-1)) (.slice (some ⟨qb,0,none⟩) E.length cE) w2.heap.size (.int .i64 ((k:Int)+1)) (.slice (some ⟨b2,of2,none⟩) n2 c3) W3:=⟨k+1,b2,of2,n2,c3,td,g2,s2,cg2,cs2,by omega,by go_num,rfl,hMWH.out,hI5,hmeas,hcsB,hownWH.out,hMqH.out⟩;obtain⟨hI5H,RH⟩:=hq2 hI5 (Lib.hid R);clear hI5 R;go_wp2_with fail;exact⟨RH.out,by simp[intOf];omega⟩
      ·obtain rfl:k=E.length:=by omega
       have hI6:=hIk.done hLH.out hFH.out hinH.out hdirH.out hEH.out.symm hddH.out;have e2:=hcsNH.out;obtain⟨hIkH,hI6H,hownH,hMkH⟩:=hq2 hIk (hq2 hI6 (hq2 hown (Lib.hid hMk)));clear hIk hI6 hown hMk;go_wp2_with fail;exact⟨⟨b2,of2,n2,c3,td,g2,s2,cg2,cs2,rfl,hMkH.out,hI6H.out,by omega⟩,by rw[hcsN2,e2];simp only[lenO];omega⟩
   ·have hI2:=hIH.out.lost hLH.out (fun ⟨x,hx,e⟩=>hno x hx e);have hg2:=hM2.hg;clear hno;obtain⟨hM2H,hI2H,hg2H,hb2H⟩:=hq2 hM2 (hq2 hI2 (hq2 hg2 (Lib.hid hb2)));clear hM2 hI2 hg2 hb2;go_wp2_with (at_mapUpdate;go_loud (refine wpList_tstore rfl (.tmp 49) (.tmp 50) (.const (.bool true)) 66 rfl Tryz.underlying66 injB rfl hg2H.out (by simp only[maxLen];omega) d rfl hdz true rfl ?_);intro w6 hm6 hg6;have hm6H:=Lib.hid hm6;clear hm6;have hg6H:=Lib.hid hg6;clear hg6);have hM6:=hM2H.out.gone hm6H.out hg6H.out;have e1:=mapN_of hM6.hs;have e2:=hcsNH.out;have hM6H:=Lib.hid hM6;clear hM6
    try go_frame
    go_wp2;exact⟨⟨b,off2,n-1,c2-1,t,_,s,_,cs,rfl,hM6H.out,hI2H.out,by omega⟩,by rw[e1,e2];simp only[lenO];omega⟩
  ·obtain rfl:n=0:=by omega
   obtain rfl:td = []:=by
    have:=hM.q.len;exact List.eq_nil_of_length_eq_zero this
   have hgm:=hM.hg;have hbw:=hM.bel;have hgw:=hM.hg.lt;obtain⟨hMH,hIH,hgmH,hbwH,hcsNH⟩:=hqb hM hI hgm hbw (Lib.hid hcsN);clear hM hI hgm hbw hcsN;go_wp2_with (at_range;go_loud (refine wpList_trange rfl (.tmp 103) 66 rfl Tryz.underlying66 rfl hgmH.out ?_);intro w4 hr4 hg4 hs4;have hr4H:=Lib.hid hr4;clear hr4;have hg4H:=Lib.hid hg4;clear hg4)
   try go_frame
   have hb4:Below w.heap.size w w4:=hbwH.out.trans (grown_none hg4H.out hbwH.out.size);have hww:=hbwH.out.size;obtain⟨rb,hrb⟩:∃ b,wr.heap.size=b:=⟨_,rfl⟩;rw[hrb]at hr4H hww;simp only[hrb];have hrbH:=Lib.hid hrb;clear hrb
   go_loopw [19] (fun v wr=>MsRel3 w gb rb cg g v wr) (fun v wr=>wr.rangeLeft gb rb)
   case atStart =>
    refine⟨_,cg,[],none,0,0,rfl,hr4H.out,Own.nil _ _,fun s hs=>⟨(fun h=>by cases h),(fun h=>by have h1:=h.1;rw[h.2]at h1;cases h1)⟩,(fun s hs=>by cases hs),.nil,by simp,hb4,(fun x hx=>by cases hx)⟩
   case round =>
    clear hr4H hg4H hb4;obtain⟨left,cnt,G,A3,n3,cap3,rfl,hr,hown,hmem,hGs,hnd,hcn,hb5,hap⟩:=hrel;have hrl:=hr.left_eq;have hn3:=hown.len;have hb5s:=hb5.size;have hrlt:=hr.lt;obtain⟨hrH,hownH,hmemH,hGsH,hndH,hb5H,hrlH,hapH⟩:=hq2 hr (hq2 hown (hq2 hmem (hqb hGs hnd hb5 hrl (Lib.hid hap))));clear hr hown hmem hGs hnd hb5 hrl hap;go_wp2_with (at_next;go_loud (refine wpList_tnextB rfl (.tmp 104) rfl rfl hrH.out ?_ ?_))
    ·intro hc0 hl0;have hl0H:=Lib.hid hl0;clear hl0;go_wp2_with fail;refine(sort_own A3 n3 cap3 G _ _ hownH.out (by omega)).mono ?_;rintro e w6 ⟨rfl,hown6,hg6⟩;have hb6:Below w.heap.size w w6:=hb5H.out.trans (own_grown hownH.out hg6 hb5s);have hsl:=hown6.slAt;have hlen:=hsl.1;have hmm:∀ d,d∈sortB G↔Tr g d∧d.size≤maxLen:=fun d=>by
      rw[mem_sortB]
      constructor
      ·intro h;have hz:=hGsH.out d h;exact⟨hMH.out.tg d ((hmemH.out d hz).1 h).1,hz⟩
      ·rintro⟨h,hz⟩;refine(hmemH.out d hz).2 ⟨?_,hl0H.out d hz⟩;unfold Tr at h
       cases hg9:g d with
       | none=>rw[hg9]at h;cases h
       | some x=>rfl
     have R:=hZ'H.out (.returned (.tuple #[.slice A3 n3 cap3,.int .i64 0])) w6 ⟨hb6,A3,cap3,sortB G,by rw[hlen],by rw[hlen];exact hsl,(fun d hd=>hIH.out.gone d ((hmm d).1 hd).1),(fun h0=>MsInv.complete hLH.out hIH.out fun d hd=>by
      have hz:d.size≤maxLen:=by obtain⟨_,b0,_,e0⟩:=hIH.out.gone d hd;rw[e0,digF_size];decide
      have:=(hmm d).2 ⟨hd,hz⟩;rw[h0]at this;cases this),by rw[hlen];omega,(sortB_permM G).nodup_iff.2 hndH.out⟩
     clear hown6 hg6 hb6 hsl hlen hmm;have RH:=Lib.hid R;clear R;go_wp2_with fail;exact RH.out
    ·intro tn y w5 cnt5 hgood hleft hfx hr5 hlt5 hg5 hs5 hen;replace hen:(Instr.entry (.pointer (some ⟨rb,0,none⟩))).run Tryz.prog w5 = .ok (.tuple #[.string tn,y]) w5:=hen;have hgd2:tn.size≤maxLen:=hgood;have hb55:Below w.heap.size w w5:=hb5H.out.trans (grown_below hg5 hww hb5s);have hown5:Own RStr 9 w5 w.heap.size (.slice A3 n3 cap3) G:=hownH.out.kept hg5 (by
      cases hv:(Value.slice A3 n3 cap3).ownBlock with
      | none=>exact .inl rfl
      | some g0=>exact .inr (fun e=>by injection e with e;have:=(hapH.out g0 hv).1;omega)) (fun _ _ h=>h)
     have hleft2:∀ s,(left s && !decide (s=tn))=false↔left s=false∨s=tn:=fun s=>by cases hL:left s <;> by_cases e0:s=tn <;> simp[e0]
     have hlr:w5.rangeLeft gb rb<wr.rangeLeft gb rb:=by rw[hr5.left_eq,hrlH.out];exact hlt5
     have hrow5:SlAt RStr (w5.alloc (.cells #[.string tn] 9)) (some ⟨w5.heap.size,0,none⟩) 1 [tn]:=slAt_new (R:=RStr) w5 9 tn hgd2;have hba5:Below w5.heap.size w5 (w5.alloc (.cells #[.string tn] 9)):=(Below.refl _ _).alloc (Nat.le_refl _) _;have hown5a:=hown5.below hba5;have hr5a:=hr5.below hba5;have hw5s:=hb55.size;clear hgood hg5 hs5 hown5;obtain⟨hr5H,hr5aH,hb55H,hown5aH,hleft2H,hlrH,hrow5H,hba5H,hfxH,hleftH⟩:=hq2 hr5 (hqc hr5a hb55 hown5a hleft2 hlr hrow5 hba5 hfx (Lib.hid hleft));clear hr5 hr5a hb55 hown5a hleft2 hlr hrow5 hba5 hfx hleft;go_wp2_with (at_builtin;go_loud (refine wpList_app rfl (.tmp 109) (.tmp 111) 33 rfl Tryz.underlying33 elem_StrM (by decide) rfl hown5aH.out (some ⟨w5.heap.size,0,none⟩) 1 1 [tn] rfl hrow5H.out ?nn ?ok ?c1 ?c2 ?c3 (n3+1) ?c4 ?_))
     case nn=>intro h;cases h
     case ok=>exact fun _ _ _ _ h=>h
     case c1=>unfold maxLen;omega
     case c2=>omega
     case c3=>simp;omega
     case c4=>omega
     intro A' c' w8 hown8 hg8 hat8 hb8;have hg8r:w5.grownBy w8 (Value.slice A3 n3 cap3).ownBlock:=by
      refine⟨hg8.os,hg8.tape,hg8.output,by have:=hg8.size;simp at this;omega,fun k hk hne=>(hg8.block k (by simp;omega) hne).trans (hba5H.out.block k hk)⟩
     have hr8:=hr5H.out.kept hg8r (fun e=>by have:=(hapH.out gb e.symm).2;omega) (fun e=>by have:=(hapH.out rb e.symm).1;omega);have hb8':Below w.heap.size w w8:=(hb55H.out.trans (hba5H.out.mono hw5s)).trans hb8;have hlr8:w8.rangeLeft gb rb<wr.rangeLeft gb rb:=by rw[hr8.left_eq,hrlH.out];exact hlt5
     have hap8:∀ x,(Value.slice A' (n3+1) c').ownBlock=some x→rb<x∧gb<x:=fun x hx=>by
      rcases hat8 with h1 | h1
      ·rw[h1]at hx;exact hapH.out x hx
      ·rw[h1]at hx;have hx2:w5.heap.size+1=x:=Option.some.inj hx;have h3:=hr5H.out.lt;have h4:=hr5H.out.ltb;omega
     have R:MsRel3 w gb rb cg g (.slice A' (n3+1) c') w8:=by
      refine⟨_,cnt5,G ++ [tn],A',n3+1,c',rfl,hr8,hown8,fun s hs=>?_,fun s hs=>?_,nodup_snoc hndH.out fun h=>?_,by simp;omega,hb8',hap8⟩
      ·rw[hleft2H.out s,List.mem_append,List.mem_singleton]
       constructor
       ·rintro(h | h)
        ·have h1:=(hmemH.out s hs).1 h;exact⟨h1.1,.inl h1.2⟩
        ·subst h;exact⟨hfxH.out,.inr rfl⟩
       ·rintro⟨h1,h2 | h2⟩
        ·exact .inl ((hmemH.out s hs).2 ⟨h1,h2⟩)
        ·exact .inr h2
      ·rcases List.mem_append.1 hs with h | h
       ·exact hGsH.out s h
       ·rw[List.mem_singleton.1 h];exact hgd2
      ·have h1:=((hmemH.out tn hgd2).1 h).2;rw[hleftH.out]at h1
       cases h1
     clear hg8r hr8 hb8' hap8 hown8 hg8 hat8 hb8;have RH:=Lib.hid R;clear R;go_wp2;exact⟨RH.out,hlr8⟩
end Go.Proofs.YtpdjjjiknijpkaaGreatDoor.C10
namespace Go.Proofs.YtpdjjjiknijpkaaGreatDoor.C10
open Go.ChangeShapes Go.WideShapes Go.Deep Go.RowKit Go.Lib
theorem le_of_cmp {a b:ByteArray} (h:cmpS a b≤0):a.data.toList≤b.data.toList:=by
 rw[← List.not_lt];intro hlt;have h1:Op.bytesLess b.data.toList a.data.toList=true:=by rw[bytesLess_eq,decide_eq_true_iff];exact hlt
 rw[less_cmpB,decide_eq_true_iff]at h1;have h2:cmpS b a = -1:=h1;rw[cmpS_swap]at h2;omega
def FoAns (L:List TFi) (w:World) (e:Ending) (w':World):Prop :=
 Below w.heap.size w w'∧∃ (A:Option Addr) (c:Nat) (F:List File),e = .returned (.tuple #[.slice A F.length c,.int .i64 0])∧SlAt RFile w' A F.length F∧F.map tfOf=L
theorem treeOk {l:List File} (h:FilesX l):TreeOk (l.map tfOf):=by
 have hrow:∀ y∈l,pathB y.path=true∧y.bytes.l.length≤100000:=fun y hy=>by
  obtain⟨j,hj,rfl⟩:=List.mem_iff_getElem.1 hy;exact h.row j _ (List.getElem?_eq_getElem hj)
 refine⟨wf_of h,fun f hf=>?_,by rw[List.length_map];exact h.len,fun f hf=>?_⟩
 ·obtain⟨y,hy,rfl⟩:=List.mem_map.1 hf;have:=pathB_le (hrow y hy).1;rw[Lib.size_eq]at this;exact this
 ·obtain⟨y,hy,rfl⟩:=List.mem_map.1 hf;exact(hrow y hy).2
theorem filesOf_any (l0:List File) (hX:FilesX l0) (hF:Faith (Cs 200 (l0.map tfOf))) (O:List ObT) (hgd:Good (l0.map tfOf) O) (hco:Complete (l0.map tfOf) O) (A:Option Addr) (m c:Nat) (w:World) (hmx:MaxLenAt w) (hst:Store w A m O) :
  Calls Tryz.prog 10 #[.string (digF (TD 200 (l0.map tfOf))),.slice A m c] w (FoAns (l0.map tfOf) w):=by
 obtain⟨L,hLe⟩:∃ L,l0.map tfOf=L:=⟨_,rfl⟩;have hT:=treeOk hX;rw[hLe]at hF hgd hco hT ⊢;obtain⟨Z,hZ⟩:∃ Z,FoAns L w=Z:=⟨_,rfl⟩;have hZ':∀ e W,FoAns L w e W→Z e W:=fun e W h=>by rw[← hZ];exact h
 rw[hZ];clear hZ;obtain⟨rt,hrt⟩:∃ r,digF (TD 200 L)=r:=⟨_,rfl⟩;have hdg:digB rt=true:=by rw[← hrt];exact digB_digT _
 have hdir:=fun w0 rb v F w9 h1 h2 h3 h4=>rdir_all L hT hF O hgd hco 199 L ⟨#[]⟩ w0 rb A m c v F w9 .root (fun _=>rfl) (fun f hf=>by have:=hT.path f hf;show 0+f.path.length≤200;omega) (Nat.zero_le _) h1 h2 h3 h4;rw[show digF (TD (199+1) L)=rt from hrt]at hdir;rw[hrt];obtain⟨hZ'H,hmxH,hstH,hgdH,hcoH,hTH,hFH,hrtH,hdgH,hdirH,hLeH,hXH⟩:=hq2 hZ' (hq2 hmx (hq2 hst (hqc hgd hco hT hF hrt hdg hdir hLe (Lib.hid hX))));clear hZ' hmx hst hgd hco hT hF hrt hdg hdir hLe hX;go_enter Tryz.func10,Tryz.ntmps10;go_wp2_with fail;refine(checkRoot_any A m c O rt w hstH.out hdgH.out).mono ?_;rintro e w1 ⟨rfl,hb1⟩;obtain⟨W2,hW2⟩:∃ W,w1.alloc (.cells #[.slice A m c,.slice none 0 0] 91)=W:=⟨_,rfl⟩;have hb12:Below w1.heap.size w1 W2:=by rw[← hW2];exact(Below.refl _ _).alloc (Nat.le_refl _) _
 have hz2:Blk W2 w1.heap.size [.slice A m c,.slice none 0 0]:=by rw[← hW2];exact blk_new w1 _ _
 have hM2:RdM w w1.heap.size A m c (.slice none 0 0) [] W2:=⟨hz2,Own.nil _ _,(fun x hx=>by cases hx),hb1.trans (hb12.mono hb1.size),hb1.size⟩;obtain⟨rb,hrb⟩:∃ b,w1.heap.size=b:=⟨_,rfl⟩;rw[hrb]at hM2 hz2;have hd2:=hdirH.out w rb (.slice none 0 0) [] W2 (by show 0+L.length≤1000;have:=hTH.out.cnt;omega) hstH.out hmxH.out hM2;obtain⟨hb1H,hb12H,hz2H,hM2H,hd2H⟩:=hqb hb1 hb12 hz2 hM2 (Lib.hid hd2);clear hb1 hb12 hz2 hM2 hd2;go_wp2_with fail;refine hd2H.out.mono ?_;rintro e w3 ⟨v3,F3,rfl,hM3,hF3,-,-⟩;obtain⟨A3,c3,hv3⟩:=hM3.own.form;subst hv3;obtain⟨r1,-⟩:=hM3.blk 1 _ rfl;have hpm:=outF_perm 200 [] L hTH.out.wf hTH.out.path;rw[pathF_nil]at hpm;have hF3':F3.map tfOf=outF 200 [] L:=by rw[hF3];rfl
 have hF3n:F3.length≤1000:=by
  have h1:=congrArg List.length hF3';rw[List.length_map,hpm.length_eq]at h1;have:=hTH.out.cnt;omega
 have hsr:=sortFi_any A3 F3.length c3 F3 w3 (rb+1) hM3.own (by omega);obtain⟨hM3H,hF3H,hpmH,hF3'H,hsrH⟩:=hqb hM3 hF3 hpm hF3' (Lib.hid hsr);clear hM3 hF3 hpm hF3' hsr;go_wp2_with fail;refine hsrH.out.mono ?_;rintro e w4 ⟨rfl,P,hp,hso,hown4,hg4⟩;have hlt3:=hM3H.out.lt;have hrb3:rb<w3.heap.size:=hM3H.out.blk.lt (by simp);have r14:w4.cell? ⟨rb,1,none⟩=some (.slice A3 F3.length c3):=hg4.cell r1 (fun e=>by have e2:some rb=(Value.slice A3 F3.length c3).ownBlock:=e;have:=(hlt3 rb e2.symm).1;omega);have hPl:P.length=F3.length:=hp.length_eq;have hPt:P.map tfOf=L:=by
  refine sorted_files hTH.out.wf ((hp.map tfOf).trans ?_) ?_
  ·rw[hF3'H.out];exact hpmH.out
  ·rw[List.pairwise_map];exact hso.imp fun h=>le_of_cmp h
 have hPx:FilesX P:=hXH.out.congr (by rw[hPt,hLeH.out]);have hPok:∀ x∈P,RFile.ok w4 x:=fun x hx=>by
  have h1:=hM3H.out.el x (hp.mem_iff.1 hx);have h2:=sl_grown h1.1 hg4 (h1.2.ne fun _ _=>Nat.zero_le _);obtain⟨j,hj,rfl⟩:=List.mem_iff_getElem.1 hx;have h3:=pathB_le (hPx.row j _ (List.getElem?_eq_getElem hj)).1;exact⟨Nat.le_trans h3 (by decide),trivial,h2⟩
 have hsl:=slAt_fv hown4.slAt hPok;have hb04:Below w.heap.size w w4:=(hM3H.out.bel).grown hg4 hM3H.out.bel.size fun k hk=>by have:=(hlt3 k hk).1;have:=hM3H.out.rb;omega
 have hck:=checkFiles_x A3 F3.length c3 P w4 (hmxH.out.below hb04) hsl;clear hown4 hso hg4 hPok r1 hlt3;obtain⟨hpH,hPtH,hPxH,hslH,hb04H,hckH⟩:=hq2 hp (hqb hPt hPx hsl hb04 (Lib.hid hck));clear hp hPt hPx hsl hb04 hck;go_wp2_with fail;refine hckH.out.mono ?_;rintro e w5 ⟨k5,rfl,hb5,hk5⟩;obtain rfl:k5=0:=hk5.2 hPxH.out;have r15:=keepC hb5 r14;have R:=hZ'H.out (.returned (.tuple #[.slice A3 F3.length c3,.int .i64 0])) w5 ⟨hb04H.out.trans (hb5.mono hb04H.out.size),A3,c3,P,by rw[hPl],by rw[hPl];exact hslH.out.below hb5,hPtH.out⟩;clear hk5 r14 hPl;obtain⟨hb5H,RH⟩:=hq2 hb5 (Lib.hid R);clear hb5 R;go_wp2_with fail;exact RH.out
end Go.Proofs.YtpdjjjiknijpkaaGreatDoor.C10