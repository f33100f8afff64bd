/-
 Several texts of mine as one, without what is not wanted here: XR1T, XR1C.
-/
import Derived.Test.YtpdjjjiknijpkaaGreatDoorTvLC10
set_option linter.unusedVariables false
set_option linter.unusedSimpArgs false
set_option maxRecDepth 100000
set_option maxHeartbeats 8000000
namespace Go.Proofs.YtpdjjjiknijpkaaGreatDoor.C10
open Go.ChangeShapes Go.WideShapes Go.Deep Go.RowKit Go.Lib
theorem wf_path {P:PartT} {l:List TFi} (h:WF P l) {a b:TFi} (ha:a∈l) (hb:b∈l) (he:a.path=b.path):a=b:=by
 obtain⟨i,hi,rfl⟩:=List.getElem_of_mem ha;obtain⟨j,hj,rfl⟩:=List.getElem_of_mem hb;have hpw:=List.pairwise_iff_getElem.1 h.ord
 rcases Nat.lt_trichotomy i j with e | e | e
 ·have:=hpw i j hi hj e;rw[he]at this;exact absurd this (blt_irrefl _)
 ·subst e;rfl
 ·have:=hpw j i hj hi e;rw[he]at this;exact absurd this (blt_irrefl _)
def NdAns1 (l:List File) (y:TN) (w:World) (e:Ending) (w':World):Prop :=
 Below w.heap.size w w'∧∃ (A:Option Addr) (n c:Nat) (G:List File) (b:Bool),e = .returned (.tuple #[.slice A n c,.bool b])∧(RSl RFile).ok w' ⟨A,n,c,G⟩ ∧
  ((∃ f x,y.file=some f∧b=false∧G = [x]∧tfOf x=f)∨(y.file=none∧b=true∧G.map tfOf=y.sub))∧∀ g∈G,∃ z∈l,g.bytes=z.bytes
theorem below_node {l:List File} (hw:WF partT (l.map tfOf)) {y:TN} (hy:y∈nodesS (l.map tfOf)) {nm:ByteArray} (hn:nm.data.toList=y.name) {w w':World} {e:Ending} (h:BlAns nm l w e w'):NdAns1 l y w e w':=by
 have hy':=nodesS_mem.1 hy;obtain⟨hb,h⟩:=h;refine⟨hb,?_⟩
 cases hf:y.file with
 | some f =>
  obtain⟨h1,h2,_⟩:=bel_file hw hy' hf;obtain⟨x0,hx0,e0⟩:=List.mem_map.1 h1;have hp0:x0.path=nm:=bytes_ext (by rw[hn,← h2,← e0];rfl)
  rcases h with ⟨x,hx,A,c,hxp,rfl,hok⟩ | ⟨hno,_⟩
  ·refine⟨A,1,c,[x],false,rfl,hok,.inl ⟨f,x,rfl,rfl,rfl,?_⟩,fun g hg=>⟨x,hx,by rw[List.mem_singleton.1 hg]⟩⟩;exact wf_path hw (List.mem_map.2 ⟨x,hx,rfl⟩) h1 (by rw[h2,← hn,← hxp];rfl)
  ·exact absurd hp0 (hno x0 hx0)
 | none =>
  obtain⟨h1,h2⟩:=belF_dir hw hy' hf
  rcases h with ⟨x,hx,A,c,hxp,rfl,hok⟩ | ⟨_,A,n,c,G,rfl,hok,hG,hz⟩
  ·exact absurd (by rw[← hn,← hxp];rfl) (h2 (tfOf x) (List.mem_map.2 ⟨x,hx,rfl⟩))
  ·exact⟨A,n,c,G,true,rfl,hok,.inr ⟨rfl,rfl,by rw[hG,hn,h1]⟩,hz⟩
def RtHyp (N:Nat):Prop:=∀ (A:Option Addr) (m c:Nat) (l:List File) (w:World),MaxLenAt w→(RSl RFile).ok w ⟨A,m,c,l⟩→m≤1000→(∀ y∈l,y.path.size≤N+1)→(∀ y∈l,y.bytes.l.length≤100000)→WF partT (l.map tfOf) →
 Calls Tryz.prog 50 #[.slice A m c] w fun e w'=>e = .returned (.string (bsOf (TD (N+1) (l.map tfOf))))∧Below w.heap.size w w'
def RtxRel (rec:List TFi→Byt) (Y:List TN) (w:World) (v i:Value) (wr:World):Prop :=
 ∃ k:Nat,k≤Y.length∧i = .int .i64 k∧v = .string (bsOf ((Y.take k).flatMap (lineX rec)))∧Below w.heap.size w wr
theorem bsOf_app (a b:Byt):bsOf (a++b)=bsOf a++bsOf b:=bytes_ext (by rw[data_bsOf,ByteArray.data_append,Array.toList_append,data_bsOf,data_bsOf])
theorem bsOf_eq {s:ByteArray} {l:Byt} (h:s.data.toList=l):bsOf l=s:=by rw[← h,bsOf_data]
theorem size_bsOf (l:Byt):(bsOf l).size=l.length:=by rw[Lib.size_eq,data_bsOf]
def lnR (nm:ByteArray) (zl:Byt) (rs:ByteArray):ByteArray:=(⟨#[102,105,108,101,32]⟩:ByteArray)++nm++⟨#[32]⟩++digF zl++rs
def rsR (r:Bool):ByteArray:=if r=true then ⟨#[32,120,10]⟩ else ⟨#[32,45,10]⟩
theorem lnR_line (rec:List TFi→Byt) {y:TN} {f:TFi} (hf:y.file=some f) {nm:ByteArray} (hn:nm.data.toList=y.name):(lnR nm f.bs (rsR f.run)).data.toList=lineX rec y:=by
 unfold lineX lnR rsR;rw[hf,← hn]
 cases hr:f.run <;> simp[ByteArray.data_append,sFile,dgB,hr]
theorem lnD_line (rec:List TFi→Byt) {y:TN} (hf:y.file=none) {nm:ByteArray} (hn:nm.data.toList=y.name):(lnD nm (rec y.sub)).data.toList=lineX rec y:=by
 rw[lnD_data,hn];unfold lineX;rw[hf]
theorem rtext_step (N:Nat) (hN:N≤199) (ih:∀ M,N=M+1→RtHyp M):RtHyp N:=by
 intro A m c l w hmx hl hm hsz hbs hw;obtain⟨Y,hY⟩:∃ Y,nodesS (l.map tfOf)=Y:=⟨_,rfl⟩;obtain⟨T,hT⟩:∃ T,bsOf (TD (N+1) (l.map tfOf))=T:=⟨_,rfl⟩;have hTD:TD (N+1) (l.map tfOf)=Y.flatMap (lineX (TD N)):=by rw[← hY];rfl
 rw[hT];obtain⟨Z,hZ⟩:∃ Z:Ending→World→Prop,(fun e w'=>e = .returned (.string T)∧Below w.heap.size w w')=Z:=⟨_,rfl⟩;have hZ':∀ e W,(e = .returned (.string T)∧Below w.heap.size w W)→Z e W:=fun e W h=>by rw[← hZ];exact h
 rw[hZ];clear hZ;have hsz2:∀ y∈l,y.path.size≤1000:=fun y hy=>by have:=hsz y hy;omega
 have hYl:Y.length≤1000:=by
  rw[← hY,(nodesS_perm _).length_eq];have h1:=grp_count (l.map tfOf);rw[List.length_map]at h1;have h2:l.length=m:=hl.1.1;omega
 have hpl:∀ f∈l.map tfOf,f.path.length≤N+1:=fun f hf=>by
  obtain⟨x,hx,rfl⟩:=List.mem_map.1 hf;have:=hsz x hx;rw[Lib.size_eq]at this;exact this
 have hnl:∀ y∈Y,y.name.length≤200:=fun y hy=>by
  rw[← hY]at hy;have:=name_len (nodesS_mem.1 hy) hpl;omega
 obtain⟨hZ'H,hmxH,hlH,hszH,hsz2H,hbsH,hwH,hYH,hTH,hTDH,hplH,hnlH,ihH⟩:=hqb hZ' hmx hl hsz (hqc hsz2 hbs hw hY hT hTD hpl hnl (Lib.hid ih));clear hZ' hmx hl hsz hsz2 hbs hw hY hT hTD hpl hnl ih;go_enter Tryz.func50,Tryz.ntmps50;go_wp2_with fail;refine(names_any A m c l w hmxH.out hlH.out.1 hm hsz2H.out hwH.out).mono ?_;rintro e w1 ⟨AO,cO,vM,O,rfl,hO,hown,hb1⟩;rw[hYH.out]at hO;have hOl:O.length=Y.length:=by have:=congrArg List.length hO;simpa using this
 have hst:RtxRel (TD N) Y w1 (.string ⟨#[]⟩) (.int .i64 0) w1:=⟨0,Nat.zero_le _,rfl,rfl,Below.refl _ _⟩;obtain⟨hOH,hownH,hb1H,hstH⟩:=hq2 hO (hq2 hown (hq2 hb1 (Lib.hid hst)));clear hO hown hb1 hst;go_wp2_with fail
 go_loopw [3,6] (fun v i wr=>RtxRel (TD N) Y w1 v i wr) (fun _ i _=>O.length-(intOf i).toNat)
 case atStart=>exact hstH.out
 case round =>
  clear hstH;obtain⟨k,hk,rfl,rfl,hb⟩:=hrel
  by_cases hlt:k<O.length
  ·obtain⟨nm,hnm⟩:∃ s,O[k]? = some s:=⟨O[k]'hlt,List.getElem?_eq_getElem _⟩;obtain⟨y,hyk⟩:∃ y,Y[k]? = some y:=⟨Y[k]'(by omega),List.getElem?_eq_getElem _⟩;have hym:=List.mem_of_getElem? hyk;have hny:nm.data.toList=y.name:=by
    have h1:=congrArg (fun q=>q[k]?) hOH.out;simp only[List.getElem?_map,hnm,hyk,Option.map_some]at h1;exact Option.some.inj h1
   have hnz:nm.size≤200:=by rw[Lib.size_eq,hny];exact hnlH.out y hym
   obtain⟨g1,hA⟩:=own_form hownH.out (by omega);subst hA;have hownr:=hownH.out.below hb;have c0:wr.cell? ⟨g1,k,none⟩=some (.string nm):=by simpa using cell_Str hownr.slAt hnm
   have hb0r:=hb1H.out.trans (hb.mono hb1H.out.size);have hlr:=(RSl RFile).mono _ _ _ hb0r hlH.out;have hbl:=below_any A m c l nm wr hlr.1 hm (by omega) hsz2H.out;obtain⟨S0,hS0⟩:∃ S,bsOf ((Y.take k).flatMap (lineX (TD N)))=S:=⟨_,rfl⟩;have hS0z:S0.size≤225000:=by
    rw[← hS0,size_bsOf];have h1:=flat_len (TD N) 200 (Y.take k) (fun y hy=>hnlH.out y (List.mem_of_mem_take hy));have h2:(Y.take k).length≤1000:=by rw[List.length_take];omega
    have h3:(200+25)*(Y.take k).length≤(200+25)*1000:=Nat.mul_le_mul_left _ h2;omega
   rw[hS0];have hmxr:=hmxH.out.below hb0r;have hyw:y∈nodesS (l.map tfOf):=by rw[hYH.out];exact hym
   have hTk:∀ ln:ByteArray,ln.data.toList=lineX (TD N) y→S0++ln=bsOf ((Y.take (k+1)).flatMap (lineX (TD N))):=fun ln hln=>by
    rw[List.take_add_one,hyk,List.flatMap_append,bsOf_app,hS0]
    congr 1
    simp[hln,bsOf_eq hln]
   obtain⟨hnmH,hykH,hymH,hnyH,hownrH,hb0rH,hlrH,hblH,hS0H,hbH,hmxrH,hywH,hTkH⟩:=hqb hnm hyk hym hny (hqc hownr hb0r hlr hbl hS0 hb hmxr hyw (Lib.hid hTk));clear hnm hyk hym hny hownr hb0r hlr hbl hS0 hb hmxr hyw hTk;go_wp2_with fail;refine hblH.out.mono ?_;intro e w2 hbl2;obtain⟨hb2,AG,nG,cG,G,bG,rfl,hG,hcase,-⟩:=below_node hwH.out hywH.out hnyH.out hbl2;have c02:=keepC hb2 c0;clear hbl2 c0;have hbr2:Below w1.heap.size w1 w2:=hbH.out.trans (hb2.mono hbH.out.size);have hmx2:=hmxrH.out.below hb2
   rcases hcase with ⟨f,x,hf,rfl,rfl,hxf⟩ | ⟨hf,rfl,hsub⟩
   ·have hn1:nG=1:=hG.1.1.symm;subst hn1;obtain⟨b2,o2,hA2,_⟩:=hG.1.2.1 (show 0<1 by decide);have hA2:AG=some ⟨b2,o2,none⟩:=hA2;subst hA2;obtain⟨-,d1,d2⟩:=cells_File (k:=0) hG.1 rfl;have hxok:RFile.ok w2 x:=hG.1.2.2 x List.mem_cons_self;have hxm:x.bytes.l.length≤100000:=by
     have h1:=(bel_file hwH.out (nodesS_mem.1 hywH.out) hf).1;obtain⟨x0,hx0,e0⟩:=List.mem_map.1 h1;have h2:=hbsH.out x0 hx0;have h3:x0.bytes.l=x.bytes.l:=by have:=congrArg TFi.bs (e0.trans hxf.symm);exact this
     rw[← h3];exact h2
    have hfe:f.bs=x.bytes.l∧f.run=x.run:=by rw[← hxf];exact⟨rfl,rfl⟩
    obtain⟨xp,xr,⟨xA,xn,xc,xl⟩⟩:=x;simp only at d1 d2 hxm hfe;have d1:w2.cell? ⟨b2,o2+1,none⟩=some (.bool xr):=by simpa using d1
    have d2:w2.cell? ⟨b2,o2+2,none⟩=some (.slice xA xn xc):=by simpa using d2
    have hxn:xn≤100000:=by have h1:xl.length=xn:=hxok.2.2.1.1;omega
    obtain⟨dg,hdg⟩:∃ d,digF xl=d:=⟨_,rfl⟩;have hdz:dg.size=16:=by rw[← hdg];exact digF_size _
    have hrd:=fun W (h:SlAt RU8 W xA xn xl)=>rdig_any xA xn xc xl W h (by omega);rw[hdg]at hrd;have hsu:=hxok.2.2.1.below (Below.refl w2.heap.size w2).drew;have q1:¬ 9223372036854775807<5+nm.size:=by omega
    have q2:¬ 9223372036854775807<5+nm.size+1:=by omega
    have q3:¬ 9223372036854775807<5+nm.size+1+16:=by omega
    have q4:¬ 9223372036854775807<5+nm.size+1+16+3:=by omega
    have q5:¬ 9223372036854775807<S0.size+(5+nm.size+1+16+3):=by omega
    have hlnl:lnR nm xl (rsR xr)=(⟨#[102,105,108,101,32]⟩:ByteArray)++nm++⟨#[32]⟩++dg++rsR xr:=by unfold lnR;rw[hdg]
    have hT2:=hTkH.out (lnR nm xl (rsR xr)) (by have:=lnR_line (TD N) hf hnyH.out;rw[hfe.1,hfe.2]at this;exact this);rw[hlnl]at hT2;have R:RtxRel (TD N) Y w1 (.string (S0++((⟨#[102,105,108,101,32]⟩:ByteArray)++nm++⟨#[32]⟩++dg++rsR xr))) (.int .i64 ((k:Int)+1)) w2.drew:=⟨k+1,by omega,by go_num,by rw[hT2],hbr2.drew⟩;clear hlnl hT2 hfe
    cases xr
    ·unfold rsR at R;simp only[Bool.false_eq_true,if_false]at R;obtain⟨hb2H,hGH,hfH,hxfH,hxokH,hdgH,hrdH,hsuH,hbr2H,hmx2H,RH⟩:=hq2 hb2 (hq2 hG (hqc hf hxf hxok hdg hrd hsu hbr2 hmx2 (Lib.hid R)));clear hb2 hG hf hxf hxok hdg hrd hsu hbr2 hmx2 R;go_wp2_with fail;refine startR (R:=Rk (fun _=>True) (fun V=>V.cell? ⟨g1,k,none⟩=some (.string nm)∧V.cell? ⟨b2,o2+2,none⟩=some (.slice xA xn xc)) 99 99) (by kernel_rfl) ?_;have hC:w2.drew.cell? ⟨g1,k,none⟩=some (.string nm)∧w2.drew.cell? ⟨b2,o2+2,none⟩=some (.slice xA xn xc):=⟨c02,d2⟩;refine takeC (i:=0) (d:=some 49) (v:=?_) rfl rfl (by kernel_rfl) (by kernel_rfl) (by kernel_rfl) (by kernel_rfl) (fun _ _ _ h=>h) (Or.inl ⟨by rfl,?_⟩) hC ?_
     rotate_left
     ·(intro w hSw;(try dsimp only at hSw);go_simp;(try with_reducible rfl))
     (try simp only[Act.put,List.setIfInBounds_toArray,List.set_cons_zero,List.set_cons_succ])
     refine takeC (i:=1) (d:=some 50) (v:=?_) rfl rfl (by kernel_rfl) (by kernel_rfl) (by kernel_rfl) (by kernel_rfl) (fun _ _ _ h=>h) (Or.inl ⟨by rfl,?_⟩) hC ?_
     rotate_left
     ·(intro w hSw;(try dsimp only at hSw);go_simp;(try with_reducible rfl))
     (try simp only[Act.put,List.setIfInBounds_toArray,List.set_cons_zero,List.set_cons_succ])
     refine takeC (i:=2) (d:=some 51) (v:=?_) rfl rfl (by kernel_rfl) (by kernel_rfl) (by kernel_rfl) (by kernel_rfl) (fun _ _ _ h=>h) (Or.inl ⟨by rfl,?_⟩) hC ?_
     rotate_left
     ·(intro w hSw;(try dsimp only at hSw);go_simp;(try with_reducible rfl))
     (try simp only[Act.put,List.setIfInBounds_toArray,List.set_cons_zero,List.set_cons_succ])
     refine takeC (i:=3) (d:=some 52) (v:=?_) rfl rfl (by kernel_rfl) (by kernel_rfl) (by kernel_rfl) (by kernel_rfl) (fun _ _ _ h=>h) (Or.inl ⟨by rfl,?_⟩) hC ?_
     rotate_left
     ·(intro w hSw;(try dsimp only at hSw);go_simp;(try with_reducible rfl))
     (try simp only[Act.put,List.setIfInBounds_toArray,List.set_cons_zero,List.set_cons_succ])
     refine takeC (i:=4) (d:=some 53) (v:=?_) rfl rfl (by kernel_rfl) (by kernel_rfl) (by kernel_rfl) (by kernel_rfl) (fun _ _ _ h=>h) (Or.inl ⟨by rfl,?_⟩) hC ?_
     rotate_left
     ·(intro w hSw;(try dsimp only at hSw);go_simp;(try with_reducible rfl))
     (try simp only[Act.put,List.setIfInBounds_toArray,List.set_cons_zero,List.set_cons_succ])
     refine takeC (i:=5) (d:=some 54) (v:=?_) rfl rfl (by kernel_rfl) (by kernel_rfl) (by kernel_rfl) (by kernel_rfl) (fun _ _ _ h=>h) (Or.inl ⟨by rfl,?_⟩) hC ?_
     rotate_left
     ·(intro w hSw;(try dsimp only at hSw);go_simp;(try with_reducible rfl))
     (try simp only[Act.put,List.setIfInBounds_toArray,List.set_cons_zero,List.set_cons_succ])
     refine takeC (i:=6) (d:=some 55) (v:=?_) rfl rfl (by kernel_rfl) (by kernel_rfl) (by kernel_rfl) (by kernel_rfl) (fun _ _ _ h=>h) (Or.inl ⟨by rfl,?_⟩) hC ?_
     rotate_left
     ·(intro w hSw;(try dsimp only at hSw);go_simp;(try with_reducible rfl))
     (try simp only[Act.put,List.setIfInBounds_toArray,List.set_cons_zero,List.set_cons_succ])
     refine takeC (i:=7) (d:=some 56) (v:=?_) rfl rfl (by kernel_rfl) (by kernel_rfl) (by kernel_rfl) (by kernel_rfl) (fun _ _ _ h=>h) (Or.inl ⟨by rfl,?_⟩) hC ?_
     rotate_left
     ·(intro w hSw;(try dsimp only at hSw);go_simp;(try with_reducible rfl))
     (try simp only[Act.put,List.setIfInBounds_toArray,List.set_cons_zero,List.set_cons_succ])
     refine takeC (i:=8) (d:=some 57) (v:=?_) rfl rfl (by kernel_rfl) (by kernel_rfl) (by kernel_rfl) (by kernel_rfl) (fun _ _ _ h=>h) (Or.inl ⟨by rfl,?_⟩) hC ?_
     rotate_left
     ·(intro w hSw;(try dsimp only at hSw);go_simp;(try with_reducible rfl))
     (try simp only[Act.put,List.setIfInBounds_toArray,List.set_cons_zero,List.set_cons_succ])
     refine takeC (i:=9) (d:=some 58) (v:=?_) rfl rfl (by kernel_rfl) (by kernel_rfl) (by kernel_rfl) (by kernel_rfl) (fun _ _ _ h=>h) (Or.inl ⟨by rfl,?_⟩) hC ?_
     rotate_left
     ·(intro w hSw;(try dsimp only at hSw);go_simp;(try with_reducible rfl))
     (try simp only[Act.put,List.setIfInBounds_toArray,List.set_cons_zero,List.set_cons_succ])
     refine takeC (i:=10) (d:=some 59) (v:=?_) rfl rfl (by kernel_rfl) (by kernel_rfl) (by kernel_rfl) (by kernel_rfl) (fun _ _ _ h=>h) (Or.inl ⟨by rfl,?_⟩) hC ?_
     rotate_left
     ·(intro w hSw;(try dsimp only at hSw);go_simp;(try with_reducible rfl))
     (try simp only[Act.put,List.setIfInBounds_toArray,List.set_cons_zero,List.set_cons_succ])
     refine takeC (i:=13) (d:=some 62) (v:=?_) rfl rfl (by kernel_rfl) (by kernel_rfl) (by kernel_rfl) (by kernel_rfl) (fun _ _ _ h=>h) (Or.inl ⟨by rfl,?_⟩) hC ?_
     rotate_left
     ·(intro w hSw;(try dsimp only at hSw);go_simp;(try with_reducible rfl))
     (try simp only[Act.put,List.setIfInBounds_toArray,List.set_cons_zero,List.set_cons_succ])
     refine oneR (i:=11) (by kernel_rfl) rfl (fun K hK=>?_);go_simp;go_at_call 48;refine(hrdH.out _ hsuH.out).mono ?_;rintro e w9 ⟨rfl,rfl⟩;refine hK.out _ _ ⟨fun _ _ _=>trivial,fun _ _=>hC⟩ ?_;clear hK K
     (try simp only[Act.put,List.setIfInBounds_toArray,List.set_cons_zero,List.set_cons_succ])
     refine takeC (i:=12) (d:=some 61) (v:=?_) rfl rfl (by kernel_rfl) (by kernel_rfl) (by kernel_rfl) (by kernel_rfl) (fun _ _ _ h=>h) (Or.inl ⟨by rfl,?_⟩) hC ?_
     rotate_left
     ·(intro w hSw;(try dsimp only at hSw);go_simp;(try with_reducible rfl))
     (try simp only[Act.put,List.setIfInBounds_toArray,List.set_cons_zero,List.set_cons_succ])
     refine takeC (i:=14) (d:=some 63) (v:=?_) rfl rfl (by kernel_rfl) (by kernel_rfl) (by kernel_rfl) (by kernel_rfl) (fun _ _ _ h=>h) (Or.inl ⟨by rfl,?_⟩) hC ?_
     rotate_left
     ·(intro w hSw;(try dsimp only at hSw);go_simp;(try with_reducible rfl))
     (try simp only[Act.put,List.setIfInBounds_toArray,List.set_cons_zero,List.set_cons_succ])
     refine takeC (i:=15) (d:=some 64) (v:=?_) rfl rfl (by kernel_rfl) (by kernel_rfl) (by kernel_rfl) (by kernel_rfl) (fun _ _ _ h=>h) (Or.inl ⟨by rfl,?_⟩) hC ?_
     rotate_left
     ·(intro w hSw;(try dsimp only at hSw);go_simp;(try with_reducible rfl))
     (try simp only[Act.put,List.setIfInBounds_toArray,List.set_cons_zero,List.set_cons_succ])
     refine takeC (i:=16) (d:=some 3) (v:=?_) rfl rfl (by kernel_rfl) (by kernel_rfl) (by kernel_rfl) (by kernel_rfl) (fun _ _ _ h=>h) (Or.inl ⟨by rfl,?_⟩) hC ?_
     rotate_left
     ·(intro w hSw;(try dsimp only at hSw);go_simp;(try with_reducible rfl))
     (try simp only[Act.put,List.setIfInBounds_toArray,List.set_cons_zero,List.set_cons_succ])
     refine doneR (by kernel_rfl) ?_ _;clear hC c02 d1 d2;go_wp2_with fail;exact⟨RH.out,by simp[intOf];omega⟩
    ·unfold rsR at R;simp only[if_true]at R;obtain⟨hb2H,hGH,hfH,hxfH,hxokH,hdgH,hrdH,hsuH,hbr2H,hmx2H,RH⟩:=hq2 hb2 (hq2 hG (hqc hf hxf hxok hdg hrd hsu hbr2 hmx2 (Lib.hid R)));clear hb2 hG hf hxf hxok hdg hrd hsu hbr2 hmx2 R;go_wp2_with fail;refine startR (R:=Rk (fun _=>True) (fun V=>V.cell? ⟨g1,k,none⟩=some (.string nm)∧V.cell? ⟨b2,o2+2,none⟩=some (.slice xA xn xc)) 99 99) (by kernel_rfl) ?_;have hC:w2.drew.cell? ⟨g1,k,none⟩=some (.string nm)∧w2.drew.cell? ⟨b2,o2+2,none⟩=some (.slice xA xn xc):=⟨c02,d2⟩;refine takeC (i:=0) (d:=some 49) (v:=?_) rfl rfl (by kernel_rfl) (by kernel_rfl) (by kernel_rfl) (by kernel_rfl) (fun _ _ _ h=>h) (Or.inl ⟨by rfl,?_⟩) hC ?_
     rotate_left
     ·(intro w hSw;(try dsimp only at hSw);go_simp;(try with_reducible rfl))
     (try simp only[Act.put,List.setIfInBounds_toArray,List.set_cons_zero,List.set_cons_succ])
     refine takeC (i:=1) (d:=some 50) (v:=?_) rfl rfl (by kernel_rfl) (by kernel_rfl) (by kernel_rfl) (by kernel_rfl) (fun _ _ _ h=>h) (Or.inl ⟨by rfl,?_⟩) hC ?_
     rotate_left
     ·(intro w hSw;(try dsimp only at hSw);go_simp;(try with_reducible rfl))
     (try simp only[Act.put,List.setIfInBounds_toArray,List.set_cons_zero,List.set_cons_succ])
     refine takeC (i:=2) (d:=some 51) (v:=?_) rfl rfl (by kernel_rfl) (by kernel_rfl) (by kernel_rfl) (by kernel_rfl) (fun _ _ _ h=>h) (Or.inl ⟨by rfl,?_⟩) hC ?_
     rotate_left
     ·(intro w hSw;(try dsimp only at hSw);go_simp;(try with_reducible rfl))
     (try simp only[Act.put,List.setIfInBounds_toArray,List.set_cons_zero,List.set_cons_succ])
     refine takeC (i:=3) (d:=some 52) (v:=?_) rfl rfl (by kernel_rfl) (by kernel_rfl) (by kernel_rfl) (by kernel_rfl) (fun _ _ _ h=>h) (Or.inl ⟨by rfl,?_⟩) hC ?_
     rotate_left
     ·(intro w hSw;(try dsimp only at hSw);go_simp;(try with_reducible rfl))
     (try simp only[Act.put,List.setIfInBounds_toArray,List.set_cons_zero,List.set_cons_succ])
     refine takeC (i:=4) (d:=some 53) (v:=?_) rfl rfl (by kernel_rfl) (by kernel_rfl) (by kernel_rfl) (by kernel_rfl) (fun _ _ _ h=>h) (Or.inl ⟨by rfl,?_⟩) hC ?_
     rotate_left
     ·(intro w hSw;(try dsimp only at hSw);go_simp;(try with_reducible rfl))
     (try simp only[Act.put,List.setIfInBounds_toArray,List.set_cons_zero,List.set_cons_succ])
     refine takeC (i:=5) (d:=some 54) (v:=?_) rfl rfl (by kernel_rfl) (by kernel_rfl) (by kernel_rfl) (by kernel_rfl) (fun _ _ _ h=>h) (Or.inl ⟨by rfl,?_⟩) hC ?_
     rotate_left
     ·(intro w hSw;(try dsimp only at hSw);go_simp;(try with_reducible rfl))
     (try simp only[Act.put,List.setIfInBounds_toArray,List.set_cons_zero,List.set_cons_succ])
     refine takeC (i:=6) (d:=some 55) (v:=?_) rfl rfl (by kernel_rfl) (by kernel_rfl) (by kernel_rfl) (by kernel_rfl) (fun _ _ _ h=>h) (Or.inl ⟨by rfl,?_⟩) hC ?_
     rotate_left
     ·(intro w hSw;(try dsimp only at hSw);go_simp;(try with_reducible rfl))
     (try simp only[Act.put,List.setIfInBounds_toArray,List.set_cons_zero,List.set_cons_succ])
     refine takeC (i:=7) (d:=some 56) (v:=?_) rfl rfl (by kernel_rfl) (by kernel_rfl) (by kernel_rfl) (by kernel_rfl) (fun _ _ _ h=>h) (Or.inl ⟨by rfl,?_⟩) hC ?_
     rotate_left
     ·(intro w hSw;(try dsimp only at hSw);go_simp;(try with_reducible rfl))
     (try simp only[Act.put,List.setIfInBounds_toArray,List.set_cons_zero,List.set_cons_succ])
     refine takeC (i:=8) (d:=some 57) (v:=?_) rfl rfl (by kernel_rfl) (by kernel_rfl) (by kernel_rfl) (by kernel_rfl) (fun _ _ _ h=>h) (Or.inl ⟨by rfl,?_⟩) hC ?_
     rotate_left
     ·(intro w hSw;(try dsimp only at hSw);go_simp;(try with_reducible rfl))
     (try simp only[Act.put,List.setIfInBounds_toArray,List.set_cons_zero,List.set_cons_succ])
     refine takeC (i:=9) (d:=some 58) (v:=?_) rfl rfl (by kernel_rfl) (by kernel_rfl) (by kernel_rfl) (by kernel_rfl) (fun _ _ _ h=>h) (Or.inl ⟨by rfl,?_⟩) hC ?_
     rotate_left
     ·(intro w hSw;(try dsimp only at hSw);go_simp;(try with_reducible rfl))
     (try simp only[Act.put,List.setIfInBounds_toArray,List.set_cons_zero,List.set_cons_succ])
     refine takeC (i:=10) (d:=some 59) (v:=?_) rfl rfl (by kernel_rfl) (by kernel_rfl) (by kernel_rfl) (by kernel_rfl) (fun _ _ _ h=>h) (Or.inl ⟨by rfl,?_⟩) hC ?_
     rotate_left
     ·(intro w hSw;(try dsimp only at hSw);go_simp;(try with_reducible rfl))
     (try simp only[Act.put,List.setIfInBounds_toArray,List.set_cons_zero,List.set_cons_succ])
     refine takeC (i:=13) (d:=some 62) (v:=?_) rfl rfl (by kernel_rfl) (by kernel_rfl) (by kernel_rfl) (by kernel_rfl) (fun _ _ _ h=>h) (Or.inl ⟨by rfl,?_⟩) hC ?_
     rotate_left
     ·(intro w hSw;(try dsimp only at hSw);go_simp;(try with_reducible rfl))
     (try simp only[Act.put,List.setIfInBounds_toArray,List.set_cons_zero,List.set_cons_succ])
     refine oneR (i:=11) (by kernel_rfl) rfl (fun K hK=>?_);go_simp;go_at_call 48;refine(hrdH.out _ hsuH.out).mono ?_;rintro e w9 ⟨rfl,rfl⟩;refine hK.out _ _ ⟨fun _ _ _=>trivial,fun _ _=>hC⟩ ?_;clear hK K
     (try simp only[Act.put,List.setIfInBounds_toArray,List.set_cons_zero,List.set_cons_succ])
     refine takeC (i:=12) (d:=some 61) (v:=?_) rfl rfl (by kernel_rfl) (by kernel_rfl) (by kernel_rfl) (by kernel_rfl) (fun _ _ _ h=>h) (Or.inl ⟨by rfl,?_⟩) hC ?_
     rotate_left
     ·(intro w hSw;(try dsimp only at hSw);go_simp;(try with_reducible rfl))
     (try simp only[Act.put,List.setIfInBounds_toArray,List.set_cons_zero,List.set_cons_succ])
     refine takeC (i:=14) (d:=some 63) (v:=?_) rfl rfl (by kernel_rfl) (by kernel_rfl) (by kernel_rfl) (by kernel_rfl) (fun _ _ _ h=>h) (Or.inl ⟨by rfl,?_⟩) hC ?_
     rotate_left
     ·(intro w hSw;(try dsimp only at hSw);go_simp;(try with_reducible rfl))
     (try simp only[Act.put,List.setIfInBounds_toArray,List.set_cons_zero,List.set_cons_succ])
     refine takeC (i:=15) (d:=some 64) (v:=?_) rfl rfl (by kernel_rfl) (by kernel_rfl) (by kernel_rfl) (by kernel_rfl) (fun _ _ _ h=>h) (Or.inl ⟨by rfl,?_⟩) hC ?_
     rotate_left
     ·(intro w hSw;(try dsimp only at hSw);go_simp;(try with_reducible rfl))
     (try simp only[Act.put,List.setIfInBounds_toArray,List.set_cons_zero,List.set_cons_succ])
     refine takeC (i:=16) (d:=some 3) (v:=?_) rfl rfl (by kernel_rfl) (by kernel_rfl) (by kernel_rfl) (by kernel_rfl) (fun _ _ _ h=>h) (Or.inl ⟨by rfl,?_⟩) hC ?_
     rotate_left
     ·(intro w hSw;(try dsimp only at hSw);go_simp;(try with_reducible rfl))
     (try simp only[Act.put,List.setIfInBounds_toArray,List.set_cons_zero,List.set_cons_succ])
     refine doneR (by kernel_rfl) ?_ _;clear hC c02 d1 d2;go_wp2_with fail;exact⟨RH.out,by simp[intOf];omega⟩
   ·obtain⟨M,rfl⟩:∃ M,N=M+1:=by
     have hyg:=nodesS_mem.1 hywH.out;obtain⟨f,hf9⟩:=List.exists_mem_of_ne_nil _ ((grp_ok _ y hyg).dir hf);have h1:=sub_path hyg hf hplH.out f hf9;have h2:=path_pos (hwH.out.sub hyg hf) f hf9;exact⟨N-1,by omega⟩
    have hyg:=nodesS_mem.1 hywH.out;have hwf2:WF partT (G.map tfOf):=by rw[hsub];exact hwH.out.sub hyg hf
    have hGn:nG≤1000:=by
     have h1:=sub_count hyg;rw[← hsub,List.length_map,List.length_map]at h1;have h2:G.length=nG:=hG.1.1;have h3:l.length=m:=hlH.out.1.1;omega
    have hGp:∀ g∈G,g.path.size≤M+1:=fun g hg=>by
     have h1:=sub_path hyg hf hplH.out (tfOf g) (by rw[← hsub];exact List.mem_map.2 ⟨g,hg,rfl⟩);have h2:(tfOf g).path.length=g.path.size:=(Lib.size_eq _).symm;omega
    have hGb:∀ g∈G,g.bytes.l.length≤100000:=fun g hg=>by
     have hs:=node_sub hyg;have e:filesN y=y.sub.map (backF y.name):=by unfold filesN;rw[hf]
     rw[e]at hs;have h1:=hs.subset (List.mem_map.2 ⟨tfOf g,by rw[← hsub];exact List.mem_map.2 ⟨g,hg,rfl⟩,rfl⟩);obtain⟨x0,hx0,e0⟩:=List.mem_map.1 h1;have h3:x0.bytes.l=g.bytes.l:=by have:=congrArg TFi.bs e0;exact this
     rw[← h3];exact hbsH.out x0 hx0
    have hdr:Below w2.heap.size w2 w2.drew:=(Below.refl _ _).drew;have hrec:=ihH.out M rfl AG nG cG G w2.drew (hmx2.below hdr) ((RSl RFile).mono _ _ _ hdr hG) hGn hGp hGb hwf2;rw[hsub]at hrec;obtain⟨T5,hT5⟩:∃ T,bsOf (TD (M+1) y.sub)=T:=⟨_,rfl⟩;rw[hT5]at hrec;have hT5d:T5.data.toList=TD (M+1) y.sub:=by rw[← hT5,data_bsOf]
    have hT5z:T5.size≤2000000:=by
     rw[Lib.size_eq,hT5d];have h0:∀ f∈y.sub,f.path.length≤M+1:=fun f hf9=>by have:=sub_path hyg hf hplH.out f hf9;omega
     have h1:y.sub.length≤1000:=by rw[← hsub,List.length_map];have h2:G.length=nG:=hG.1.1;omega
     exact TD_len partT (M+1) y.sub (hwH.out.sub hyg hf) h0 h1 (by omega)
    obtain⟨dg,hdg⟩:∃ d,digF T5.data.toList=d:=⟨_,rfl⟩;have hdz:dg.size=16:=by rw[← hdg];exact digF_size _
    have hrd:=fun A n c W (h:SlAt RU8 W A n T5.data.toList) (hn:n≤1000000000000)=>rdig_any A n c T5.data.toList W h hn;rw[hdg]at hrd;have q1:¬ 9223372036854775807<4+nm.size:=by omega
    have q2:¬ 9223372036854775807<4+nm.size+1:=by omega
    have q3:¬ 9223372036854775807<4+nm.size+1+16:=by omega
    have q4:¬ 9223372036854775807<4+nm.size+1+16+1:=by omega
    have q5:¬ 9223372036854775807<S0.size+(4+nm.size+1+16+1):=by omega
    have hlnl:lnD nm (TD (M+1) y.sub)=(⟨#[100,105,114,32]⟩:ByteArray)++nm++⟨#[32]⟩++dg++⟨#[10]⟩:=by unfold lnD;rw[← hT5d,hdg]
    have hT2:=hTkH.out (lnD nm (TD (M+1) y.sub)) (lnD_line (TD (M+1)) hf hnyH.out);rw[hlnl]at hT2;have R:∀ W,Below w2.heap.size w2 W→RtxRel (TD (M+1)) Y w1 (.string (S0++((⟨#[100,105,114,32]⟩:ByteArray)++nm++⟨#[32]⟩++dg++⟨#[10]⟩))) (.int .i64 ((k:Int)+1)) W:=fun W hW=>⟨k+1,by omega,by go_num,by rw[hT2],hbr2.trans (hW.mono hbr2.size)⟩;clear hlnl hT2 hyg hwf2 hGn hGp hGb;obtain⟨hb2H,hGH,hfH,hsubH,hdrH,hrecH,hT5H,hT5dH,hdgH,hrdH,hbr2H,hmx2H,RH⟩:=hqb hb2 hG hf hsub (hqc hdr hrec hT5 hT5d hdg hrd hbr2 hmx2 (Lib.hid R));clear hb2 hG hf hsub hdr hrec hT5 hT5d hdg hrd hbr2 hmx2 R;go_wp2_with fail;refine startR (R:=Rk (fun _=>True) (fun V=>V.cell? ⟨g1,k,none⟩=some (.string nm)) 99 99) (by kernel_rfl) ?_;have hC:w2.drew.cell? ⟨g1,k,none⟩=some (.string nm):=c02;refine takeC (i:=0) (d:=some 31) (v:=?_) rfl rfl (by kernel_rfl) (by kernel_rfl) (by kernel_rfl) (by kernel_rfl) (fun _ _ _ h=>h) (Or.inl ⟨by rfl,?_⟩) hC ?_
    rotate_left
    ·(intro w hSw;(try dsimp only at hSw);go_simp;(try with_reducible rfl))
    (try simp only[Act.put,List.setIfInBounds_toArray,List.set_cons_zero,List.set_cons_succ])
    refine takeC (i:=1) (d:=some 32) (v:=?_) rfl rfl (by kernel_rfl) (by kernel_rfl) (by kernel_rfl) (by kernel_rfl) (fun _ _ _ h=>h) (Or.inl ⟨by rfl,?_⟩) hC ?_
    rotate_left
    ·(intro w hSw;(try dsimp only at hSw);go_simp;(try with_reducible rfl))
    (try simp only[Act.put,List.setIfInBounds_toArray,List.set_cons_zero,List.set_cons_succ])
    refine takeC (i:=2) (d:=some 33) (v:=?_) rfl rfl (by kernel_rfl) (by kernel_rfl) (by kernel_rfl) (by kernel_rfl) (fun _ _ _ h=>h) (Or.inl ⟨by rfl,?_⟩) hC ?_
    rotate_left
    ·(intro w hSw;(try dsimp only at hSw);go_simp;(try with_reducible rfl))
    (try simp only[Act.put,List.setIfInBounds_toArray,List.set_cons_zero,List.set_cons_succ])
    refine takeC (i:=3) (d:=some 34) (v:=?_) rfl rfl (by kernel_rfl) (by kernel_rfl) (by kernel_rfl) (by kernel_rfl) (fun _ _ _ h=>h) (Or.inl ⟨by rfl,?_⟩) hC ?_
    rotate_left
    ·(intro w hSw;(try dsimp only at hSw);go_simp;(try with_reducible rfl))
    (try simp only[Act.put,List.setIfInBounds_toArray,List.set_cons_zero,List.set_cons_succ])
    refine takeC (i:=4) (d:=some 35) (v:=?_) rfl rfl (by kernel_rfl) (by kernel_rfl) (by kernel_rfl) (by kernel_rfl) (fun _ _ _ h=>h) (Or.inl ⟨by rfl,?_⟩) hC ?_
    rotate_left
    ·(intro w hSw;(try dsimp only at hSw);go_simp;(try with_reducible rfl))
    (try simp only[Act.put,List.setIfInBounds_toArray,List.set_cons_zero,List.set_cons_succ])
    refine takeC (i:=5) (d:=some 36) (v:=?_) rfl rfl (by kernel_rfl) (by kernel_rfl) (by kernel_rfl) (by kernel_rfl) (fun _ _ _ h=>h) (Or.inl ⟨by rfl,?_⟩) hC ?_
    rotate_left
    ·(intro w hSw;(try dsimp only at hSw);go_simp;(try with_reducible rfl))
    (try simp only[Act.put,List.setIfInBounds_toArray,List.set_cons_zero,List.set_cons_succ])
    refine takeC (i:=6) (d:=some 37) (v:=?_) rfl rfl (by kernel_rfl) (by kernel_rfl) (by kernel_rfl) (by kernel_rfl) (fun _ _ _ h=>h) (Or.inl ⟨by rfl,?_⟩) hC ?_
    rotate_left
    ·(intro w hSw;(try dsimp only at hSw);go_simp;(try with_reducible rfl))
    (try simp only[Act.put,List.setIfInBounds_toArray,List.set_cons_zero,List.set_cons_succ])
    refine takeC (i:=7) (d:=some 38) (v:=?_) rfl rfl (by kernel_rfl) (by kernel_rfl) (by kernel_rfl) (by kernel_rfl) (fun _ _ _ h=>h) (Or.inl ⟨by rfl,?_⟩) hC ?_
    rotate_left
    ·(intro w hSw;(try dsimp only at hSw);go_simp;(try with_reducible rfl))
    (try simp only[Act.put,List.setIfInBounds_toArray,List.set_cons_zero,List.set_cons_succ])
    refine oneR (i:=8) (by kernel_rfl) rfl (fun K hK=>?_);go_simp;go_at_call 50;refine hrecH.out.mono ?_;rintro e w5 ⟨rfl,hb5⟩;have hC5:=keepC hb5 hC;have hcv:=conv_any w5 T5;have hcb:=conv_below w5 T5;have hcu:=(conv_bts w5 T5 (fun _=>False) (fun h=>h) (by unfold maxLen;omega)).1;have hC6:=keepC hcb hC5;have hb25:Below w2.heap.size w2 (convW w5 T5):=(hdrH.out.trans hb5).trans (hcb.mono hb5.size);obtain⟨W6,hW6⟩:∃ W,convW w5 T5=W:=⟨_,rfl⟩;rw[hW6]at hcv hcb hcu hC6 hb25;obtain⟨hb5H,hcbH,hcuH,hb25H,hW6H⟩:=hqb hb5 hcb hcu hb25 (Lib.hid hW6);clear hb5 hcb hcu hb25 hW6;refine hK.out _ _ ⟨fun _ _ _=>trivial,fun _ _=>hC5⟩ ?_;clear hK K
    (try simp only[Act.put,List.setIfInBounds_toArray,List.set_cons_zero,List.set_cons_succ])
    refine oneR (i:=9) (by kernel_rfl) rfl (fun K hK=>?_);go_simp;refine hK.out _ _ ⟨fun _ _ _=>trivial,fun _ _=>hC6⟩ ?_;clear hK K
    (try simp only[Act.put,List.setIfInBounds_toArray,List.set_cons_zero,List.set_cons_succ])
    refine oneR (i:=10) (by kernel_rfl) rfl (fun K hK=>?_);go_simp;go_at_call 48;refine(hrdH.out _ T5.size _ _ hcuH.out.1 (by omega)).mono ?_;rintro e w9 ⟨rfl,rfl⟩;refine hK.out _ _ ⟨fun _ _ _=>trivial,fun _ _=>hC6⟩ ?_;clear hK K
    (try simp only[Act.put,List.setIfInBounds_toArray,List.set_cons_zero,List.set_cons_succ])
    clear hC hC5;have hC:=hC6;refine takeC (i:=11) (d:=some 42) (v:=?_) rfl rfl (by kernel_rfl) (by kernel_rfl) (by kernel_rfl) (by kernel_rfl) (fun _ _ _ h=>h) (Or.inl ⟨by rfl,?_⟩) hC ?_
    rotate_left
    ·(intro w hSw;(try dsimp only at hSw);go_simp;(try with_reducible rfl))
    (try simp only[Act.put,List.setIfInBounds_toArray,List.set_cons_zero,List.set_cons_succ])
    refine takeC (i:=12) (d:=some 43) (v:=?_) rfl rfl (by kernel_rfl) (by kernel_rfl) (by kernel_rfl) (by kernel_rfl) (fun _ _ _ h=>h) (Or.inl ⟨by rfl,?_⟩) hC ?_
    rotate_left
    ·(intro w hSw;(try dsimp only at hSw);go_simp;(try with_reducible rfl))
    (try simp only[Act.put,List.setIfInBounds_toArray,List.set_cons_zero,List.set_cons_succ])
    refine takeC (i:=13) (d:=some 44) (v:=?_) rfl rfl (by kernel_rfl) (by kernel_rfl) (by kernel_rfl) (by kernel_rfl) (fun _ _ _ h=>h) (Or.inl ⟨by rfl,?_⟩) hC ?_
    rotate_left
    ·(intro w hSw;(try dsimp only at hSw);go_simp;(try with_reducible rfl))
    (try simp only[Act.put,List.setIfInBounds_toArray,List.set_cons_zero,List.set_cons_succ])
    refine takeC (i:=14) (d:=some 3) (v:=?_) rfl rfl (by kernel_rfl) (by kernel_rfl) (by kernel_rfl) (by kernel_rfl) (fun _ _ _ h=>h) (Or.inl ⟨by rfl,?_⟩) hC ?_
    rotate_left
    ·(intro w hSw;(try dsimp only at hSw);go_simp;(try with_reducible rfl))
    (try simp only[Act.put,List.setIfInBounds_toArray,List.set_cons_zero,List.set_cons_succ])
    refine doneR (by kernel_rfl) ?_ _;clear hC hC6 c02;have R:=RH.out _ hb25H.out;have RH:=Lib.hid R;clear R;go_wp2_with fail;exact⟨RH.out,by simp[intOf];omega⟩
  ·obtain rfl:k=Y.length:=by omega
   have e1:bsOf ((Y.take Y.length).flatMap (lineX (TD N)))=T:=by rw[List.take_of_length_le (Nat.le_refl _),← hTDH.out,hTH.out]
   rw[e1];have R:=hZ'H.out _ wr ⟨rfl,hb1H.out.trans (hb.mono hb1H.out.size)⟩;clear e1;obtain⟨hbH,RH⟩:=hq2 hb (Lib.hid R);clear hb R;have e5:decide (Y.length<O.length)=false:=decide_eq_false hlt;go_wp2_with fail;exact RH.out
theorem rtext_any:∀ N,N≤199→RtHyp N
 | 0,h=>rtext_step 0 h fun M e=>by omega
 | N+1,h=>rtext_step (N+1) h fun M e=>by
  obtain rfl:M=N:=by omega
  exact rtext_any M (by omega)
def RBv:Rd (SlD UInt8) :=
 ⟨1,fun x=>[.slice x.A x.n x.cap],fun _ _=>True,fun _=>0,fun _=>rfl,fun _ u h=>by simp only[List.mem_singleton]at h;subst h;rfl,fun _ _ _ _ _=>trivial⟩
theorem elem_BvX:Elem Tryz.prog 39 RBv.size 24:=elem_of (z:=.slice none 0 0) (by kernel_rfl) (by decide)
theorem own_lit {α:Type} {R:Rd α} (w:World) (e:TypeId) (x:α) (hok:R.ok (w.alloc (.cells (R.vals x).toArray e)) x):Own R e (w.alloc (.cells (R.vals x).toArray e)) w.heap.size (.slice (some ⟨w.heap.size,0,none⟩) 1 1) [x]:=by
 refine⟨⟨by simp[R.len],.inr ⟨w.heap.size,1,_,rfl,Nat.le_refl _,heap_alloc_new w _,Nat.le_refl _,by decide,by simp[R.len],?_⟩⟩,fun y hy=>by rw[List.mem_singleton.1 hy];exact hok⟩;rw[List.take_of_length_le (by simp[R.len])];simp
theorem sl_lt {w:World} {x:SlD UInt8} (h:(RSl RU8).ok w x) (hn:0<x.n) {ad:Addr} (hA:x.A=some ad):ad.block<w.heap.size:=by
 obtain⟨b,off,h1,hc⟩:=h.1.2.1 hn;rw[hA]at h1;injection h1 with h1;subst h1;have hl:x.l.length=x.n:=h.1.1;obtain⟨u,hu⟩:∃ u,x.l[0]? = some u:=⟨x.l[0]'(by omega),List.getElem?_eq_getElem _⟩;exact cell?_lt (hc 0 u hu 0 _ rfl)
theorem sl_grown {w w':World} {row:Option Nat} {x:SlD UInt8} (h:(RSl RU8).ok w x) (hg:w.grownBy w' row) (hne:0<x.n→∀ ad,x.A=some ad→some ad.block≠row):(RSl RU8).ok w' x:=by
 refine⟨⟨h.1.1,fun hn=>?_,h.1.2.2⟩,h.2⟩;obtain⟨b,off,h1,hc⟩:=h.1.2.1 hn;exact⟨b,off,h1,fun i y hy j u hu=>hg.cell (hc i y hy j u hu) (show some b≠row from hne hn ⟨b,off,none⟩ h1)⟩
def Far (T B:Nat) (v:Value) (x:SlD UInt8):Prop:=0<x.n→∀ ad,x.A=some ad→ad.block<T∨(B≤ad.block∧v.ownBlock≠some ad.block)
theorem Far.ne {T B:Nat} {v:Value} {x:SlD UInt8} (h:Far T B v x) (hv:∀ g,v.ownBlock=some g→T≤g):0<x.n→∀ ad,x.A=some ad→some ad.block≠v.ownBlock:=fun hn ad hA e=>by
 rcases h hn ad hA with h1 | h1
 ·have:=hv _ e.symm;omega
 ·exact h1.2 e.symm
theorem far_step {T B:Nat} {w w':World} {v v1:Value} {x:SlD UInt8} (hx:(RSl RU8).ok w x) (hf:Far T B v x) (hv:∀ g,v.ownBlock=some g→T≤g) (hg:w.grownBy w' v.ownBlock) (hat:v1.ownBlock=v.ownBlock∨v1.ownBlock=some w.heap.size):(RSl RU8).ok w' x∧Far T B v1 x:=by
 refine⟨sl_grown hx hg (hf.ne hv),fun hn ad hA=>?_⟩
 rcases hf hn ad hA with h1 | h1
 ·exact .inl h1
 ·refine .inr ⟨h1.1,fun e=>?_⟩
  rcases hat with h2 | h2
  ·exact h1.2 (h2 ▸ e)
  ·rw[h2]at e;have:=sl_lt hx hn hA;injection e with e;omega
theorem Far.mono {T B B':Nat} {v v':Value} {x:SlD UInt8} (h:Far T B v x) (hB:B'≤B) (hv:∀ g,v'.ownBlock=some g→g<B):Far T B' v' x:=fun hn ad hA=>by
 rcases h hn ad hA with h1 | h1
 ·exact .inl h1
 ·exact .inr ⟨by omega,fun e=>by have:=hv _ e;omega⟩
def CnAns (l:List File) (N T:Nat) (w:World) (e:Ending) (w':World):Prop :=
 ∃ (A:Option Addr) (c:Nat) (L:List (SlD UInt8)),e = .returned (.slice A L.length c)∧Own RBv 39 w' w.heap.size (.slice A L.length c) L∧L.map (·.l)=Cs (N+1) (l.map tfOf)∧(∀ x∈L,(RSl RU8).ok w' x∧Far T w.heap.size (.slice A L.length c) x)∧Below w.heap.size w w'
def CnHyp (N:Nat):Prop:=∀ (A:Option Addr) (m c:Nat) (l:List File) (w:World) (T:Nat),MaxLenAt w→(RSl RFile).ok w ⟨A,m,c,l⟩→m≤1000→(∀ y∈l,y.path.size≤N+1)→(∀ y∈l,y.bytes.l.length≤100000)→WF partT (l.map tfOf)→T≤w.heap.size→(∀ y∈l,0<y.bytes.n→∀ ad,y.bytes.A=some ad→ad.block<T) →
 Calls Tryz.prog 20 #[.slice A m c] w (CnAns l N T w)
def CnRel (Y:List TN) (N T:Nat) (t0:Byt) (w:World) (base:Nat) (vO:Value) (O:List ByteArray) (v i:Value) (wr:World):Prop :=
 ∃ (k:Nat) (A:Option Addr) (c:Nat) (L:List (SlD UInt8)),k≤Y.length∧i = .int .i64 k∧v = .slice A L.length c∧Own RBv 39 wr w.heap.size v L∧L.map (·.l)=t0::(Y.take k).flatMap (csN (Cs N))∧(∀ x∈L,(RSl RU8).ok wr x∧Far T w.heap.size v x)∧Own RStr 9 wr base vO O∧Dj v vO∧Below w.heap.size w wr
theorem contents_step (N:Nat) (hN:N≤199) (ih:∀ M,N=M+1→CnHyp M):CnHyp N:=by
 intro A m c l w T hmx hl hm hsz hbs hw hT hbT;obtain⟨Y,hY⟩:∃ Y,nodesS (l.map tfOf)=Y:=⟨_,rfl⟩;obtain⟨Z,hZ⟩:∃ Z,CnAns l N T w=Z:=⟨_,rfl⟩;have hZ':∀ e W,CnAns l N T w e W→Z e W:=fun e W h=>by rw[← hZ];exact h
 rw[hZ];clear hZ;have hsz2:∀ y∈l,y.path.size≤1000:=fun y hy=>by have:=hsz y hy;omega
 have hlm:l.length=m:=hl.1.1;have hpl:∀ f∈l.map tfOf,f.path.length≤N+1:=fun f hf=>by
  obtain⟨x,hx,rfl⟩:=List.mem_map.1 hf;have:=hsz x hx;rw[Lib.size_eq]at this;exact this
 have hcs:Cs (N+1) (l.map tfOf)=TD (N+1) (l.map tfOf)::Y.flatMap (csN (Cs N)):=by rw[← hY];rfl
 have hcn:(Cs (N+1) (l.map tfOf)).length≤200001:=by
  have h1:=Cs_count partT (N+1) (l.map tfOf);rw[List.length_map]at h1;have h2:l.length*(N+1)≤1000*200:=Nat.mul_le_mul (by omega) (by omega);omega
 have hTDz:(TD (N+1) (l.map tfOf)).length≤2000000:=TD_len partT (N+1) (l.map tfOf) hw hpl (by rw[List.length_map];omega) (by omega);have hYl:Y.length≤1000:=by
  rw[← hY,(nodesS_perm _).length_eq];have h1:=grp_count (l.map tfOf);rw[List.length_map]at h1;omega
 have htx:=rtext_any N hN A m c l w hmx hl hm hsz hbs hw;obtain⟨t0,ht0⟩:∃ t,TD (N+1) (l.map tfOf)=t:=⟨_,rfl⟩;rw[ht0]at htx hcs hTDz;obtain⟨S0,hS0⟩:∃ s,bsOf t0=s:=⟨_,rfl⟩;rw[hS0]at htx;have hS0d:S0.data.toList=t0:=by rw[← hS0,data_bsOf]
 have hS0z:S0.size≤2000000:=by rw[Lib.size_eq,hS0d];exact hTDz
 obtain⟨hZ'H,hmxH,hlH,hszH,hsz2H,hbsH,hwH,hYH,hplH,hcsH,hcnH,ht0H,hS0H,hS0dH,hTDzH,htxH,hbTH,ihH⟩:=hq2 hZ' (hqc hmx hl hsz hsz2 hbs hw hY hpl (hqc hcs hcn ht0 hS0 hS0d hTDz htx hbT (Lib.hid ih)));clear hZ' hmx hl hsz hsz2 hbs hw hY hpl hcs hcn ht0 hS0 hS0d hTDz htx hbT ih;go_enter Tryz.func20,Tryz.ntmps20;go_wp2_with fail;refine htxH.out.mono ?_;rintro e w1 ⟨rfl,hb1⟩;have hcv:=conv_any w1 S0;have hcb:=conv_below w1 S0;have hcu:=(conv_bts w1 S0 (fun _=>False) (fun h=>h) (by unfold maxLen;omega)).1;obtain⟨k0,hk0⟩:∃ k,grownCap w1 S0.size 0 5 = k:=⟨_,rfl⟩;obtain⟨W2,hW2⟩:∃ W,convW w1 S0=W:=⟨_,rfl⟩;obtain⟨b2,hb2⟩:∃ b,w1.heap.size=b:=⟨_,rfl⟩;rw[hW2,hk0,hb2]at hcv;rw[hW2,hk0,hb2]at hcu;rw[hW2]at hcb;have hlt2:b2<W2.heap.size:=by rw[← hW2,← hb2];unfold convW;simp
 obtain⟨x0,hx0⟩:∃ x:SlD UInt8,x=⟨some ⟨b2,0,none⟩,S0.size,k0,S0.data.toList⟩:=⟨_,rfl⟩;have hol:=own_lit (R:=RBv) W2 39 x0 trivial;have hv0:(RBv.vals x0).toArray = #[.slice (some ⟨b2,0,none⟩) S0.size k0]:=by rw[hx0];rfl
 rw[hv0]at hol;obtain⟨W3,hW3⟩:∃ W,W2.alloc (.cells #[.slice (some ⟨b2,0,none⟩) S0.size k0] 39)=W:=⟨_,rfl⟩;rw[hW3]at hol;have hb23:Below W2.heap.size W2 W3:=by rw[← hW3];exact(Below.refl _ _).alloc (Nat.le_refl _) _
 have hx0u:(RSl RU8).ok W3 x0:=by rw[hx0];exact(RSl RU8).mono _ _ _ hb23 hcu
 have hb03:Below w.heap.size w W3:=(hb1.trans (hcb.mono hb1.size)).trans (hb23.mono (Nat.le_trans hb1.size hcb.size));have hw2:w.heap.size≤W2.heap.size:=Nat.le_trans hb1.size hcb.size;have hlt3:W2.heap.size<W3.heap.size:=by rw[← hW3];simp
 have hb2w:w.heap.size≤b2:=by rw[← hb2];exact hb1.size
 have hfar0:Far T w.heap.size (.slice (some ⟨W2.heap.size,0,none⟩) 1 1) x0:=fun _ ad hA=>by
  rw[hx0]at hA;injection hA with hA;subst hA;exact .inr ⟨hb2w,fun e=>by have e2:some W2.heap.size=some b2:=e;injection e2 with e2;omega⟩
 have hnm:=names_any A m c l W3 (hmxH.out.below hb03) ((RSl RFile).mono _ _ _ hb03 hlH.out).1 hm hsz2H.out hwH.out;obtain⟨hb1H,hcbH,hcuH,holH,hb23H,hx0uH,hb03H,hfar0H,hnmH,hx0H,hv0H⟩:=hq2 hb1 (hq2 hcb (hqc hcu hol hb23 hx0u hb03 hfar0 hnm hx0 (Lib.hid hv0)));clear hb1 hcb hcu hol hb23 hx0u hb03 hfar0 hnm hx0 hv0;go_wp2_with fail;refine hnmH.out.mono ?_;rintro e w4 ⟨AO,cO,vM,O,rfl,hO,hown,hb4⟩;rw[hYH.out]at hO;have hOl:O.length=Y.length:=by have:=congrArg List.length hO;simpa using this
 have hst:CnRel Y N T t0 w W3.heap.size (.slice AO O.length cO) O (.slice (some ⟨W2.heap.size,0,none⟩) 1 1) (.int .i64 0) w4:=by
  refine⟨0,_,_,[x0],Nat.zero_le _,rfl,rfl,own_lower (holH.out.below hb4) hw2,?_,fun x hx=>?_,hown,fun x hx e=>?_,hb03H.out.trans (hb4.mono hb03H.out.size)⟩
  ·rw[hx0H.out];simp[hS0dH.out]
  ·rw[List.mem_singleton.1 hx];exact⟨(RSl RU8).mono _ _ _ hb4 hx0uH.out,hfar0H.out⟩
  ·have h1:=(hown.1.lt x e).1;have h2:some W2.heap.size=some x:=hx;injection h2 with h2;omega
 clear hown;obtain⟨hOH,hb4H,hstH⟩:=hq2 hO (hq2 hb4 (Lib.hid hst));clear hO hb4 hst;go_wp2_with fail
 go_loopw [3,6] (fun v i wr=>CnRel Y N T t0 w W3.heap.size (.slice AO O.length cO) O v i wr) (fun _ i _=>O.length-(intOf i).toNat)
 case atStart=>exact hstH.out
 case round =>
  clear hstH;obtain⟨k,A2,c2,L,hk,rfl,rfl,hown,hL,hLok,hownO,hdj,hb⟩:=hrel
  by_cases hlt:k<O.length
  ·obtain⟨nm,hnm⟩:∃ s,O[k]? = some s:=⟨O[k]'hlt,List.getElem?_eq_getElem _⟩;obtain⟨y,hyk⟩:∃ y,Y[k]? = some y:=⟨Y[k]'(by omega),List.getElem?_eq_getElem _⟩;have hym:=List.mem_of_getElem? hyk;have hny:nm.data.toList=y.name:=by
    have h1:=congrArg (fun q=>q[k]?) hOH.out;simp only[List.getElem?_map,hnm,hyk,Option.map_some]at h1;exact Option.some.inj h1
   have hyw:y∈nodesS (l.map tfOf):=by rw[hYH.out];exact hym
   have hnz:nm.size≤200:=by
    rw[Lib.size_eq,hny];have:=name_len (nodesS_mem.1 hyw) hplH.out;omega
   obtain⟨g1,hA⟩:=own_form hownO (by omega);subst hA;have c0:wr.cell? ⟨g1,k,none⟩=some (.string nm):=by simpa using cell_Str hownO.slAt hnm
   have hlr:=(RSl RFile).mono _ _ _ hb hlH.out;have hbl:=below_any A m c l nm wr hlr.1 hm (by omega) hsz2H.out;have hmxr:=hmxH.out.below hb;have htk:(Y.take (k+1)).flatMap (csN (Cs N))=(Y.take k).flatMap (csN (Cs N))++csN (Cs N) y:=by
    rw[List.take_add_one,hyk,List.flatMap_append];simp
   have hcnt:L.length+(csN (Cs N) y).length≤200001:=by
    have h1:=hcnH.out;rw[hcsH.out]at h1;have h2:(Y.flatMap (csN (Cs N))).length=((Y.take (k+1)).flatMap (csN (Cs N))).length+((Y.drop (k+1)).flatMap (csN (Cs N))).length:=by
     rw[← List.length_append,← List.flatMap_append,List.take_append_drop]
    rw[htk,List.length_append]at h2;have h3:=congrArg List.length hL;rw[List.length_map,List.length_cons]at h3;rw[List.length_cons]at h1;omega
   have hvT:∀ g,(Value.slice A2 L.length c2).ownBlock=some g→T≤g:=fun g hg=>by have:=(hown.1.lt g hg).1;omega
   obtain⟨hnmH,hykH,hymH,hnyH,hywH,hownH,hownOH,hLH,hLokH,hdjH,hbH,hlrH,hblH,hmxrH,htkH,hvTH⟩:=hq2 hnm (hq2 hyk (hq2 hym (hqb hny hyw hown hownO (hqc hL hLok hdj hb hlr hbl hmxr htk (Lib.hid hvT)))));clear hnm hyk hym hny hyw hown hownO hL hLok hdj hb hlr hbl hmxr htk hvT;go_wp2_with fail;refine hblH.out.mono ?_;intro e w5 hbl2;obtain⟨hb5,AG,nG,cG,G,bG,rfl,hG,hcase,hGz⟩:=below_node hwH.out hywH.out hnyH.out hbl2;have hb05:=hbH.out.trans (hb5.mono hbH.out.size);have hmx5:=hmxrH.out.below hb5;have hown5:=hownH.out.below hb5;have hownO5:=hownOH.out.below hb5;have hLok5:∀ x∈L,(RSl RU8).ok w5 x∧Far T w.heap.size (.slice A2 L.length c2) x:=fun x hx=>⟨(RSl RU8).mono _ _ _ hb5 (hLokH.out x hx).1,(hLokH.out x hx).2⟩;have hw5:=hb05.size;clear hbl2 c0
   rcases hcase with ⟨f,x,hf,rfl,rfl,hxf⟩ | ⟨hf,rfl,hsub⟩
   ·have hn1:nG=1:=hG.1.1.symm;subst hn1;obtain⟨bb,o2,hA2,_⟩:=hG.1.2.1 (show 0<1 by decide);have hA2:AG=some ⟨bb,o2,none⟩:=hA2;subst hA2;obtain⟨-,-,d2⟩:=cells_File (k:=0) hG.1 rfl;have hxok:RFile.ok w5 x:=hG.1.2.2 x List.mem_cons_self;have hxu:(RSl RU8).ok w5 x.bytes:=hxok.2.2;have hxfar:∀ v',Far T w.heap.size v' x.bytes:=fun v' hn ad hA=>by
     obtain⟨z,hz,ez⟩:=hGz x List.mem_cons_self;rw[ez]at hn hA;exact .inl (hbTH.out z hz hn ad hA)
    have hxl:x.bytes.l=f.bs:=by rw[← hxf];rfl
    obtain⟨xp,xr,xb⟩:=x;simp only at d2 hxu hxl hxfar;have hcy:csN (Cs N) y = [xb.l]:=by unfold csN;rw[hf,hxl]
    have d2:w5.cell? ⟨bb,o2+2,none⟩=some (.slice xb.A xb.n xb.cap):=by simpa using d2
    obtain⟨xA,xn,xc,xl⟩:=xb;simp only at d2 hcy;rw[hcy]at hcnt;have hnew:=slAt_new (R:=RBv) w5 39 (⟨xA,xn,xc,xl⟩:SlD UInt8) trivial;have hba:Below w5.heap.size w5 (w5.alloc (.cells #[.slice xA xn xc] 39)):=(Below.refl _ _).alloc (Nat.le_refl _) _;have hown6:=hown5.below hba;have hownO6:=hownO5.below hba;have hLok6:∀ x∈L ++ [⟨xA,xn,xc,xl⟩],(RSl RU8).ok (w5.alloc (.cells #[.slice xA xn xc] 39)) x∧Far T w.heap.size (.slice A2 L.length c2) x:=fun x hx=>by
     rcases List.mem_append.1 hx with h | h
     ·exact⟨(RSl RU8).mono _ _ _ hba (hLok5 x h).1,(hLok5 x h).2⟩
     ·rw[List.mem_singleton.1 h];exact⟨(RSl RU8).mono _ _ _ hba hxu,hxfar _⟩
    have hcn1:L.length+1≤200001:=by simpa using hcnt
    clear hown5 hownO5 hLok5 hxu hxfar hcnt;obtain⟨hb5H,hGH,hGzH,hfH,hxfH,hxokH,hxlH,hb05H,hmx5H,hnewH,hbaH,hown6H,hownO6H,hLok6H,hcyH⟩:=hq2 hb5 (hq2 hG (hqb hGz hf hxf hxok (hqc hxl hb05 hmx5 hnew hba hown6 hownO6 hLok6 (Lib.hid hcy))));clear hb5 hG hGz hf hxf hxok hxl hb05 hmx5 hnew hba hown6 hownO6 hLok6 hcy;go_wp2_with (at_builtin;go_loud (refine wpList_app rfl (.tmp 38) (.tmp 43) 63 rfl Tryz.underlying63 elem_BvX (by decide) rfl hown6H.out (some ⟨w5.heap.size,0,none⟩) 1 1 [⟨xA,xn,xc,xl⟩] rfl hnewH.out ?nn ?ok ?c1 ?c2 ?c3 (L.length+1) ?c4 ?_))
    case nn=>intro h;cases h
    case ok=>exact fun _ _ _ _ h=>h
    case c1=>unfold maxLen;omega
    case c2=>omega
    case c3=>simp;omega
    case c4=>rfl
    intro A8 c8 w8 hown8 hg8 hat8 hb8;have hfs:∀ x∈L ++ [⟨xA,xn,xc,xl⟩],(RSl RU8).ok w8 x∧Far T w.heap.size (.slice A8 (L.length+1) c8) x:=fun x hx=>far_step (hLok6H.out x hx).1 (hLok6H.out x hx).2 hvTH.out hg8 (by simpa using hat8);have R:CnRel Y N T t0 w W3.heap.size (.slice (some ⟨g1,0,none⟩) O.length cO) O (.slice A8 (L.length+1) c8) (.int .i64 ((k:Int)+1)) w8 :=
     ⟨k+1,A8,c8,L ++ [⟨xA,xn,xc,xl⟩],by omega,by go_num,by rw[List.length_append];rfl,hown8,by rw[List.map_append,hLH.out,htkH.out,hcyH.out];rfl,hfs,hownO6H.out.kept hg8 hdjH.out.symm.ne (fun _ _ h=>h),dj_step (v:=.slice A2 L.length c2) hdjH.out hat8 (by simpa using own_lt hownO6H.out),(hb05H.out.trans (hbaH.out.mono hw5)).trans hb8⟩
    clear hown8 hg8 hat8 hb8 hfs;have RH:=Lib.hid R;clear R;go_wp2_with fail;exact⟨RH.out,by simp[intOf];omega⟩
   ·obtain⟨M,rfl⟩:∃ M,N=M+1:=by
     have hyg:=nodesS_mem.1 hywH.out;obtain⟨f,hf9⟩:=List.exists_mem_of_ne_nil _ ((grp_ok _ y hyg).dir hf);have h1:=sub_path hyg hf hplH.out f hf9;have h2:=path_pos (hwH.out.sub hyg hf) f hf9;exact⟨N-1,by omega⟩
    have hyg:=nodesS_mem.1 hywH.out;have hwf2:WF partT (G.map tfOf):=by rw[hsub];exact hwH.out.sub hyg hf
    have hGn:nG≤1000:=by
     have h1:=sub_count hyg;rw[← hsub,List.length_map,List.length_map]at h1;have h2:G.length=nG:=hG.1.1;omega
    have hGp:∀ g∈G,g.path.size≤M+1:=fun g hg=>by
     have h1:=sub_path hyg hf hplH.out (tfOf g) (by rw[← hsub];exact List.mem_map.2 ⟨g,hg,rfl⟩);have h2:(tfOf g).path.length=g.path.size:=(Lib.size_eq _).symm;omega
    have hGb:∀ g∈G,g.bytes.l.length≤100000:=fun g hg=>by
     obtain⟨z,hz,ez⟩:=hGz g hg;rw[ez];exact hbsH.out z hz
    have hGT:∀ g∈G,0<g.bytes.n→∀ ad,g.bytes.A=some ad→ad.block<T:=fun g hg hn ad hA=>by
     obtain⟨z,hz,ez⟩:=hGz g hg;rw[ez]at hn hA;exact hbTH.out z hz hn ad hA
    have hrec:=ihH.out M rfl AG nG cG G w5 T hmx5 hG hGn hGp hGb hwf2 (by omega) hGT;have hcy:csN (Cs (M+1)) y=Cs (M+1) (G.map tfOf):=by unfold csN;rw[hf,hsub]
    clear hyg hwf2 hGn hGp hGb hGT hLok5 hown5 hownO5;obtain⟨hb5H,hGH,hGzH,hfH,hsubH,hb05H,hmx5H,hrecH,hcyH⟩:=hqc hb5 hG hGz hf hsub hb05 hmx5 hrec (Lib.hid hcy);clear hb5 hG hGz hf hsub hb05 hmx5 hrec hcy;go_wp2_with fail;refine hrecH.out.mono ?_;rintro e w6 ⟨A5,c5,L5,rfl,hown5,hL5,hL5ok,hb6⟩;have hb56:Below wr.heap.size wr w6:=hb5H.out.trans (hb6.mono hb5H.out.size);have hown6:=hownH.out.below hb56;have hownO6:=hownOH.out.below hb56;have hsl5:=hown5.slAt;have hnn5:L5.length=0→A5=none→c5=0:=fun _ h=>own_none_cap hown5 h;have hvlt:∀ g,(Value.slice A2 L.length c2).ownBlock=some g→g<w5.heap.size:=fun g hg=>by have h1:=own_lt hownH.out g hg;have h2:=hb5H.out.size;omega
    have hLok6:∀ x∈L++L5,(RSl RU8).ok w6 x∧Far T w.heap.size (.slice A2 L.length c2) x:=fun x hx=>by
     rcases List.mem_append.1 hx with h | h
     ·exact⟨(RSl RU8).mono _ _ _ hb56 (hLokH.out x h).1,(hLokH.out x h).2⟩
     ·exact⟨(hL5ok x h).1,(hL5ok x h).2.mono hw5 hvlt⟩
    have hcn1:L.length+L5.length≤200001:=by
     have h1:=congrArg List.length hL5;rw[List.length_map,← hcyH.out]at h1;omega
    have hw6:w.heap.size≤w6.heap.size:=Nat.le_trans hw5 hb6.size;have hb06:=hb05H.out.trans (hb6.mono hw5);clear hown5 hL5ok hcnt hvlt;obtain⟨hb6H,hb56H,hown6H,hownO6H,hsl5H,hnn5H,hLok6H,hL5H,hb06H⟩:=hqc hb6 hb56 hown6 hownO6 hsl5 hnn5 hLok6 hL5 (Lib.hid hb06);clear hb6 hb56 hown6 hownO6 hsl5 hnn5 hLok6 hL5 hb06;go_wp2_with (at_builtin;go_loud (refine wpList_app rfl (.tmp 34) (.tmp 36) 63 rfl Tryz.underlying63 elem_BvX (by decide) rfl hown6H.out A5 L5.length c5 L5 rfl hsl5H.out ?nn ?ok ?c1 ?c2 ?c3 (L.length+L5.length) ?c4 ?_))
    case nn=>exact hnn5H.out
    case ok=>exact fun _ _ _ _ h=>h
    case c1=>unfold maxLen;omega
    case c2=>omega
    case c3=>exact hw6
    case c4=>rfl
    intro A8 c8 w8 hown8 hg8 hat8 hb8;have hfs:∀ x∈L++L5,(RSl RU8).ok w8 x∧Far T w.heap.size (.slice A8 (L.length+L5.length) c8) x:=fun x hx=>far_step (hLok6H.out x hx).1 (hLok6H.out x hx).2 hvTH.out hg8 hat8;have R:CnRel Y (M+1) T t0 w W3.heap.size (.slice (some ⟨g1,0,none⟩) O.length cO) O (.slice A8 (L.length+L5.length) c8) (.int .i64 ((k:Int)+1)) w8 :=
     ⟨k+1,A8,c8,L++L5,by omega,by go_num,by rw[List.length_append],hown8,by rw[List.map_append,hLH.out,htkH.out,hcyH.out,hL5H.out];rfl,hfs,hownO6H.out.kept hg8 hdjH.out.symm.ne (fun _ _ h=>h),dj_step (v:=.slice A2 L.length c2) hdjH.out hat8 (own_lt hownO6H.out),hb06H.out.trans hb8⟩
    clear hown8 hg8 hat8 hb8 hfs;have RH:=Lib.hid R;clear R;go_wp2_with fail;exact⟨RH.out,by simp[intOf];omega⟩
  ·obtain rfl:k=Y.length:=by omega
   rw[List.take_of_length_le (Nat.le_refl _),← hcsH.out]at hL;have R:=hZ'H.out _ wr ⟨A2,c2,L,rfl,hown,hL,hLok,hb⟩;have e5:decide (Y.length<O.length)=false:=decide_eq_false hlt;clear hown hL hLok hownO hdj hb;have RH:=Lib.hid R;clear R;go_wp2_with fail;exact RH.out
theorem contents_any:∀ N,N≤199→CnHyp N
 | 0,h=>contents_step 0 h fun M e=>by omega
 | N+1,h=>contents_step (N+1) h fun M e=>by
  obtain rfl:M=N:=by omega
  exact contents_any M (by omega)
end Go.Proofs.YtpdjjjiknijpkaaGreatDoor.C10