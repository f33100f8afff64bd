/-
 Several texts of mine as one, without what is not wanted here: XOrdered, XLoops.
-/
import Derived.Test.YtbnkoefljcekbaaGreatDoorPyCC9
import Derived.Test.YtbnkoefljcekbaaGreatDoorPyGg
set_option linter.unusedVariables false
set_option linter.unusedSimpArgs false
set_option maxRecDepth 100000
set_option maxHeartbeats 8000000
namespace Go.Proofs.YtbnkoefljcekbaaGreatDoor.C9
open Go.RowKit Go.Deep
def nz (l:List Nat):List Int:=l.map (fun (k:Nat)=>(k:Int))
def lenV:Value→Nat | .slice _ n _=>n | _=>0
def bN:Value→Nat | .bool true=>1 | _=>0
structure OF (B N c:Nat) (A:Option Addr) (f:Nat→Bool) (W:World):Prop where
 c0:W.cell? ⟨B,0,none⟩=some (.slice A N c)
 cD:W.cell? ⟨B+1+1,0,none⟩=some (.slice (some ⟨B+1,0,none⟩) N N)
 row:BRow W (B+1) N f
theorem OF.below {B N c K:Nat} {A:Option Addr} {f:Nat→Bool} {W W':World} (h:OF B N c A f W) (hb:Below K W W') (hK:B+3≤K):OF B N c A f W' :=
 ⟨(hb.cell (show B<K by omega)).trans h.c0,(hb.cell (show B+1+1<K by omega)).trans h.cD,h.row.below hb (by omega)⟩
theorem OF.set {B N c k:Nat} {A:Option Addr} {f:Nat→Bool} {W:World} (h:OF B N c A f W):OF B N c A (fun j=>if j=k then true else f j) (W.setCell ⟨B+1,k,none⟩ (.bool true)) :=
 ⟨by rw[World.cell?_setCell_other _ _ _ _ (by simp)];exact h.c0,by rw[World.cell?_setCell_other _ _ _ _ (by simp)];exact h.cD,h.row.set true⟩
theorem ord1_any (B N c:Nat) (A:Option Addr) (f:Nat→Bool) (l:List Work) (s:ByteArray) (W:World) (hN:N≤1000) (hF:OF B N c A f W) (hl:SlAt RWork W A N l) (hr:l.Pairwise fun a b=>cmpS a.id_ b.id_ = -1) (hs:hasId l s=true) :
  Calls Tryz.prog 138 #[.string s,.pointer (some ⟨B,0,none⟩),.pointer (some ⟨B+1+1,0,none⟩)] W fun e w'=>e = .returned (.bool (!f (ixOf l s)))∧Below W.heap.size W w':=by
 have c0:=hF.c0;have hll:=hl.1;obtain⟨k,hk⟩:∃ k,ixOf l s=k:=⟨_,rfl⟩;have hkl:k<N:=by rw[← hk,← hll];exact ixOf_lt hs
 rw[hk];obtain⟨u,hu⟩:∃ u,f k=u:=⟨_,rfl⟩;rw[hu];have hlt2:B+1+1<W.heap.size:=cell?_lt hF.cD;obtain⟨hFH,hlH,hrH,hsH,hkH,huH⟩:=hq2 hF (hqb hl hr hs hk (Lib.hid hu));clear hF hl hr hs hk hu;go_enter Tryz.func138,Tryz.ntmps138;go_wp2_with fail;refine(workAt_any A N c l s _ hN hlH.out hrH.out).mono ?_;rintro e w1 ⟨i,rfl,hi,hb⟩;rw[hsH.out];obtain rfl:i=k:=(hi hsH.out).trans hkH.out;have hF1:=hFH.out.below hb (by omega);have cD:=hF1.cD;have cR:=(hF1.row i hkl).1;rw[huH.out]at cR;clear hi c0;obtain⟨hF1H,hbH⟩:=hq2 hF1 (Lib.hid hb);clear hF1 hb;go_wp2;go_ret;exact⟨rfl,hbH.out⟩
def OrdRel (l:List Work) (B N c:Nat) (A:Option Addr) (w0:World) (v m:Value) (wr:World):Prop :=
 ∃ (f:Nat→Bool) (out:List Nat) (A2:Option Addr) (n cap:Nat) (b:Bool),v = .slice A2 n cap∧m = .bool b∧OF B N c A f wr∧Own RInt 3 wr (B+3) v (nz out)∧Topo (gOf l) N out∧(∀ i,i<N→(f i=true↔i∈out))∧(b=false→Most (gOf l) N out)∧Below w0.heap.size w0 wr∧B+3≤wr.heap.size
def OrdIn (l:List Work) (B N c n0:Nat) (A:Option Addr) (w0:World) (v m i:Value) (wr:World):Prop :=
 ∃ (k:Nat) (f:Nat→Bool) (out:List Nat) (A2:Option Addr) (n cap:Nat) (b:Bool),k≤N∧i = .int .i64 k∧v = .slice A2 n cap∧m = .bool b∧OF B N c A f wr∧Own RInt 3 wr (B+3) v (nz out)∧Topo (gOf l) N out∧(∀ i,i<N→(f i=true↔i∈out)) ∧
  (b=false→n=n0∧∀ i,i<k→i ∉ out→∃ p∈gOf l i,p ∉ out)∧(b=true→n0<n)∧Below w0.heap.size w0 wr∧B+3≤wr.heap.size
theorem nz_len (l:List Nat):(nz l).length=l.length:=by simp[nz]
theorem nz_snoc (l:List Nat) (k:Nat):nz (l ++ [k])=nz l ++ [(k:Int)]:=by simp[nz]
def OrdAns (l:List Work) (N:Nat) (w:World) (e:Ending) (w':World):Prop:=∃ (A:Option Addr) (n cap:Nat) (out:List Nat) (ok:Bool),e = .returned (.tuple #[.slice A n cap,.bool ok])∧SlAt RInt w' A n (nz out)∧n=out.length∧ok=decide (n=N)∧Topo (gOf l) N out∧Most (gOf l) N out∧Below w.heap.size w w'
def OrdOwn (l:List Work) (N:Nat) (w:World) (e:Ending) (w':World):Prop:=OrdAns l N w e w'∧∀ (b off n cap:Nat) (ok:Bool),e = .returned (.tuple #[.slice (some ⟨b,off,none⟩) n cap,.bool ok])→w.heap.size≤b
theorem ordered_own (A:Option Addr) (N c:Nat) (l:List Work) (w:World) (hN:N≤1000) (hl:SlAt RWork w A N l) (hr:l.Pairwise fun a b=>cmpS a.id_ b.id_ = -1) (hall:allThere l l.length=true) :
  Calls Tryz.prog 85 #[.slice A N c] w (OrdOwn l N w):=by
 have hll:=hl.1;have hmk:=run_makeB N (by omega);obtain⟨B,hB⟩:∃ B,w.heap.size=B:=⟨_,rfl⟩;have hg:=gOf_lt hall;rw[hll]at hg;have eg:∀ args w,(callFunc 138 args).run Tryz.prog w = .ok (.enter 138 args) w:=enters_of Tryz.func138 (by kernel_rfl) rfl;have hgl:∀ (i:Nat) (x:Work),l[i]? = some x→∀ s∈x.after.l,hasId l s=true:=fun i x hx s hs=>allThere_get hall hx hs;obtain⟨hlH,hrH,hallH,hgH,hglH⟩:=hqb hl hr hall hg (Lib.hid hgl);clear hl hr hall hg hgl;go_enter Tryz.func85,Tryz.ntmps85;go_wp2_with fail;obtain⟨W1,hW1⟩:∃ X,w.alloc (.cells #[.slice A N c] 23)=X:=⟨_,rfl⟩;have hb1:Below w.heap.size w W1:=by rw[← hW1];exact(Below.refl _ _).alloc (Nat.le_refl _) _
 have hs1:W1.heap.size=B+1:=by rw[← hW1,← hB];simp
 have k1:W1.cell? ⟨B,0,none⟩=some (.slice A N c):=by rw[← hW1,← hB];exact cell_new w _ _ 0
 rw[hW1];obtain⟨W2,hW2⟩:∃ X,W1.alloc (.cells (madeB N) 4)=X:=⟨_,rfl⟩;have hb2:Below w.heap.size w W2:=by rw[← hW2];exact hb1.alloc hb1.size _
 have hb12:Below W1.heap.size W1 W2:=by rw[← hW2];exact(Below.refl _ _).alloc (Nat.le_refl _) _
 have hs2:W2.heap.size=B+1+1:=by rw[← hW2,← hs1];simp
 have k2:BRow W2 (B+1) N (fun _=>false):=by rw[← hW2,← hs1];exact BRow.made W1 N
 rw[hW2];obtain⟨W3,hW3⟩:∃ X,W2.alloc (.cells #[.slice (some ⟨B+1,0,none⟩) N N] 59)=X:=⟨_,rfl⟩;have hb3:Below w.heap.size w W3:=by rw[← hW3];exact hb2.alloc hb2.size _
 have hb23:Below W2.heap.size W2 W3:=by rw[← hW3];exact(Below.refl _ _).alloc (Nat.le_refl _) _
 have hs3:W3.heap.size=B+3:=by rw[← hW3];simp;omega
 have hF3:OF B N c A (fun _=>false) W3:=by
  refine⟨(hb23.cell (show B<W2.heap.size by omega)).trans ((hb12.cell (show B<W1.heap.size by omega)).trans k1),?_,k2.below hb23 (by omega)⟩;rw[← hW3,← hs2];exact cell_new W2 _ _ 0
 rw[hW3];clear k1 k2 hb1 hb2 hb12 hb23 hs1 hs2 hW1 hW2 hW3;obtain⟨hF3H,hb3H⟩:=hq2 hF3 (Lib.hid hb3);clear hF3 hb3
 go_loopw [5,6] (fun v m wr=>OrdRel l B N c A w v m wr) (fun v m _=>2*(N-lenV v)+bN m)
 case atStart=>exact⟨fun _=>false,[],none,0,0,true,rfl,rfl,hF3H.out,Own.nil _ _,Topo.nil _ _,by simp,(fun h=>nomatch h),hb3H.out,by omega⟩
 case round =>
  obtain⟨f,out,A2,n,cap,b,rfl,rfl,hF,hown,htopo,hio,hmost,hb,hsz⟩:=hrel;obtain⟨wa,rfl⟩:∃ W,W=wr:=⟨_,rfl⟩;have c0:=hF.c0;have hnl:=hown.len;rw[nz_len]at hnl;have hnN:n≤N:=by rw[← hnl];exact nodup_lt htopo.nodup htopo.lt
  cases b
  ·have hmost:=hmost rfl;have fin:∀ nq,∀ ok:Bool,ok=decide (n=N)→OrdOwn l N w (.returned (.tuple #[.slice A2 n cap,.bool ok])) (wa.drewN nq):=fun nq ok hok =>
    ⟨⟨A2,n,cap,out,ok,rfl,(hown.below (bel_drewN (Below.refl _ _) nq)).slAt,hnl.symm,hok,htopo,hmost,bel_drewN hb nq⟩,fun b off n2 cap2 ok2 e=>by
     simp only[Ending.returned.injEq,Value.tuple.injEq,Array.mk.injEq,List.cons.injEq,Value.slice.injEq]at e;obtain⟨⟨rfl,_,_⟩,_⟩:=e;have:=(hown.1.lt b rfl).1;omega⟩
   obtain⟨hFH,hownH,htopoH,hioH,hmostH,hbH,finH⟩:=hq2 hF (hq2 hown (hqb htopo hio hmost hb (Lib.hid fin)));clear hF hown htopo hio hmost hb fin;obtain⟨ok,hok⟩:∃ ok,decide (n=N)=ok:=⟨_,rfl⟩;have e1:((n:Int)==(N:Int))=ok:=by rw[← hok,Bool.eq_iff_iff,beq_iff_eq,decide_eq_true_iff];omega
   have hokH:=Lib.hid hok;clear hok;go_wp2_with fail
   go_quiet (fail)
   go_wp2
   go_ret2
   exact finH.out _ _ hokH.out.symm
  ·clear hmost;obtain⟨hFH,hownH,htopoH,hioH,hbH⟩:=hqb hF hown htopo hio (Lib.hid hb);clear hF hown htopo hio hb;go_wp2_with fail
   go_loopw [5,6,15] (fun v m i wr=>OrdIn l B N c n A w v m i wr) (fun _ _ i _=>N-(intOf i).toNat)
   case atStart=>exact⟨0,f,out,A2,n,cap,false,Nat.zero_le _,rfl,rfl,rfl,hFH.out,hownH.out,htopoH.out,hioH.out,fun _=>⟨rfl,fun i hi=>by omega⟩,(fun h=>nomatch h),hbH.out,hsz⟩
   case round =>
    obtain⟨k,f2,out2,A3,n3,cap3,b2,hk,rfl,rfl,rfl,hF2,hown2,htopo2,hio2,hno,hyes,hb2,hsz2⟩:=hrel;have hnl2:=hown2.len;rw[nz_len]at hnl2;have hnN2:n3≤N:=by rw[← hnl2];exact nodup_lt htopo2.nodup htopo2.lt
    clear c0
    by_cases hlt:k<N
    ·obtain⟨bb,off,hA,_⟩:=hlH.out.2.1 (by omega);subst hA;obtain⟨x,hx⟩:∃ x,l[k]? = some x:=⟨l[k]'(by have:=hll;omega),List.getElem?_eq_getElem _⟩;have hbs2:=hb2.size;obtain⟨d0,d1,d2,d3⟩:=cells_Work (hlH.out.below hb2) hx;have cD:=hF2.cD;have cR:=(hF2.row k hlt).1;have hl1:B+1<wr.heap.size:=by omega
     have hl2:B+1+1<wr.heap.size:=by omega
     have hgk:=gOf_get hx;have hok:=(hlH.out.2.2 x (List.mem_of_getElem? hx)).2.2.2;have hgx:=hglH.out k x hx;have hba:=hb2.alloc hbs2 (.cells #[.string x.id_,.slice x.needs.A x.needs.n x.needs.cap,.int .i64 x.size,.slice x.after.A x.after.n x.after.cap] 86);have hbr:Below wr.heap.size wr (wr.alloc (.cells #[.string x.id_,.slice x.needs.A x.needs.n x.needs.cap,.int .i64 x.size,.slice x.after.A x.after.n x.after.cap] 86)):=(Below.refl _ _).alloc (Nat.le_refl _) _;obtain⟨fk,hfk⟩:∃ b,f2 k=b:=⟨_,rfl⟩;rw[hfk]at cR
     cases fk
     ·have hkn:k ∉ out2:=fun h=>by rw[(hio2 k hlt).2 h]at hfk;cases hfk
      obtain⟨pb,hpb⟩:∃ b,x.after.l.any (fun s=>!f2 (ixOf l s))=b:=⟨_,rfl⟩;have hxn:x.after.n≤9223372036854775807:=Nat.le_trans hok.2.1 hok.2.2.1;obtain⟨Wc,hWc⟩:∃ X,wr.alloc (.cells #[.string x.id_,.slice x.needs.A x.needs.n x.needs.cap,.int .i64 x.size,.slice x.after.A x.after.n x.after.cap] 86)=X:=⟨_,rfl⟩;rw[hWc]at hba hbr;have hFc:=hF2.below hbr (by omega);have hownc:=hown2.below hbr;have hWcs:B+3≤Wc.heap.size:=by have:=hbr.size;omega
      have hpred:PredL 138 #[.pointer (some ⟨B,0,none⟩),.pointer (some ⟨B+1+1,0,none⟩)] (fun s=>!f2 (ixOf l s)) x.after.l Wc:=fun W s hs hW =>
       ord1_any B N c _ f2 l s W hN (hFc.below hW hWcs) ((hlH.out.below hba).below hW) hrH.out (hgx s hs)
      have hsl:=hok.1.below hba;obtain⟨hxH,hF2H,hown2H,htopo2H,hio2H,hnoH,hyesH,hb2H,hgkH,hokH,hgxH,hbaH,hbrH,hfkH,hknH,hpbH,hFcH,howncH,hpredH,hslH,hWcH⟩:=hqb hx hF2 hown2 htopo2 (hqc hio2 hno hyes hb2 hgk hok hgx hba (hqc hbr hfk hkn hpb hFc hownc hpred hsl (Lib.hid hWc)));clear hx hF2 hown2 htopo2 hio2 hno hyes hb2 hgk hok hgx hba hbr hfk hkn hpb hFc hownc hpred hsl hWc;go_wp2_with fail;rw[hWcH.out];refine(containsFunc_any 138 #[.pointer (some ⟨B,0,none⟩),.pointer (some ⟨B+1+1,0,none⟩)] eg (fun s=>!f2 (ixOf l s)) x.after.A x.after.n x.after.cap x.after.l _ hslH.out hxn hpredH.out pb hpbH.out).mono ?_;rintro e w5 ⟨rfl,hw5⟩;have hF5:=hFcH.out.below hw5 hWcs;have hown5:=howncH.out.below hw5;have hb5:=hbaH.out.trans (hw5.mono hbaH.out.size);have hs5:B+3≤w5.heap.size:=by have:=hw5.size;omega
      clear d0 d1 d2 d3 cD cR hFcH howncH hpredH hslH hbrH
      cases pb
      ·have hall2:∀ q∈gOf l k,q∈out2:=by
        intro q hq;rw[hgkH.out]at hq;obtain⟨s,hs,rfl⟩:=List.mem_map.1 hq;have h1:=hpbH.out;rw[List.any_eq_false]at h1;have h2:=h1 s hs;simp only[Bool.not_eq_true',Bool.not_eq_false]at h2;exact(hio2H.out _ (by rw[← hll];exact ixOf_lt (hgxH.out s hs))).1 h2
       have cD5:=hF5.cD;have cR5:=(hF5.row k hlt).1;have fR5:=(hF5.row k hlt).2;have hne5:(Value.slice A3 n3 cap3).ownBlock=none∨(Value.slice A3 n3 cap3).ownBlock≠some (B+1):=by
        cases hv:(Value.slice A3 n3 cap3).ownBlock with
        | none=>exact .inl rfl
        | some g=>exact .inr (fun e=>by injection e with e;have:=(hown5.1.lt g hv).1;omega)
       have hown6:Own RInt 3 (w5.setCell ⟨B+1,k,none⟩ (.bool true)) (B+3) (.slice A3 n3 cap3) (nz out2):=hown5.kept (grown_setc w5 ⟨B+1,k,none⟩ (.bool true)) hne5 (fun _ _ h=>h);have hF6:=hF5.set (k:=k);have hb6:Below w.heap.size w (w5.setCell ⟨B+1,k,none⟩ (.bool true)):=hb5.trans (grown_below (grown_setc w5 ⟨B+1,k,none⟩ (.bool true)) (by show w.heap.size≤B+1;omega) hb5.size);have hs6:B+3≤(w5.setCell ⟨B+1,k,none⟩ (.bool true)).heap.size:=by rw[World.size_setCell];exact hs5
       have hI:I64 (k:Int):=by unfold I64;omega
       have hnew:SlAt RInt ((w5.setCell ⟨B+1,k,none⟩ (.bool true)).alloc (.cells #[.int .i64 k] 3)) (some ⟨w5.heap.size,0,none⟩) 1 [(k:Int)]:=by
        have:=slAt_new (R:=RInt) (w5.setCell ⟨B+1,k,none⟩ (.bool true)) 3 (k:Int) hI
        rwa [World.size_setCell]at this
       have hown7:=hown6.alloc (.cells #[.int .i64 k] 3);have hF7:OF B N c (some ⟨bb,off,none⟩) (fun j=>if j=k then true else f2 j) ((w5.setCell ⟨B+1,k,none⟩ (.bool true)).alloc (.cells #[.int .i64 k] 3)):=hF6.below ((Below.refl _ _).alloc (Nat.le_refl _) _) hs6;have hb7:Below w.heap.size w ((w5.setCell ⟨B+1,k,none⟩ (.bool true)).alloc (.cells #[.int .i64 k] 3)):=hb6.alloc hb6.size _;clear hown5 hown6 hF5 hF6 hb6 hw5;obtain⟨hown7H,hF7H,hb7H,hnewH,hall2H,hb5H,hs6H⟩:=hq2 hown7 (hq2 hF7 (hqb hb7 hnew hall2 hb5 (Lib.hid hs6)));clear hown7 hF7 hb7 hnew hall2 hb5 hs6;go_wp2_with (at_builtin;go_loud (refine wpList_app rfl (.tmp 33) (.tmp 35) 56 rfl Tryz.underlying56 elem_IntQ (by decide) rfl hown7H.out (some ⟨w5.heap.size,0,none⟩) 1 1 [(k:Int)] rfl hnewH.out ?nn ?ok ?c1 ?c2 ?c3 (n3+1) ?c4 ?_))
       case nn=>intro h;cases h
       case ok=>exact fun _ _ _ _ h=>h
       case c1=>rw[nz_len];simp[maxLen] <;> omega
       case c2=>rw[nz_len];omega
       case c3=>simp <;> omega
       case c4=>rw[nz_len];omega
       intro A' c' w8 hown8 hg8 hat8 hb8;have R:OrdIn l B N c n (some ⟨bb,off,none⟩) w (.slice A' (n3+1) c') (.bool true) (.int .i64 (k+1)) w8:=by
        refine⟨k+1,(fun j=>if j=k then true else f2 j),out2 ++ [k],A',n3+1,c',true,by omega,by go_num,rfl,rfl,hF7H.out.below hb8 (Nat.le_refl _),by rw[nz_snoc];exact hown8,htopo2H.out.snoc hlt hknH.out hall2H.out,fun i hi=>?_,(fun h=>nomatch h),fun _=>?_,hb7H.out.trans (hb8.mono (by omega)),?_⟩
        ·by_cases e:i=k
         ·subst e;simp
         ·simp only[if_neg e,List.mem_append,List.mem_singleton];rw[hio2H.out i hi];exact⟨.inl,fun h=>h.resolve_right e⟩
        ·cases b2
         ·have:=(hnoH.out rfl).1;omega
         ·have:=hyesH.out rfl;omega
        ·have:=hg8.size;simp at this;omega
       clear hg8 hat8 hb8 hown8;have RH:=Lib.hid R;clear R;go_wp2;refine⟨?rel,?measure⟩
       case measure=>(simp[intOf];omega)
       case rel=>first | exact RH.out | exact⟨rfl,RH.out⟩
      ·have hex:∃ q∈gOf l k,q ∉ out2:=by
        have h1:=hpbH.out;rw[List.any_eq_true]at h1;obtain⟨s,hs,h2⟩:=h1;refine⟨ixOf l s,by rw[hgkH.out];exact List.mem_map.2 ⟨s,hs,rfl⟩,fun h=>?_⟩;rw[(hio2H.out _ (by rw[← hll];exact ixOf_lt (hgxH.out s hs))).2 h]at h2
        cases h2
       have R:OrdIn l B N c n (some ⟨bb,off,none⟩) w (.slice A3 n3 cap3) (.bool b2) (.int .i64 (k+1)) w5:=by
        refine⟨k+1,f2,out2,A3,n3,cap3,b2,by omega,by go_num,rfl,rfl,hF5,hown5,htopo2H.out,hio2H.out,fun h=>⟨(hnoH.out h).1,fun i hi hin=>?_⟩,hyesH.out,hb5,hs5⟩
        by_cases e:i=k
        ·subst e;exact hex
        ·exact(hnoH.out h).2 i (by omega) hin
       clear hF5 hown5 hb5 hw5;obtain⟨RH,hexH⟩:=hq2 R (Lib.hid hex);clear R hex;go_wp2;refine⟨?rel,?measure⟩
       case measure=>(simp[intOf];omega)
       case rel=>first | exact RH.out | exact⟨rfl,RH.out⟩
     ·have hki:k∈out2:=(hio2 k hlt).1 hfk;have R:OrdIn l B N c n (some ⟨bb,off,none⟩) w (.slice A3 n3 cap3) (.bool b2) (.int .i64 (k+1)) (wr.alloc (.cells #[.string x.id_,.slice x.needs.A x.needs.n x.needs.cap,.int .i64 x.size,.slice x.after.A x.after.n x.after.cap] 86)):=by
       refine⟨k+1,f2,out2,A3,n3,cap3,b2,by omega,by go_num,rfl,rfl,hF2.below hbr (by omega),hown2.below hbr,htopo2,hio2,fun h=>⟨(hno h).1,fun i hi hin=>?_⟩,hyes,hba,by have:=hbr.size;omega⟩
       by_cases e:i=k
       ·subst e;exact absurd hki hin
       ·exact(hno h).2 i (by omega) hin
      obtain⟨hxH,hF2H,hown2H,htopo2H,hio2H,hnoH,hyesH,hb2H,hgkH,hokH,hgxH,hbaH,hbrH,hfkH,hkiH,RH⟩:=hq2 hx (hq2 hF2 (hq2 hown2 (hqb htopo2 hio2 hno hyes (hqc hb2 hgk hok hgx hba hbr hfk hki (Lib.hid R)))));clear hx hF2 hown2 htopo2 hio2 hno hyes hb2 hgk hok hgx hba hbr hfk hki R;go_wp2;refine⟨?rel,?measure⟩
      case measure=>(simp[intOf];omega)
      case rel=>first | exact RH.out | exact⟨rfl,RH.out⟩
    ·have hkN:k=N:=by omega
     have R:OrdRel l B N c A w (.slice A3 n3 cap3) (.bool b2) wr:=⟨f2,out2,A3,n3,cap3,b2,rfl,rfl,hF2,hown2,htopo2,hio2,fun h i hi hin=>(hno h).2 i (by omega) hin,hb2,hsz2⟩;have hme:2*(N-lenV (.slice A3 n3 cap3))+bN (.bool b2)<2*(N-lenV (.slice A2 n cap))+bN (.bool true):=by
      cases b2
      ·have:=(hno rfl).1;simp only[lenV,bN];omega
      ·have:=hyes rfl;simp only[lenV,bN];omega
     obtain⟨hF2H,hown2H,htopo2H,hio2H,hnoH,hyesH,hb2H,RH,hmeH⟩:=hqc hF2 hown2 htopo2 hio2 hno hyes hb2 R (Lib.hid hme);clear hF2 hown2 htopo2 hio2 hno hyes hb2 R hme;go_wp2;refine⟨?rel,?measure⟩
     case measure=>exact hmeH.out
     case rel=>first | exact RH.out | exact⟨rfl,RH.out⟩
theorem ordered_any (A:Option Addr) (N c:Nat) (l:List Work) (w:World) (hN:N≤1000) (hl:SlAt RWork w A N l) (hr:l.Pairwise fun a b=>cmpS a.id_ b.id_ = -1) (hall:allThere l l.length=true) :
  Calls Tryz.prog 85 #[.slice A N c] w (OrdAns l N w):=(ordered_own A N c l w hN hl hr hall).mono fun _ _ h=>h.1
def unseenF (f:Nat→Bool) (N:Nat):Nat:=((List.range N).filter (fun j=>!f j)).length
open Classical in
noncomputable def unseenW (B N:Nat) (w:World):Nat:=((List.range N).filter (fun j=>decide (w.cell? ⟨B,j,none⟩=some (.bool false)))).length
theorem unseenW_eq {B N:Nat} {w:World} {f:Nat→Bool} (h:BRow w B N f):unseenW B N w=unseenF f N:=by
 unfold unseenW unseenF
 congr 1
 apply List.filter_congr;intro j hj;rw[(h j (List.mem_range.1 hj)).1]
 cases f j <;> simp
theorem unseenF_set {f:Nat→Bool} {a:Nat} (ha:f a=false):∀ N,unseenF (fun j=>if j=a then true else f j) N+(if a<N then 1 else 0)=unseenF f N
 | 0=>rfl
 | N+1=>by
  have ih:=unseenF_set ha N;unfold unseenF at ih ⊢;rw[List.range_succ,List.filter_append,List.filter_append,List.length_append,List.length_append]
  by_cases e:N=a
  ·subst e;rw[show (List.filter (fun j=>!if j=N then true else f j) [N]) = [] by simp,show List.filter (fun j=>!f j) [N] = [N] by simp[ha]];simp only[Nat.lt_irrefl,if_false,Nat.add_zero]at ih;simp only[Nat.lt_succ_self,if_true,List.length_nil,List.length_singleton];omega
  ·have e2:List.filter (fun j=>!if j=a then true else f j) [N]=List.filter (fun j=>!f j) [N]:=by simp[List.filter_cons,e]
   rw[e2]
   by_cases h:a<N
   ·rw[if_pos h]at ih;rw[if_pos (show a<N+1 by omega)];omega
   ·rw[if_neg h]at ih;rw[if_neg (show ¬ a<N+1 by omega)];omega
structure Lp (l:List Work) (i N:Nat) (f:Nat→Bool) (q:List Nat):Prop where
 q:∀ x∈q,x<N∧(x=i∨Way (gOf l) i x)
 f:∀ x,x<N→f x=true→Way (gOf l) i x
def LpRel (l:List Work) (i B N:Nat) (w0:World) (v:Value) (wr:World):Prop :=
 ∃ (f:Nat→Bool) (q:List Nat) (g off n cap:Nat),v = .slice (some ⟨g,off,none⟩) n cap∧BRow wr B N f∧Que wr (B+1) g off n cap (nz q)∧Lp l i N f q ∧
  (∀ x,x<N→(x=i∨f x=true)→x∈q∨∀ k∈gOf l x,k≠i∧f k=true)∧2*unseenF f N+n≤2*N+1∧Below w0.heap.size w0 wr∧B+1≤wr.heap.size
def LpIn (l:List Work) (i B N k M:Nat) (w0:World) (v iv:Value) (wr:World):Prop :=
 ∃ (j:Nat) (f:Nat→Bool) (q:List Nat) (g off n cap:Nat),j≤(gOf l k).length∧iv = .int .i64 j∧v = .slice (some ⟨g,off,none⟩) n cap∧BRow wr B N f∧Que wr (B+1) g off n cap (nz q)∧Lp l i N f q ∧
  (∀ x,x<N→(x=i∨f x=true)→x∈q∨(x=k∧∀ t y,t<j→(gOf l k)[t]? = some y→y≠i∧f y=true)∨∀ y∈gOf l x,y≠i∧f y=true)∧2*unseenF f N+n+1≤M∧Below w0.heap.size w0 wr∧B+1≤wr.heap.size
theorem unseenF_le (f:Nat→Bool) (N:Nat):unseenF f N≤N:=by
 unfold unseenF;have:=List.length_filter_le (fun j=>!f j) (List.range N)
 rwa [List.length_range]at this
theorem loops_any (A:Option Addr) (N c:Nat) (l:List Work) (i:Nat) (w:World) (hN:N≤1000) (hi:i<N) (hl:SlAt RWork w A N l) (hall:allThere l l.length=true) :
  Calls Tryz.prog 92 #[.slice A N c,.int .i64 i] w fun e w'=>∃ b:Bool,e = .returned (.bool b)∧(b=true↔Way (gOf l) i i)∧Below w.heap.size w w':=by
 have hll:=hl.1;have hmk:=run_makeB N (by omega);obtain⟨B,hB⟩:∃ B,w.heap.size=B:=⟨_,rfl⟩;have hg:=gOf_lt hall;rw[hll]at hg;have hgl:∀ (i:Nat) (x:Work),l[i]? = some x→∀ s∈x.after.l,hasId l s=true:=fun i x hx s hs=>allThere_get hall hx hs;obtain⟨bb,off,hA,_⟩:=hl.2.1 (by omega);subst hA;obtain⟨hlH,hallH,hgH,hglH⟩:=hq2 hl (hq2 hall (hq2 hg (Lib.hid hgl)));clear hl hall hg hgl;go_enter Tryz.func92,Tryz.ntmps92;go_wp2_with fail;obtain⟨W1,hW1⟩:∃ X,w.alloc (.cells (madeB N) 4)=X:=⟨_,rfl⟩;have hb1:Below w.heap.size w W1:=by rw[← hW1];exact(Below.refl _ _).alloc (Nat.le_refl _) _
 have hs1:W1.heap.size=B+1:=by rw[← hW1,← hB];simp
 have k1:BRow W1 B N (fun _=>false):=by rw[← hW1,← hB];exact BRow.made w N
 rw[hW1];obtain⟨W2,hW2⟩:∃ X,W1.alloc (.cells #[.int .i64 i] 3)=X:=⟨_,rfl⟩;have hb2:Below w.heap.size w W2:=by rw[← hW2];exact hb1.alloc hb1.size _
 have hs2:W2.heap.size=B+2:=by rw[← hW2];simp;omega
 have k2:BRow W2 B N (fun _=>false):=by rw[← hW2];exact k1.below ((Below.refl _ _).alloc (Nat.le_refl _) _) (by omega)
 have k3:Que W2 (B+1) (B+1) 0 1 1 (nz [i]):=by rw[← hW2,← hs1];exact Que.one W1 (i:Int) (by unfold I64;omega)
 rw[hW2];clear hW1 hW2 k1 hb1 hs1;obtain⟨k2H,k3H,hb2H⟩:=hq2 k2 (hq2 k3 (Lib.hid hb2));clear k2 k3 hb2
 go_loopw [6] (fun v wr=>LpRel l i B N w v wr) (fun v wr=>2*unseenW B N wr+lenV v)
 case atStart =>
  refine⟨fun _=>false,[i],B+1,0,1,1,rfl,k2H.out,k3H.out,⟨fun x hx=>?_,fun x _ h=>by cases h⟩,fun x _ h=>?_,by have:=unseenF_le (fun _=>false) N;omega,hb2H.out,by omega⟩
  ·rw[List.mem_singleton]at hx;subst hx;exact⟨hi,.inl rfl⟩
  ·rcases h with rfl | h
   ·exact .inl (by simp)
   ·cases h
 case round =>
  obtain⟨f,q,g,o1,n,cap,rfl,hR,hQ,hLp,hcl,hbd,hb,hsz⟩:=hrel;obtain⟨wa,rfl⟩:∃ W,W=wr:=⟨_,rfl⟩;have hM:=unseenW_eq hR;have hfl:=unseenF_le f N;have hqn:=hQ.1;rw[nz_len]at hqn
  cases q with
  | nil =>
   simp only[List.length_nil]at hqn;subst hqn;have hno:¬ Way (gOf l) i i:=no_way (seen:=fun x=>x<N∧f x=true) (fun x hx k hk=>by
    have hxN:x<N:=by
     rcases hx with rfl | hx
     ·exact hi
     ·exact hx.1
    have hx2:x=i∨f x=true:=hx.imp id (·.2)
    rcases hcl x hxN hx2 with h | h
    ·cases h
    ·exact⟨(h k hk).1,hgH.out x hxN k hk,(h k hk).2⟩)
   clear hcl hLp;obtain⟨hRH,hQH,hbH,hMH,hnoH⟩:=hqb hR hQ hb hM (Lib.hid hno);clear hR hQ hb hM hno;go_wp2;go_ret;exact⟨false,rfl,⟨(fun h=>nomatch h),fun h=>absurd h hnoH.out⟩,hbH.out⟩
  | cons k q' =>
   have hkq:=hLp.q k List.mem_cons_self;rw[List.length_cons]at hqn;obtain⟨x,hx⟩:∃ x,l[k]? = some x:=⟨l[k]'(by have:=hkq.1;omega),List.getElem?_eq_getElem _⟩;obtain⟨d0,d1,d2,d3⟩:=cells_Work (hlH.out.below hb) hx;have hgk:=gOf_get hx;have hok:=(hlH.out.2.2 x (List.mem_of_getElem? hx)).2.2.2;have hgx:=hglH.out k x hx;have hxl:=hok.1.1;have hxn:x.after.n≤9223372036854775807:=Nat.le_trans hok.2.1 hok.2.2.1;have hq0:=hQ.cell (i:=0) (x:=(k:Int)) rfl;rw[Nat.add_zero]at hq0;have hnc:=hQ.2.2.1;have hkN:=hkq.1;obtain⟨g2,o2,n2,cap2,hQ2,hn2,hval⟩:∃ g2 o2 n2 cap2,Que wa (B+1) g2 o2 n2 cap2 (nz q')∧n=n2+1∧(cap=1∧g2=g∧o2=o1∧n2=0∧cap2=0∨cap≠1∧g2=g∧o2=o1+1∧n2=n-1∧cap2=cap-1):=by
    by_cases hc:cap=1
    ·obtain⟨e1,e2,e3⟩:=Que.last (x:=(k:Int)) (r:=nz q') hQ hc;refine⟨g,o1,0,0,?_,by omega,.inl ⟨hc,rfl,rfl,rfl,rfl⟩⟩;have:nz q' = []:=e1;rw[this];exact e3
    ·exact⟨g,o1+1,n-1,cap-1,Que.tail (x:=(k:Int)) (r:=nz q') hQ,by omega,.inr ⟨hc,rfl,rfl,rfl,rfl⟩⟩
   have hst:LpIn l i B N k (2*unseenF f N+n) w (.slice (some ⟨g2,o2,none⟩) n2 cap2) (.int .i64 0) wa:=by
    refine⟨0,f,q',g2,o2,n2,cap2,Nat.zero_le _,rfl,rfl,hR,hQ2,⟨fun y hy=>hLp.q y (List.mem_cons_of_mem _ hy),hLp.f⟩,fun y hy h=>?_,by omega,hb,hsz⟩
    rcases hcl y hy h with h | h
    ·rcases List.mem_cons.1 h with rfl | h
     ·exact .inr (.inl ⟨rfl,fun t _ ht=>by omega⟩)
     ·exact .inl h
    ·exact .inr (.inr h)
   clear hcl hLp hQ hQ2;have hbs:=hb.size;obtain⟨hstH,hbH,hRH,hxH,hgkH,hokH,hgxH,hxlH,hMH⟩:=hqc hst hb hR hx hgk hok hgx hxl (Lib.hid hM);clear hst hb hR hx hgk hok hgx hxl hM;have hn1:1≤n:=by omega
   have hMb:2*unseenF f N+n≤2*N+1:=hbd;clear hbd;obtain⟨hqnH,hkqH⟩:=hq2 hqn (Lib.hid hkq);clear hqn hkq
   rcases hval with ⟨hc,rfl,rfl,rfl,rfl⟩ | ⟨hc,rfl,rfl,rfl,rfl⟩
   ·subst hc;obtain rfl:1=n:=by omega
    clear hn2;go_wp2_with fail
    go_loopw [6,30] (fun v iv wr=>LpIn l i B N k (2*unseenF f N+1) w v iv wr) (fun _ iv _=>x.after.n-(intOf iv).toNat)
    case atStart=>exact hstH.out
    case round =>
     obtain⟨j,f3,q3,g3,o3,n3,cap3,hj,rfl,rfl,hR3,hQ3,hLp3,hcl3,hme3,hb3,hsz3⟩:=hrel;have hjx:j≤x.after.n:=by have:=hj;rw[hgkH.out,List.length_map,hxlH.out]at this;exact this
     have hbs3:=hb3.size;have hgB:=hQ3.2.1;clear hj
     by_cases hlt:j<x.after.n
     ·obtain⟨ba,oa,hAa,_⟩:=hokH.out.1.2.1 (by omega);obtain⟨s,hs⟩:∃ s,x.after.l[j]? = some s:=⟨x.after.l[j]'(by have:=hxlH.out;omega),List.getElem?_eq_getElem _⟩;have hsl:=hokH.out.1;rw[hAa]at hsl;have c0:=cell_StrW (hsl.below hb3) hs;have hid:=hgxH.out s (List.mem_of_getElem? hs);obtain⟨a,ha⟩:∃ a,ixOf l s=a:=⟨_,rfl⟩;have haN:a<N:=by rw[← ha,← hll];exact ixOf_lt hid
      have hga:(gOf l k)[j]? = some a:=by rw[hgkH.out,List.getElem?_map,hs];simp[ha]
      have hagk:a∈gOf l k:=List.mem_of_getElem? hga;have hwo:woF l s=(a:Int):=by unfold woF;rw[if_pos hid,ha]
      have hway:Way (gOf l) i a:=by
       rcases hkqH.out.2 with h | h
       ·rw[← h];exact .one hagk
       ·exact .more h hagk
      have hjl:j+1≤(gOf l k).length:=by rw[hgkH.out,List.length_map,hxlH.out];omega
      obtain⟨hAaH,hsH,hslH,hidH,haH,hgaH,hagkH,hwoH,hwayH,hR3H,hQ3H,hLp3H,hcl3H,hme3H,hb3H,hjlH⟩:=hq2 hAa (hq2 hs (hq2 hsl (hqb hid ha hga hagk (hqc hwo hway hR3 hQ3 hLp3 hcl3 hme3 hb3 (Lib.hid hjl)))));clear hAa hs hsl hid ha hga hagk hwo hway hR3 hQ3 hLp3 hcl3 hme3 hb3 hjl;rw[hAaH.out];go_wp2_with fail;refine(workOf_any _ N c l s _ hN (hlH.out.below hb3H.out)).mono ?_;rintro e w5 ⟨rfl,hw5⟩;rw[hwoH.out];have hR5:=hR3H.out.below hw5 (show B<wr.heap.size by omega);have hQ5:=hQ3H.out.below hw5;have hb5:=hb3H.out.trans (hw5.mono hbs3);have hs5:B+1≤w5.heap.size:=by have:=hw5.size;omega
      clear hw5 c0 hR3H hQ3H
      by_cases hai:a=i
      ·have e1:((a:Int)==(i:Int))=true:=by rw[hai];simp
       have hii:Way (gOf l) i i:=by have:=hwayH.out;rwa [hai]at this
       obtain⟨haiH,hiiH,hR5H,hQ5H,hb5H⟩:=hqb hai hii hR5 hQ5 (Lib.hid hb5);clear hai hii hR5 hQ5 hb5;go_wp2;go_ret;exact⟨true,rfl,⟨fun _=>hiiH.out,fun _=>rfl⟩,hb5H.out⟩
      ·have e1:((a:Int)==(i:Int))=false:=by rw[beq_eq_false_iff_ne];omega
       have cR:=(hR5 a haN).1;obtain⟨fa,hfa⟩:∃ b,f3 a=b:=⟨_,rfl⟩;rw[hfa]at cR
       cases fa
       ·have hba6:Below w5.heap.size w5 (w5.alloc (.cells #[.int .i64 a] 3)):=(Below.refl _ _).alloc (Nat.le_refl _) _;have hR6:=hR5.below hba6 (by omega);have hQ6:=hQ5.below hba6;have hb6:=hb5.alloc hb5.size (.cells #[.int .i64 a] 3);have hs6:B+1≤(w5.alloc (.cells #[.int .i64 a] 3)).heap.size:=by rw[World.size_alloc];omega
        have hnew:(w5.alloc (.cells #[.int .i64 a] 3)).cell? ⟨w5.heap.size,0,none⟩=some (.int .i64 a):=cell_new w5 _ _ 0;have hI:I64 (a:Int):=by unfold I64;omega
        have hn3:n3+1≤1000000:=by
         have h1:=hme3H.out;have h2:=unseenF_le f3 N;have h3:=hMb;omega
        have hgB2:w.heap.size≤g3:=by omega
        clear hba6 hQ5 hb5;obtain⟨haiH,hR5H,hR6H,hQ6H,hb6H,hs6H,hnewH,hIH,hn3H,hfaH⟩:=hq2 hai (hqc hR5 hR6 hQ6 hb6 hs6 hnew hI hn3 (Lib.hid hfa));clear hai hR5 hR6 hQ6 hb6 hs6 hnew hI hn3 hfa;go_wp2_with (at_builtin;go_loud (refine wpList_que_app rfl (.tmp 47) (.tmp 49) 56 rfl Tryz.underlying56 rfl hQ6H.out ⟨w5.heap.size,0,none⟩ 1 (a:Int) rfl hnewH.out hIH.out hn3H.out hs6H.out ?_);intro g4 o4 cap4 w8 hQ8 hg8 hat8;have hR8:=hR6H.out.kept hg8 (fun e=>by injection e with e;omega);have cR8:=(hR8 a haN).1;have fR8:=(hR8 a haN).2;have hR8H:=Lib.hid hR8;clear hR8;have hQ8H:=Lib.hid hQ8;clear hQ8;have hg8H:=Lib.hid hg8;clear hg8;have hat8H:=Lib.hid hat8;clear hat8);have hb8:=hb6H.out.trans (grown_below hg8H.out hgB2 hb6H.out.size);have hs8:B+1≤w8.heap.size:=by have h1:=hg8H.out.size;have h2:=hs6H.out;omega
        have R:LpIn l i B N k (2*unseenF f N+1) w (.slice (some ⟨g4,o4,none⟩) (n3+1) cap4) (.int .i64 (j+1)) (w8.setCell ⟨B,a,none⟩ (.bool true)):=by
         have hu:=unseenF_set hfaH.out N;rw[if_pos haN]at hu;have hm:=hme3H.out;refine⟨j+1,(fun t=>if t=a then true else f3 t),q3 ++ [a],g4,o4,n3+1,cap4,hjlH.out,by go_num,rfl,hR8H.out.set true,by rw[nz_snoc];exact hQ8H.out.set (by have:=hQ8H.out.2.1;show g4≠B;omega) _,⟨fun y hy=>?_,fun y hyN hy=>?_⟩,fun y hyN hy=>?_,by omega,hb8.trans (grown_below (grown_setc w8 ⟨B,a,none⟩ (.bool true)) (by show w.heap.size≤B;omega) hb8.size),by rw[World.size_setCell];exact hs8⟩
         ·rcases List.mem_append.1 hy with hy | hy
          ·exact hLp3H.out.q y hy
          ·rw[List.mem_singleton]at hy;subst hy;exact⟨haN,.inr hwayH.out⟩
         ·have hy:(if y=a then true else f3 y)=true:=hy
          split at hy
          ·rename_i e;rw[e];exact hwayH.out
          ·exact hLp3H.out.f y hyN hy
         ·by_cases e:y=a
          ·subst e;exact .inl (List.mem_append.2 (.inr (List.mem_singleton.2 rfl)))
          ·have hup:∀ z,f3 z=true→(if z=a then true else f3 z)=true:=fun z hz=>by split <;> first | rfl | exact hz
           simp only[if_neg e]at hy
           rcases hcl3H.out y hyN hy with h | ⟨h1,h2⟩ | h
           ·exact .inl (List.mem_append.2 (.inl h))
           ·refine .inr (.inl ⟨h1,fun t z ht hz=>?_⟩)
            by_cases etj:t=j
            ·subst etj;rw[hgaH.out]at hz;injection hz with hz;subst hz;exact⟨haiH.out,by simp⟩
            ·have:=h2 t z (by omega) hz;exact⟨this.1,hup z this.2⟩
           ·exact .inr (.inr fun z hz=>⟨(h z hz).1,hup z (h z hz).2⟩)
        clear cR8 fR8 hb8;have RH:=Lib.hid R;clear R
        first
         | refine⟨?rel,?measure⟩
         | (go_wp2;refine⟨?rel,?measure⟩)
        case measure=>(simp[intOf];omega)
        case rel=>first | exact RH.out | exact⟨rfl,RH.out⟩ | ((try refine⟨rfl,?_⟩);(repeat apply Exists.intro);refine⟨RH.out,?_⟩;((repeat' apply And.intro) <;> rfl))
       ·have R:LpIn l i B N k (2*unseenF f N+1) w (.slice (some ⟨g3,o3,none⟩) n3 cap3) (.int .i64 (j+1)) w5:=by
         refine⟨j+1,f3,q3,g3,o3,n3,cap3,hjlH.out,by go_num,rfl,hR5,hQ5,hLp3H.out,fun y hyN hy=>?_,hme3H.out,hb5,hs5⟩
         rcases hcl3H.out y hyN hy with h | ⟨h1,h2⟩ | h
         ·exact .inl h
         ·refine .inr (.inl ⟨h1,fun t z ht hz=>?_⟩)
          by_cases etj:t=j
          ·subst etj;rw[hgaH.out]at hz;injection hz with hz;subst hz;exact⟨hai,hfa⟩
          ·exact h2 t z (by omega) hz
         ·exact .inr (.inr h)
        clear hQ5 hb5;obtain⟨haiH,hfaH,hR5H,RH⟩:=hq2 hai (hq2 hfa (hq2 hR5 (Lib.hid R)));clear hai hfa hR5 R;go_wp2;refine⟨?rel,?measure⟩
        case measure=>(simp[intOf];omega)
        case rel=>first | exact RH.out | exact⟨rfl,RH.out⟩
     ·have hjn:j=x.after.n:=by omega
      have R:LpRel l i B N w (.slice (some ⟨g3,o3,none⟩) n3 cap3) wr:=by
       refine⟨f3,q3,g3,o3,n3,cap3,rfl,hR3,hQ3,hLp3,fun y hyN hy=>?_,by omega,hb3,hsz3⟩
       rcases hcl3 y hyN hy with h | ⟨h1,h2⟩ | h
       ·exact .inl h
       ·refine .inr fun z hz=>?_;subst h1;obtain⟨t,ht,e⟩:=List.getElem_of_mem hz;refine h2 t z ?_ (by rw[← e];exact List.getElem?_eq_getElem ht);rw[hgkH.out,List.length_map,hxlH.out]at ht;omega
       ·exact .inr h
      have hme:2*unseenW B N wr+n3<2*unseenW B N wa+1:=by
       rw[unseenW_eq hR3,hMH.out];omega
      clear hcl3 hLp3 hQ3 hme3;obtain⟨hR3H,hb3H,RH,hmeH,hjnH⟩:=hqb hR3 hb3 R hme (Lib.hid hjn);clear hR3 hb3 R hme hjn;go_wp2;refine⟨?rel,?measure⟩
      case measure=>exact hmeH.out
      case rel=>first | exact RH.out | exact⟨rfl,RH.out⟩
   ·clear hn2;have hn0:decide (0<n)=true:=decide_eq_true (by omega);go_wp2_with fail
    go_loopw [6,30] (fun v iv wr=>LpIn l i B N k (2*unseenF f N+n) w v iv wr) (fun _ iv _=>x.after.n-(intOf iv).toNat)
    case atStart=>exact hstH.out
    case round =>
     obtain⟨j,f3,q3,g3,o3,n3,cap3,hj,rfl,rfl,hR3,hQ3,hLp3,hcl3,hme3,hb3,hsz3⟩:=hrel;have hjx:j≤x.after.n:=by have:=hj;rw[hgkH.out,List.length_map,hxlH.out]at this;exact this
     have hbs3:=hb3.size;have hgB:=hQ3.2.1;clear hj
     by_cases hlt:j<x.after.n
     ·obtain⟨ba,oa,hAa,_⟩:=hokH.out.1.2.1 (by omega);obtain⟨s,hs⟩:∃ s,x.after.l[j]? = some s:=⟨x.after.l[j]'(by have:=hxlH.out;omega),List.getElem?_eq_getElem _⟩;have hsl:=hokH.out.1;rw[hAa]at hsl;have c0:=cell_StrW (hsl.below hb3) hs;have hid:=hgxH.out s (List.mem_of_getElem? hs);obtain⟨a,ha⟩:∃ a,ixOf l s=a:=⟨_,rfl⟩;have haN:a<N:=by rw[← ha,← hll];exact ixOf_lt hid
      have hga:(gOf l k)[j]? = some a:=by rw[hgkH.out,List.getElem?_map,hs];simp[ha]
      have hagk:a∈gOf l k:=List.mem_of_getElem? hga;have hwo:woF l s=(a:Int):=by unfold woF;rw[if_pos hid,ha]
      have hway:Way (gOf l) i a:=by
       rcases hkqH.out.2 with h | h
       ·rw[← h];exact .one hagk
       ·exact .more h hagk
      have hjl:j+1≤(gOf l k).length:=by rw[hgkH.out,List.length_map,hxlH.out];omega
      obtain⟨hAaH,hsH,hslH,hidH,haH,hgaH,hagkH,hwoH,hwayH,hR3H,hQ3H,hLp3H,hcl3H,hme3H,hb3H,hjlH⟩:=hq2 hAa (hq2 hs (hq2 hsl (hqb hid ha hga hagk (hqc hwo hway hR3 hQ3 hLp3 hcl3 hme3 hb3 (Lib.hid hjl)))));clear hAa hs hsl hid ha hga hagk hwo hway hR3 hQ3 hLp3 hcl3 hme3 hb3 hjl;rw[hAaH.out];go_wp2_with fail;refine(workOf_any _ N c l s _ hN (hlH.out.below hb3H.out)).mono ?_;rintro e w5 ⟨rfl,hw5⟩;rw[hwoH.out];have hR5:=hR3H.out.below hw5 (show B<wr.heap.size by omega);have hQ5:=hQ3H.out.below hw5;have hb5:=hb3H.out.trans (hw5.mono hbs3);have hs5:B+1≤w5.heap.size:=by have:=hw5.size;omega
      clear hw5 c0 hR3H hQ3H
      by_cases hai:a=i
      ·have e1:((a:Int)==(i:Int))=true:=by rw[hai];simp
       have hii:Way (gOf l) i i:=by have:=hwayH.out;rwa [hai]at this
       obtain⟨haiH,hiiH,hR5H,hQ5H,hb5H⟩:=hqb hai hii hR5 hQ5 (Lib.hid hb5);clear hai hii hR5 hQ5 hb5;go_wp2;go_ret;exact⟨true,rfl,⟨fun _=>hiiH.out,fun _=>rfl⟩,hb5H.out⟩
      ·have e1:((a:Int)==(i:Int))=false:=by rw[beq_eq_false_iff_ne];omega
       have cR:=(hR5 a haN).1;obtain⟨fa,hfa⟩:∃ b,f3 a=b:=⟨_,rfl⟩;rw[hfa]at cR
       cases fa
       ·have hba6:Below w5.heap.size w5 (w5.alloc (.cells #[.int .i64 a] 3)):=(Below.refl _ _).alloc (Nat.le_refl _) _;have hR6:=hR5.below hba6 (by omega);have hQ6:=hQ5.below hba6;have hb6:=hb5.alloc hb5.size (.cells #[.int .i64 a] 3);have hs6:B+1≤(w5.alloc (.cells #[.int .i64 a] 3)).heap.size:=by rw[World.size_alloc];omega
        have hnew:(w5.alloc (.cells #[.int .i64 a] 3)).cell? ⟨w5.heap.size,0,none⟩=some (.int .i64 a):=cell_new w5 _ _ 0;have hI:I64 (a:Int):=by unfold I64;omega
        have hn3:n3+1≤1000000:=by
         have h1:=hme3H.out;have h2:=unseenF_le f3 N;have h3:=hMb;omega
        have hgB2:w.heap.size≤g3:=by omega
        clear hba6 hQ5 hb5;obtain⟨haiH,hR5H,hR6H,hQ6H,hb6H,hs6H,hnewH,hIH,hn3H,hfaH⟩:=hq2 hai (hqc hR5 hR6 hQ6 hb6 hs6 hnew hI hn3 (Lib.hid hfa));clear hai hR5 hR6 hQ6 hb6 hs6 hnew hI hn3 hfa;go_wp2_with (at_builtin;go_loud (refine wpList_que_app rfl (.tmp 47) (.tmp 49) 56 rfl Tryz.underlying56 rfl hQ6H.out ⟨w5.heap.size,0,none⟩ 1 (a:Int) rfl hnewH.out hIH.out hn3H.out hs6H.out ?_);intro g4 o4 cap4 w8 hQ8 hg8 hat8;have hR8:=hR6H.out.kept hg8 (fun e=>by injection e with e;omega);have cR8:=(hR8 a haN).1;have fR8:=(hR8 a haN).2;have hR8H:=Lib.hid hR8;clear hR8;have hQ8H:=Lib.hid hQ8;clear hQ8;have hg8H:=Lib.hid hg8;clear hg8;have hat8H:=Lib.hid hat8;clear hat8);have hb8:=hb6H.out.trans (grown_below hg8H.out hgB2 hb6H.out.size);have hs8:B+1≤w8.heap.size:=by have h1:=hg8H.out.size;have h2:=hs6H.out;omega
        have R:LpIn l i B N k (2*unseenF f N+n) w (.slice (some ⟨g4,o4,none⟩) (n3+1) cap4) (.int .i64 (j+1)) (w8.setCell ⟨B,a,none⟩ (.bool true)):=by
         have hu:=unseenF_set hfaH.out N;rw[if_pos haN]at hu;have hm:=hme3H.out;refine⟨j+1,(fun t=>if t=a then true else f3 t),q3 ++ [a],g4,o4,n3+1,cap4,hjlH.out,by go_num,rfl,hR8H.out.set true,by rw[nz_snoc];exact hQ8H.out.set (by have:=hQ8H.out.2.1;show g4≠B;omega) _,⟨fun y hy=>?_,fun y hyN hy=>?_⟩,fun y hyN hy=>?_,by omega,hb8.trans (grown_below (grown_setc w8 ⟨B,a,none⟩ (.bool true)) (by show w.heap.size≤B;omega) hb8.size),by rw[World.size_setCell];exact hs8⟩
         ·rcases List.mem_append.1 hy with hy | hy
          ·exact hLp3H.out.q y hy
          ·rw[List.mem_singleton]at hy;subst hy;exact⟨haN,.inr hwayH.out⟩
         ·have hy:(if y=a then true else f3 y)=true:=hy
          split at hy
          ·rename_i e;rw[e];exact hwayH.out
          ·exact hLp3H.out.f y hyN hy
         ·by_cases e:y=a
          ·subst e;exact .inl (List.mem_append.2 (.inr (List.mem_singleton.2 rfl)))
          ·have hup:∀ z,f3 z=true→(if z=a then true else f3 z)=true:=fun z hz=>by split <;> first | rfl | exact hz
           simp only[if_neg e]at hy
           rcases hcl3H.out y hyN hy with h | ⟨h1,h2⟩ | h
           ·exact .inl (List.mem_append.2 (.inl h))
           ·refine .inr (.inl ⟨h1,fun t z ht hz=>?_⟩)
            by_cases etj:t=j
            ·subst etj;rw[hgaH.out]at hz;injection hz with hz;subst hz;exact⟨haiH.out,by simp⟩
            ·have:=h2 t z (by omega) hz;exact⟨this.1,hup z this.2⟩
           ·exact .inr (.inr fun z hz=>⟨(h z hz).1,hup z (h z hz).2⟩)
        clear cR8 fR8 hb8;have RH:=Lib.hid R;clear R
        first
         | refine⟨?rel,?measure⟩
         | (go_wp2;refine⟨?rel,?measure⟩)
        case measure=>(simp[intOf];omega)
        case rel=>first | exact RH.out | exact⟨rfl,RH.out⟩ | ((try refine⟨rfl,?_⟩);(repeat apply Exists.intro);refine⟨RH.out,?_⟩;((repeat' apply And.intro) <;> rfl))
       ·have R:LpIn l i B N k (2*unseenF f N+n) w (.slice (some ⟨g3,o3,none⟩) n3 cap3) (.int .i64 (j+1)) w5:=by
         refine⟨j+1,f3,q3,g3,o3,n3,cap3,hjlH.out,by go_num,rfl,hR5,hQ5,hLp3H.out,fun y hyN hy=>?_,hme3H.out,hb5,hs5⟩
         rcases hcl3H.out y hyN hy with h | ⟨h1,h2⟩ | h
         ·exact .inl h
         ·refine .inr (.inl ⟨h1,fun t z ht hz=>?_⟩)
          by_cases etj:t=j
          ·subst etj;rw[hgaH.out]at hz;injection hz with hz;subst hz;exact⟨hai,hfa⟩
          ·exact h2 t z (by omega) hz
         ·exact .inr (.inr h)
        clear hQ5 hb5;obtain⟨haiH,hfaH,hR5H,RH⟩:=hq2 hai (hq2 hfa (hq2 hR5 (Lib.hid R)));clear hai hfa hR5 R;go_wp2;refine⟨?rel,?measure⟩
        case measure=>(simp[intOf];omega)
        case rel=>first | exact RH.out | exact⟨rfl,RH.out⟩
     ·have hjn:j=x.after.n:=by omega
      have R:LpRel l i B N w (.slice (some ⟨g3,o3,none⟩) n3 cap3) wr:=by
       refine⟨f3,q3,g3,o3,n3,cap3,rfl,hR3,hQ3,hLp3,fun y hyN hy=>?_,by omega,hb3,hsz3⟩
       rcases hcl3 y hyN hy with h | ⟨h1,h2⟩ | h
       ·exact .inl h
       ·refine .inr fun z hz=>?_;subst h1;obtain⟨t,ht,e⟩:=List.getElem_of_mem hz;refine h2 t z ?_ (by rw[← e];exact List.getElem?_eq_getElem ht);rw[hgkH.out,List.length_map,hxlH.out]at ht;omega
       ·exact .inr h
      have hme:2*unseenW B N wr+n3<2*unseenW B N wa+n:=by
       rw[unseenW_eq hR3,hMH.out];omega
      clear hcl3 hLp3 hQ3 hme3;obtain⟨hR3H,hb3H,RH,hmeH,hjnH⟩:=hqb hR3 hb3 R hme (Lib.hid hjn);clear hR3 hb3 R hme hjn;go_wp2;refine⟨?rel,?measure⟩
      case measure=>exact hmeH.out
      case rel=>first | exact RH.out | exact⟨rfl,RH.out⟩
end Go.Proofs.YtbnkoefljcekbaaGreatDoor.C9