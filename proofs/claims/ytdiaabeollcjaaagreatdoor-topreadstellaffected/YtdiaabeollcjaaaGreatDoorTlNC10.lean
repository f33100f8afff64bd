/-
 Several texts of mine as one, without what is not wanted here: XChK, XDigB, XExG.
-/
import Derived.Test.YtdiaabeollcjaaaGreatDoorTlMC10
set_option linter.unusedVariables false
set_option linter.unusedSimpArgs false
set_option maxRecDepth 100000
set_option maxHeartbeats 8000000
namespace Go.Proofs.YtdiaabeollcjaaaGreatDoor.C10
open Go.ChangeShapes Go.WideShapes Go.Deep Go.RowKit Go.Lib Go.Maps
theorem zeroB (w:World):(zeroValue 4).run Tryz.prog w = .ok (valB false) w:=by kernel_rfl
theorem any_range (f:Nat→Bool) (k:Nat):(List.range (k+1)).any f=((List.range k).any f||f k):=by
 rw[List.range_succ,List.any_append];simp
theorem clashes_any (s:ByteArray) (hs:s.size≤200) (b:Nat) (g:ByteArray→Option Bool) (h:ByteArray→Bool) (hg:∀ p,(g p).getD false=h p) (c:Nat) (w:World) (hmp:TMap KB valB w b g c) :
  Calls Tryz.prog 39 #[.map (some b),.string s] w fun e w'=>e = .returned (.bool (clashP h s))∧w'=w:=by
 obtain⟨q,hq⟩:∃ q,clashP h s=q:=⟨_,rfl⟩;rw[hq];have hmpH:=Lib.hid hmp;clear hmp;go_enter Tryz.func39,Tryz.ntmps39;go_wp2_with fail
 go_loopw [8] (fun i wr=>w=wr∧∃ k:Nat,k≤s.size∧i = .int .i64 k∧(List.range k).any (clAt h s)=false) (fun i _=>s.size-(intOf i).toNat)
 case atStart=>exact⟨rfl,0,Nat.zero_le _,rfl,rfl⟩
 case round =>
  obtain⟨rfl,k,hk,rfl,hno⟩:=hrel
  by_cases hlt:k<s.size
  ·have j0:(k:Int)≤(s.size:Int):=by omega
   have hez:(s.extract 0 k).size≤maxLen:=by rw[ByteArray.size_extract];unfold maxLen;omega
   obtain⟨v,hv⟩:∃ v,h (s.extract 0 k)=v:=⟨_,rfl⟩;have hlk:(Instr.lookup 74 (.map (some b)) (.string (s.extract 0 k)) false).run Tryz.prog w = .ok (.bool v) w:=by
    rw[← hv,← hg];exact(hmpH.out.look (t:=74) Tryz.underlying74 (z0:=false) (zeroB w) injB (x:=s.extract 0 k) hez).1
   have hcl:clAt h s k=(decide (s[k].toNat=47)&&v):=by unfold clAt;rw[dif_pos hlt,hv]
   by_cases h47:s[k].toNat=47
   ·have h47':((s[k].toNat:Int)==47)=true:=by rw[h47];rfl
    rw[h47]at hcl
    cases v
    ·have R:∃ k_1:Nat,k_1≤s.size∧Value.int .i64 ((k:Int)+1)=Value.int .i64 k_1∧(List.range k_1).any (clAt h s)=false:=⟨k+1,by omega,by go_num,by rw[any_range,hno,hcl];rfl⟩;clear hcl hno hv hq;have RH:=Lib.hid R;clear R;go_wp2_with fail;exact⟨⟨trivial,RH.out⟩,by simp[intOf];omega⟩
    ·have hq1:q=true:=by
      rw[← hq];unfold clashP;rw[List.any_eq_true];exact⟨k,List.mem_range.2 hlt,by rw[hcl];rfl⟩
     subst hq1;clear hcl hno hv hq;go_wp2_with fail;go_ret;exact⟨rfl,rfl⟩
   ·have h47':((s[k].toNat:Int)==47)=false:=by simp;omega
    have R:∃ k_1:Nat,k_1≤s.size∧Value.int .i64 ((k:Int)+1)=Value.int .i64 k_1∧(List.range k_1).any (clAt h s)=false:=⟨k+1,by omega,by go_num,by rw[any_range,hno,hcl,decide_eq_false h47];rfl⟩;clear hcl hno hv hq;have RH:=Lib.hid R;clear R;go_wp2_with fail;exact⟨⟨trivial,RH.out⟩,by simp[intOf];omega⟩
  ·obtain rfl:k=s.size:=by omega
   have hq1:q=false:=by rw[← hq];exact hno
   subst hq1;clear hq hno;go_wp2_with fail;go_ret;exact⟨rfl,rfl⟩
theorem totF_snoc (l:List File) (y:File):totF (l ++ [y])=totF l+y.bytes.l.length:=by unfold totF;simp
theorem hasF_snoc (l:List File) (y:File) (p:ByteArray):hasF (l ++ [y]) p=(hasF l p||decide (y.path=p)):=by unfold hasF;rw[List.any_append];simp
def CfAns (l:List File) (w:World) (e:Ending) (w':World):Prop:=∃ k:Int,e = .returned (.int .i64 k)∧Below w.heap.size w w'∧(k=0↔FilesX l)
def FilesOk (l:List File):Prop:=l.length≤1000∧∀ y∈l,pathB y.path=true∧y.bytes.l.length≤100000
def CfRel (l:List File) (w:World) (t i:Value) (wr:World):Prop :=
 ∃ (k tot c:Nat) (g:ByteArray→Option Bool),k≤l.length∧i = .int .i64 k∧t = .int .i64 tot∧tot=totF (l.take k)∧tot≤100000*k∧c≤k∧TMap KB valB wr w.heap.size g c∧Below w.heap.size w wr∧(∀ j y,j<k→l[j]? = some y→pathB y.path=true∧y.bytes.l.length≤100000) ∧
  (∀ j y z,j+1<k→l[j]? = some y→l[j+1]? = some z→sle z.path y.path=false)∧∀ p,(g p).getD false=hasF (l.take k) p
def CfRel2 (l:List File) (w:World) (i:Value) (wr:World):Prop :=
 ∃ (k c:Nat) (g:ByteArray→Option Bool),k≤l.length∧i = .int .i64 k∧TMap KB valB wr w.heap.size g c∧Below w.heap.size w wr∧(∀ p,(g p).getD false=hasF l p)∧∀ j y,j<k→l[j]? = some y→clashP (hasF l) y.path=false
theorem checkFiles_x (A:Option Addr) (m c:Nat) (l:List File) (w:World) (hm:MaxLenAt w) (hl:SlAt RFile w A m l) :
  Calls Tryz.prog 20 #[.slice A m c] w (CfAns l w):=by
 obtain⟨Z,hZ⟩:∃ Z,CfAns l w=Z:=⟨_,rfl⟩;have hZ':∀ e W,CfAns l w e W→Z e W:=fun e W h=>by rw[← hZ];exact h
 rw[hZ];clear hZ;have hln:=hl.1;have hmk:=@run_makeMap Tryz.prog;have R0:∀ (k:Int) W,k≠0→¬ FilesX l→Below w.heap.size w W→Z (.returned (.int .i64 k)) W:=fun k W hk hn h=>hZ' _ _ ⟨k,rfl,h,fun e=>absurd e hk,fun e=>absurd e hn⟩
 by_cases hm50:m≤1000
 ·have i5:¬ (1000:Int)<(m:Int):=by omega
  have hst:CfRel l w (.int .i64 0) (.int .i64 0) (w.alloc (.map #[] 0)):=⟨0,0,0,_,Nat.zero_le _,rfl,rfl,rfl,Nat.zero_le _,Nat.le_refl _,TMap.made w KB valB,(Below.refl _ _).alloc (Nat.le_refl _) _,(fun j v h=>absurd h (by omega)),(fun j v z h=>absurd h (by omega)),fun p=>rfl⟩;obtain⟨hZ'H,hmH,hlH,R0H,hstH⟩:=hqb hZ' hm hl R0 (Lib.hid hst);clear hZ' hm hl R0 hst;go_enter Tryz.func20,Tryz.ntmps20;go_wp2_with fail
  go_loopw [3,15] (fun t i wr=>CfRel l w t i wr) (fun _ i _=>m-(intOf i).toNat)
  case atStart=>exact hstH.out
  case round =>
   clear hstH;obtain⟨k,tot,cc,g,hk,rfl,rfl,hte,htot,hcc,hmp,hb,hall,hord,hgh⟩:=hrel
   by_cases hlt:k<m
   ·obtain⟨y,hy⟩:∃ y,l[k]? = some y:=⟨l[k]'(by omega),List.getElem?_eq_getElem _⟩;have hsl:=hlH.out.below hb;obtain⟨b1,o1,hA1,_⟩:=hsl.2.1 (by omega);subst hA1;obtain⟨d0,d1,d2⟩:=cells_File hsl hy;obtain⟨hyz,_,hyb⟩:=hsl.2.2 y (List.mem_of_getElem? hy);have hybl:y.bytes.l.length=y.bytes.n:=hyb.1.1;have hylen:y.bytes.n≤maxLen:=Nat.le_trans hyb.2.1 hyb.2.2.1;unfold maxLen at hylen;obtain⟨yp,yr,⟨yA,yn,yc,yl⟩⟩:=y;simp only at d0 d1 d2 hyz hybl hylen;have hyz:yp.size≤maxLen:=hyz;have hba:=(Below.refl wr.heap.size wr).alloc (Nat.le_refl _) (.cells #[.string yp,.bool yr,.slice yA yn yc] 58);have hzq:Blk (wr.alloc (.cells #[.string yp,.bool yr,.slice yA yn yc] 58)) wr.heap.size [.string yp,.bool yr,.slice yA yn yc]:=blk_new wr [.string yp,.bool yr,.slice yA yn yc] 58;obtain⟨pb,hpb⟩:∃ b,pathB yp=b:=⟨_,rfl⟩;have hwrs:=hb.size;have hb01:=hb.trans (hba.mono hwrs);have hmlt:=hmp.lt;have hpa:=isPath_any yp (wr.alloc (.cells #[.string yp,.bool yr,.slice yA yn yc] 58)) (hmH.out.below hb01) pb hpb;obtain⟨z0,_⟩:=hzq 0 _ rfl;have hmp1:=hmp.alloc (.cells #[.string yp,.bool yr,.slice yA yn yc] 58);obtain⟨hbH,hslH,hyH,hybH,hbaH,hzqH,hpaH,hb01H,hmpH,hmp1H,hteH⟩:=hq2 hb (hq2 hsl (hqc hy hyb hba hzq hpa hb01 hmp hmp1 (Lib.hid hte)));clear hb hsl hy hyb hba hzq hpa hb01 hmp hmp1 hte;go_wp2_with fail;refine hpaH.out.mono ?_;rintro e w2 ⟨rfl,hb2⟩;have hb02:=hb01H.out.trans (hb2.mono hb01H.out.size)
    cases pb
    ·have R:=R0H.out 3 w2 (by decide) (fun hx=>by have:=(hx.row k _ hyH.out).1;rw[hpb]at this;cases this) hb02;clear hall hord hgh;obtain⟨hb2H,hb02H,RH⟩:=hq2 hb2 (hq2 hb02 (Lib.hid R));clear hb2 hb02 R;go_wp2_with fail;exact RH.out
    ·have hz2:=blk_below hzqH.out (by simp) hb2;obtain⟨x0,_⟩:=hz2 0 _ rfl;obtain⟨x2,_⟩:=hz2 2 _ rfl;have hmp2:=hmp1H.out.below hb2 (by simp;omega);have hw2s:=hb02.size
     by_cases hn1:yn≤100000
     ·have i1:¬ (100000:Int)<(yn:Int):=by omega
      have R8:=fun q (h8:¬ FilesX l)=>R0H.out 8 (w2.drewN q) (by decide) h8 (bel_drewN hb02 q);have htk:l.take (k+1)=l.take k ++ [⟨yp,yr,⟨yA,yn,yc,yl⟩⟩]:=by rw[List.take_add_one,hyH.out];rfl
      have Rn:∀ W c',TMap KB valB W w.heap.size (upd g yp true) c'→c'≤k+1→Below w.heap.size w W→(0<k→∀ z,l[k-1]? = some z→sle yp z.path=false)→CfRel l w (.int .i64 ((tot:Int)+(yn:Int))) (.int .i64 ((k:Int)+1)) W:=fun W c' h1 h2 h3 h4=>⟨k+1,tot+yn,c',_,by omega,by go_num,by go_num,by rw[htk,totF_snoc,← hteH.out];show tot+yn=tot+yl.length;omega,by omega,h2,h1,h3,(fun j v hj hv2=>by
       rcases Nat.lt_or_ge j k with h | h
       ·exact hall j v h hv2
       ·obtain rfl:j=k:=by omega
        rw[hyH.out]at hv2;injection hv2 with hv2;subst hv2;exact⟨hpb,by show yl.length≤_;omega⟩),(fun j v z hj hv2 hz2=>by
       rcases Nat.lt_or_ge (j+1) k with h | h
       ·exact hord j v z h hv2 hz2
       ·obtain rfl:k=j+1:=by omega
        rw[hyH.out]at hz2;injection hz2 with hz2;subst hz2;exact h4 (by omega) v hv2),fun p=>by
       rw[htk,hasF_snoc,← hgh];unfold upd
       by_cases e:p=yp
       ·subst e;simp
       ·rw[if_neg e,decide_eq_false (fun e'=>e e'.symm),Bool.or_false]⟩
      clear hall hord hgh htk;have hmpq:=fun q=>hmp2.below (bel_drewN (Below.refl w2.heap.size w2) q) hmp2.lt;have hwlt:w.heap.size<w2.heap.size:=hmp2.lt;obtain⟨hb2H,hb02H,hz2H,hmp2H,R8H,RnH,hmpqH⟩:=hq2 hb2 (hq2 hb02 (hqb hz2 hmp2 R8 Rn (Lib.hid hmpq)));clear hb2 hb02 hz2 hmp2 R8 Rn hmpq
      by_cases hk0:0<k
      ·have e1:decide (0<k)=true:=decide_eq_true hk0;obtain⟨z,hz9⟩:∃ z,l[k-1]? = some z:=⟨l[k-1]'(by omega),List.getElem?_eq_getElem _⟩;obtain⟨f0,_⟩:=cells_File (hlH.out.below hb02H.out) hz9;have j0:(0:Int)≤(k:Int)-1:=by omega
       have j1:(k:Int)-1<(m:Int):=by omega
       have j2:((k:Int)-1).toNat=k-1:=by omega
       cases hle:sle yp z.path
       ·have hle':(Op.bytesLess yp.toList z.path.toList||yp.toList==z.path.toList)=false:=hle;have h4:∀ z,l[k-1]? = some z→sle yp z.path=false:=fun z' e=>by rw[hz9]at e;injection e with e;subst e;exact hle
        clear hz9 hle;have h4H:=Lib.hid h4;clear h4;go_wp2_with fail
        go_quiet (fail)
        go_wp2_with (at_mapUpdate;go_loud (refine wpList_tstore rfl (.tmp 49) (.tmp 51) (.const (.bool true)) 74 rfl Tryz.underlying74 injB rfl (hmpqH.out _) (by simp only[maxLen];omega) yp rfl hyz true rfl ?_);intro w6 hm6 hg6;have hm6H:=Lib.hid hm6;clear hm6;have hg6H:=Lib.hid hg6;clear hg6);exact⟨RnH.out _ _ hm6H.out (Nat.le_trans (ite_le_succ _ _) (by omega)) ((bel_drewN hb02H.out _).trans (grown_below hg6H.out (Nat.le_refl _) (by have:=hb02H.out.size;exact this))) (fun _=>h4H.out),by simp[intOf];omega⟩
       ·have hle':(Op.bytesLess yp.toList z.path.toList||yp.toList==z.path.toList)=true:=hle;have h8:¬ FilesX l:=fun hx=>by
         have:=hx.ord (k-1) z _ hz9 (by rw[show k-1+1=k by omega];exact hyH.out);rw[hle]at this;cases this
        clear hz9 hle;have h8H:=Lib.hid h8;clear h8;go_wp2_with fail
        go_quiet (fail)
        go_wp2_with fail;exact R8H.out _ h8H.out
      ·have e1:decide (0<k)=false:=decide_eq_false hk0;go_wp2_with fail
       go_quiet (fail)
       go_wp2_with (at_mapUpdate;go_loud (refine wpList_tstore rfl (.tmp 49) (.tmp 51) (.const (.bool true)) 74 rfl Tryz.underlying74 injB rfl (hmpqH.out _) (by simp only[maxLen];omega) yp rfl hyz true rfl ?_);intro w6 hm6 hg6;have hm6H:=Lib.hid hm6;clear hm6;have hg6H:=Lib.hid hg6;clear hg6);exact⟨RnH.out _ _ hm6H.out (Nat.le_trans (ite_le_succ _ _) (by omega)) ((bel_drewN hb02H.out _).trans (grown_below hg6H.out (Nat.le_refl _) (by have:=hb02H.out.size;exact this))) (fun h=>absurd h hk0),by simp[intOf];omega⟩
     ·have i1:(100000:Int)<(yn:Int):=by omega
      have R:=R0H.out 2 w2 (by decide) (fun hx=>by have:yl.length≤100000:=(hx.row k _ hyH.out).2;omega) hb02;clear hall hord hgh;obtain⟨hb2H,hb02H,hz2H,hmp2H,RH⟩:=hqb hb2 hb02 hz2 hmp2 (Lib.hid R);clear hb2 hb02 hz2 hmp2 R;go_wp2_with fail;exact RH.out
   ·obtain rfl:k=m:=by omega
    rw[List.take_of_length_le (by omega)]at hgh hte;have hrow:∀ (j:Nat) y,l[j]? = some y→pathB y.path=true∧y.bytes.l.length≤100000:=fun j y hj=>hall j y (by have:=(List.getElem?_eq_some_iff.1 hj).1;omega) hj;have hord2:∀ (j:Nat) y z,l[j]? = some y→l[j+1]? = some z→sle z.path y.path=false:=fun j y z h1 h2=>hord j y z (by have:=(List.getElem?_eq_some_iff.1 h2).1;omega) h1 h2;have hst2:CfRel2 l w (.int .i64 0) wr:=⟨0,cc,g,Nat.zero_le _,rfl,hmp,hb,hgh,fun j y h=>absurd h (by omega)⟩;clear hall hord hgh;obtain⟨hbH,hmpH,hrowH,hord2H,hst2H,hteH⟩:=hq2 hb (hqb hmp hrow hord2 hst2 (Lib.hid hte));clear hb hmp hrow hord2 hst2 hte;go_wp2_with fail
    go_loopw [55] (fun i wr=>CfRel2 l w i wr) (fun i _=>k-(intOf i).toNat)
    case atStart=>exact hst2H.out
    case round =>
     clear hst2H;obtain⟨k2,c2,g2,hk2,rfl,hmp2,hb2,hgh2,hcl2⟩:=hrel
     by_cases hlt2:k2<k
     ·obtain⟨y,hy⟩:∃ y,l[k2]? = some y:=⟨l[k2]'(by omega),List.getElem?_eq_getElem _⟩;have hsl:=hlH.out.below hb2;obtain⟨b1,o1,hA1,_⟩:=hsl.2.1 (by omega);subst hA1;obtain⟨d0,d1,d2⟩:=cells_File hsl hy;have hyp:=(hrowH.out k2 y hy).1;obtain⟨yp,yr,⟨yA,yn,yc,yl⟩⟩:=y;simp only at d0 d1 d2 hyp;have hps:=pathB_le hyp;have hba:=(Below.refl wr.heap.size wr).alloc (Nat.le_refl _) (.cells #[.string yp,.bool yr,.slice yA yn yc] 58);have hzq:Blk (wr.alloc (.cells #[.string yp,.bool yr,.slice yA yn yc] 58)) wr.heap.size [.string yp,.bool yr,.slice yA yn yc]:=blk_new wr [.string yp,.bool yr,.slice yA yn yc] 58;have hmp3:=hmp2.alloc (.cells #[.string yp,.bool yr,.slice yA yn yc] 58);have hwrs:=hb2.size;have hb03:=hb2.trans (hba.mono hwrs);obtain⟨z0,_⟩:=hzq 0 _ rfl;have hcl:=clashes_any yp hps w.heap.size g2 (hasF l) hgh2 c2 _ hmp3;obtain⟨q,hq⟩:∃ q,clashP (hasF l) yp=q:=⟨_,rfl⟩;rw[hq]at hcl;have R12:q=true→_:=fun e=>R0H.out 12 _ (by decide) (fun hx=>by have:=hx.cl k2 _ hy;rw[show clashP (hasF l) _=q from hq,e]at this;cases this) hb03;have Rn:q=false→CfRel2 l w (.int .i64 ((k2:Int)+1)) (wr.alloc (.cells #[.string yp,.bool yr,.slice yA yn yc] 58)):=fun e=>⟨k2+1,c2,g2,by omega,by go_num,hmp3,hb03,hgh2,fun j y' hj hy'=>by
       rcases Nat.lt_or_ge j k2 with h | h
       ·exact hcl2 j y' h hy'
       ·obtain rfl:j=k2:=by omega
        rw[hy]at hy';injection hy' with hy';subst hy';show clashP (hasF l) yp=false;rw[hq,e]⟩
      clear hgh2 hcl2;obtain⟨hb2H,hmp2H,hslH,hyH,hbaH,hzqH,hmp3H,hb03H,hclH,R12H,RnH,hqH⟩:=hq2 hb2 (hq2 hmp2 (hq2 hsl (hqc hy hba hzq hmp3 hb03 hcl R12 Rn (Lib.hid hq))));clear hb2 hmp2 hsl hy hba hzq hmp3 hb03 hcl R12 Rn hq;go_wp2_with fail;refine hclH.out.mono ?_;rintro e w2 ⟨rfl,rfl⟩
      cases q
      ·go_wp2_with fail;exact⟨RnH.out trivial,by simp[intOf];omega⟩
      ·go_wp2_with fail;exact R12H.out trivial
     ·have hcl3:∀ (j:Nat) y,l[j]? = some y→clashP (hasF l) y.path=false:=fun j y hj=>hcl2 j y (by have:=(List.getElem?_eq_some_iff.1 hj).1;omega) hj;have hte2:=hteH.out;clear hgh2 hcl2
      by_cases hbig:tot≤2000000
      ·have ib:¬ (2000000:Int)<(tot:Int):=by omega
       have Rk:=hZ'H.out (.returned (.int .i64 0)) wr ⟨0,rfl,hb2,fun _=>⟨by omega,hrowH.out,hord2H.out,hcl3,by omega⟩,fun _=>rfl⟩;obtain⟨hb2H,hmp2H,hcl3H,RkH⟩:=hq2 hb2 (hq2 hmp2 (hq2 hcl3 (Lib.hid Rk)));clear hb2 hmp2 hcl3 Rk;go_wp2_with fail;exact RkH.out
      ·have ib:(2000000:Int)<(tot:Int):=by omega
       have R2b:=R0H.out 2 wr (by decide) (fun hx=>by have:=hx.tot;omega) hb2;obtain⟨hb2H,hmp2H,hcl3H,R2bH⟩:=hq2 hb2 (hq2 hmp2 (hq2 hcl3 (Lib.hid R2b)));clear hb2 hmp2 hcl3 R2b;go_wp2_with fail;exact R2bH.out
 ·have i5:(1000:Int)<(m:Int):=by omega
  have R2:=R0 2 w (by decide) (fun hx=>by have:=hx.len;omega) (Below.refl _ _);obtain⟨hZ'H,hmH,hlH,R0H,R2H⟩:=hqb hZ' hm hl R0 (Lib.hid R2);clear hZ' hm hl R0 R2;go_enter Tryz.func20,Tryz.ntmps20;go_wp2_with fail;exact R2H.out
theorem FilesX.ok {l:List File} (h:FilesX l):FilesOk l:=⟨h.len,fun y hy=>by
 obtain⟨j,hj,rfl⟩:=List.mem_iff_getElem.1 hy;exact h.row j _ (List.getElem?_eq_getElem hj)⟩
end Go.Proofs.YtdiaabeollcjaaaGreatDoor.C10
namespace Go.Proofs.YtdiaabeollcjaaaGreatDoor.C10
open Go.RowKit Go.Shelf
def hexcut:List UInt8:=[48,49,50,51,52,53,54,55,56,57,97,98,99,100,101,102]
def digB (s:ByteArray):Bool:=decide (s.size=16)&&s.data.toList.all (hexcut.contains ·)
theorem trim_hex (s:ByteArray) (w:World) (hs:s.size≤9223372036854775807) :
  Calls Tryz.prog 75 #[.string s,.string ⟨#[48,49,50,51,52,53,54,55,56,57,97,98,99,100,101,102]⟩] w fun e w' =>
   e = .returned (.string ⟨(Lib.trimS s.data.toList hexcut).toArray⟩)∧Below w.heap.size w w' :=
 Any.strings_Trim_laid Tryz.lays160 (by kernel_rfl) s ⟨#[48,49,50,51,52,53,54,55,56,57,97,98,99,100,101,102]⟩ w hs (by decide) (ascii_of_all (by decide))
theorem dig_any (s:ByteArray) (w:World) (b:Bool) (hb:digB s=b) :
  Calls Tryz.prog 52 #[.string s] w fun e w'=>e = .returned (.bool b)∧Below w.heap.size w w':=by
 unfold digB at hb
 by_cases h:s.size=16
 ·rw[decide_eq_true h,Bool.true_and]at hb;have h9:s.size≤9223372036854775807:=by omega
  have hI:(s.size:Int)=16:=by omega
  cases b
  ·obtain⟨c,r,hcr⟩:=trim_some hb;obtain⟨hbH,hcrH,hH⟩:=hq2 hb (hq2 hcr (Lib.hid h));clear hb hcr h;go_enter Tryz.func52,Tryz.ntmps52;go_wp2_with fail;refine(trim_hex s _ h9).mono ?_;rw[hcrH.out];rintro e w1 ⟨rfl,hb1⟩;have hb1H:=Lib.hid hb1;clear hb1;go_wp2;go_ret;exact⟨rfl,hb1H.out⟩
  ·have hcr:=trim_nil hb;obtain⟨hbH,hcrH,hH⟩:=hq2 hb (hq2 hcr (Lib.hid h));clear hb hcr h;go_enter Tryz.func52,Tryz.ntmps52;go_wp2_with fail;refine(trim_hex s _ h9).mono ?_;rw[hcrH.out];rintro e w1 ⟨rfl,hb1⟩;have hb1H:=Lib.hid hb1;clear hb1;go_wp2;go_ret;exact⟨rfl,hb1H.out⟩
 ·rw[decide_eq_false h,Bool.false_and]at hb;subst hb;have hI:((s.size:Int)==16)=false:=by rw[beq_eq_false_iff_ne];omega
  have hI2:¬ (s.size:Int)=16:=by omega
  have hH:=Lib.hid h;clear h;go_enter Tryz.func52,Tryz.ntmps52;go_wp2_with fail;go_ret;exact⟨rfl,Below.refl _ _⟩
end Go.Proofs.YtdiaabeollcjaaaGreatDoor.C10
namespace Go.Proofs.YtdiaabeollcjaaaGreatDoor.C10
open Go.ChangeShapes Go.WideShapes Go.Deep Go.RowKit Go.Maps
def RLk:Rd Lk:=⟨3,fun x=>[.string x.path,.string x.digest,.bool x.run],fun _ _=>True,fun _=>0,fun _=>rfl,fun _ u h=>by simp only[List.mem_cons,List.not_mem_nil,or_false]at h;rcases h with rfl | rfl | rfl <;> rfl,fun _ _ _ _ h=>h⟩
def lkE (s:ES) (p:ByteArray):Lk:=(s.lk p).getD lk0
def QS (q B:Nat):Nat→Prop:=fun k=>k=q∨B≤k
structure AR (n q B:Nat) (x:Action) (s:ES) (cl:Nat) (w:World):Prop where
 blk:Blk w (n+3) (wCells x n s.told s.total)
 fl:TMap KS valL w (n+2) s.lk cl
 fo:∃ g,TMap KS valF w (n+1) g s.nw∧FilesAt (QS q B) w g s.wr
 lo:n+4≤q
 qB:q<B
 le:B≤w.heap.size
theorem cells_not8 {w:World} {q:Nat} {a d:Int} {b:ByteArray} {A A':Option Addr} {m c m' c':Nat} {e:TypeId} {fz:Nat × Nat} (hq:w.heap[q]? = some (.cells #[.int .i64 a,.string b,.slice A m c,.slice A' m' c',.int .i64 d] e fz)) {off:Nat} {u:UInt8} :
  w.cell? ⟨q,off,none⟩≠some (.int .u8 (u.toNat:Nat)):=by
 intro h;unfold World.cell? at h;simp only[hq]at h
 match off,h with
 | 0,h=>simp at h
 | 1,h=>simp at h
 | 2,h=>simp at h
 | 3,h=>simp at h
 | 4,h=>simp at h
 | k+5,h=>simp at h
theorem AR.of {W0:World} {n T:Nat} {x:Action} {I:Inp} {s:ES} {cl:Nat} {w:World} (h:WA W0 n T x I s cl w) {q:Nat} {a d:Int} {b:ByteArray} {A A':Option Addr} {m c m' c':Nat} {e:TypeId} {fz:Nat × Nat}
  (hq:w.heap[q]? = some (.cells #[.int .i64 a,.string b,.slice A m c,.slice A' m' c',.int .i64 d] e fz)) (hn:n+4≤q):AR n q w.heap.size x s cl w:=by
 have hlt:q<w.heap.size:=(Array.getElem?_eq_some_iff.1 hq).1;obtain⟨g,hg,hg2⟩:=h.fo;refine⟨h.blk,h.fl,⟨g,hg,fun p=>?_⟩,hn,hlt,Nat.le_refl _⟩
 rcases hg2 p with h1 | ⟨v,y,h1,h2,h3⟩
 ·exact .inl h1
 ·refine .inr ⟨v,y,h1,h2,h3.path,h3.run,⟨h3.bts.1,fun h0 ad hA hs=>?_⟩,h3.len⟩;have hsl:SlAt RU8 w v.A v.n y.bs:=h3.bts.1.1;rw[hA]at hsl
  rcases hs with hs | hs
  ·have hl:=hsl.1;obtain⟨b',o',hA',hc'⟩:=hsl.2.1 h0;injection hA' with hA';have hx:y.bs[0]? = some (y.bs[0]'(by omega)):=List.getElem?_eq_getElem _;have:=hc' 0 _ hx 0 _ rfl;rw[hA']at hs;have hs:b'=q:=hs;rw[hs]at this;exact cells_not8 hq this
  ·have:=slAt_lt hsl h0 (by decide);omega
theorem AR.kp {n q B:Nat} {x:Action} {s:ES} {cl:Nat} {w w':World} (h:AR n q B x s cl w) (hk:Kp (QS q B) w w'):AR n q B x s cl w':=by
 obtain⟨g,hg,hg2⟩:=h.fo;have h1:=h.lo;have h2:=h.qB;have hn:∀ k,k≤n+3→¬ QS q B k:=fun k hk' hs=>by rcases hs with hs | hs <;> omega
 exact⟨hk.blk h.blk (by simp[wCells]) (hn _ (Nat.le_refl _)),hk.tmap h.fl (hn _ (by omega)),⟨g,hk.tmap hg (hn _ (by omega)),hg2.kp hk⟩,h1,h2,Nat.le_trans h.le hk.size⟩
theorem AR.cells {n q B:Nat} {x:Action} {s:ES} {cl:Nat} {w:World} (h:AR n q B x s cl w):w.cell? ⟨n+3,7,none⟩=some (.map (some (n+1)))∧w.cell? ⟨n+3,8,none⟩=some (.map (some (n+2)))∧w.cell? ⟨n+3,9,none⟩=some (.string s.told) :=
 ⟨(h.blk 7 _ rfl).1,(h.blk 8 _ rfl).1,(h.blk 9 _ rfl).1⟩
section
variable {α:Type} {R:Rd α} {e:TypeId} {w:World} {base:Nat} {v:Value} {l:List α} {P:Program}
theorem step_app1g {ops:Array Oper} {o:Oper} {a:Act} {K:Act→World→Prop} {Q:Exit→Act→World→Prop} {E:Prop} (hgd:o.guard=none) (s x:Operand) (t:TypeId)
  (ho:o.op = .call { callee:=.builtin .append,args:=#[s,x],argTypes:=#[t,t] })
  {bytes:Nat} (ht:P.underlying t=some (.slice e)) (hE:Elem P e R.size bytes) (hsz:0<R.size)
  (hs:a.eval s=v) (hown:Own R e w base v l) (g:Nat) (y:α) (hx:a.eval x = .slice (some ⟨g,0,none⟩) 1 1) (hy:SlAt R w (some ⟨g,0,none⟩) 1 [y])
  (hok:∀ w',w.grownBy w' v.ownBlock→∀ z,z∈l ++ [y]→R.ok w z→R.ok w' z)
  (h63:l.length+1≤maxLen) (hbytes:(l.length+1)*bytes≤140737488355328) (hbase:base≤w.heap.size) (N:Nat) (hN:l.length+1=N)
  (h:∀ A' c' w',Own R e w' base (.slice A' N c') (l ++ [y])→w.grownBy w' v.ownBlock→(∀ g,(Value.slice A' N c').ownBlock=some g→v.ownBlock=some g∨w.heap.size≤g)→K (a.put o.dst (.slice A' N c')) w') :
  if Region.wanted o (yielded ops a.tmps)=true then Oper.wp P o a w K Q else E:=by
 subst hN;obtain⟨i,z,hi,hz,hz1,hz2,hz3⟩:=hE;have hnews:∀ j u,(R.vals y)[j]? = some u→w.cell? ((⟨g,0,none⟩:Addr).add j)=some u:=fun j u hu=>by
  obtain⟨b,off,hA,hc⟩:=hy.2.1 (by omega);obtain⟨rfl,rfl⟩:g=b∧0=off:=by simpa using hA
  have:=hc 0 y rfl j u hu;rw[Addr.add_lit]
  simpa using this
 refine step_append_lies w hgd s x t ho base e i z R.size bytes ht hi hz hz1 hz2 hz3 hsz v l.length (l.flatMap R.vals) hs hown.1 ⟨g,0,none⟩ 1 1 (R.vals y) hx (by rw[R.len];omega) hnews
  (fun u hu=>R.one y u hu) (by omega) (by omega) hbytes hbase w.heap.size rfl ?_
 intro g' cap w' h3 hg hat _;refine h _ _ w' ⟨?_,fun q hq=>?_⟩ hg (fun b hb=>?_)
 ·rw[List.length_append,List.length_singleton,List.flatMap_append]
  simpa using h3
 ·rcases List.mem_append.1 hq with hq' | hq'
  ·exact hok w' hg q hq (hown.2 q hq')
  ·exact hok w' hg q hq (hy.2.2 q hq')
 ·have:g'=b:=by simpa[Value.ownBlock]using hb
  subst this
  rcases hat with h4 | h4
  ·exact .inl h4
  ·exact .inr (by omega)
end
theorem elem_Look:Elem Tryz.prog 38 RLk.size 40:=elem_of (z:=.agg #[.string ⟨#[]⟩,.string ⟨#[]⟩,.bool false]) (by kernel_rfl) (by decide)
theorem elem_File:Elem Tryz.prog 58 RFile.size 48:=elem_of (z:=.agg #[.string ⟨#[]⟩,.bool false,.slice none 0 0]) (by kernel_rfl) (by decide)
def LkRel (n q B:Nat) (x:Action) (s:ES) (cl:Nat) (L:List ByteArray) (AL:Option Addr) (m:Nat) (rc rk:Int) (w3:World) (i:Value) (wr:World):Prop :=
 ∃ (k:Nat) (A:Option Addr) (c:Nat),k≤L.length∧i = .int .i64 k∧AR n q B x s cl wr∧Kp (QS q B) w3 wr∧Blk wr q [.int .i64 rc,.string s.told,.slice none 0 0,.slice A k c,.int .i64 rk]∧Own RLk 38 wr B (.slice A k c) ((L.take k).map (lkE s)) ∧
  SlAt RStr wr AL m L∧(0<m→∀ ad,AL=some ad→B≤ad.block∧¬ (Value.slice A k c).ownBlock=some ad.block)
def flat (y:File):ByteArray × Bool × List UInt8:=(y.path,y.run,y.bytes.l)
def flatW (s:ES) (p:ByteArray):ByteArray × Bool × List UInt8:=(p,((s.wr p).getD ⟨false,[]⟩).run,((s.wr p).getD ⟨false,[]⟩).bs)
theorem Kp.ownM {S:Nat→Prop} {w w':World} {α:Type} {R:Rd α} {e:TypeId} {base:Nat} {v:Value} {l:List α} (h:Kp S w w') (ho:Own R e w base v l) (hs:∀ b,v.ownBlock=some b→¬ S b) (hok:∀ x∈l,R.ok w x→R.ok w' x):Own R e w' base v l:=by
 rcases ho.1.2 with hn | ⟨g,cap,cur,rfl,hb,hgg,rest⟩
 ·exact⟨⟨ho.1.1,.inl hn⟩,fun x hx=>hok x hx (ho.2 x hx)⟩
 ·refine⟨⟨ho.1.1,.inr ⟨g,cap,cur,rfl,hb,?_,rest⟩⟩,fun x hx=>hok x hx (ho.2 x hx)⟩;rw[h.block g (Array.getElem?_eq_some_iff.1 hgg).1 (hs g rfl)];exact hgg
def BtsF (S:Nat→Prop) (w:World) (y:File):Prop:=Bts S w y.bytes.A y.bytes.n y.bytes.cap y.bytes.l
theorem BtsF.ok {S:Nat→Prop} {w w':World} {y:File} (h:BtsF S w y) (hk:Kp S w w') (ho:RFile.ok w y):RFile.ok w' y:=⟨ho.1,ho.2.1,(Bts.kp h hk).1⟩
def FxRel (n q B:Nat) (x:Action) (s:ES) (cl:Nat) (g:ByteArray→Option FV) (L:List ByteArray) (AL:Option Addr) (m:Nat) (LA:Option Addr) (Ln Lc:Nat) (ls:List Lk) (rc rk:Int) (w3:World) (i:Value) (wr:World):Prop :=
 ∃ (k:Nat) (A:Option Addr) (c:Nat) (fs:List File),k≤L.length∧i = .int .i64 k∧AR n q B x s cl wr∧TMap KS valF wr (n+1) g s.nw∧FilesAt (QS q B) wr g s.wr∧Kp (QS q B) w3 wr∧Blk wr q [.int .i64 rc,.string s.told,.slice A k c,.slice LA Ln Lc,.int .i64 rk] ∧
  Own RFile 58 wr B (.slice A k c) fs∧fs.map flat=(L.take k).map (flatW s)∧(∀ y∈fs,BtsF (QS q B) wr y)∧Own RLk 38 wr B (.slice LA Ln Lc) ls∧(∀ b,(Value.slice A k c).ownBlock=some b→¬ (Value.slice LA Ln Lc).ownBlock=some b) ∧
  SlAt RStr wr AL m L∧(0<m→∀ ad,AL=some ad→B≤ad.block∧¬ (Value.slice A k c).ownBlock=some ad.block)
end Go.Proofs.YtdiaabeollcjaaaGreatDoor.C10