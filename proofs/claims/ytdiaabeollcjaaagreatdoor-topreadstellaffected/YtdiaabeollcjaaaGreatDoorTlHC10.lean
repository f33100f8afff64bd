/-
 Several texts of mine as one, without what is not wanted here: XExY.
-/
import Derived.Test.YtdiaabeollcjaaaGreatDoorTlFC10
set_option linter.unusedVariables false
set_option linter.unusedSimpArgs false
set_option maxRecDepth 100000
set_option maxHeartbeats 8000000
namespace Go.Proofs.YtdiaabeollcjaaaGreatDoor.C10
open Go.ChangeShapes Go.WideShapes Go.Deep Go.RowKit Go.Maps
def FlRel (E:EP) (rec:ByteArray→XS→EM (Int × XS)) (Lns:List (List UInt8)) (W0:World) (n T:Nat) (x:Action) (I:Inp) (B xb:Nat) (r:(Int × XS) × ES) (cl:Nat) (rd:Nat) (v:Value) (AL:Option Addr) (mL:Nat) (Ai:Option Addr) (mi:Nat) (wi:List ByteArray) (w:World) (i:Value) (wr:World):Prop :=
 ∃ (k:Nat) (s':ES) (cl':Nat) (y':XS) (A':Option Addr) (m' c':Nat),k≤Lns.length∧i = .int .i64 k∧expL E rec (Lns.drop k) y' I s'=r∧XA W0 n T x I B xb s' cl' y' A' m' c' wr∧y'.1.length≤100000∧y'.2≤10000∧rd+1≤y'.2∧cl'+rd≤cl+y'.2 ∧
  Kp (MS n xb v) w wr∧Dis v (.slice A' m' c') w∧RowS n xb (.slice A' m' c') wr AL mL (und Lns)∧RowS n xb (.slice A' m' c') wr Ai mi wi
theorem expM_four (E:EP) (n:Nat) (wi:List ByteArray) (p:ByteArray) (y:XS) (I:Inp) (s:ES) (h:n=0∨hasB wi p=true):expM E n wi p y I s=((4,y),s):=by
 cases n with
 | zero=>rfl
 | succ n =>
  rcases h with h | h
  ·cases h
  ·unfold expM;rw[ite_em,if_pos h];rfl
theorem expM_none (E:EP) (n:Nat) (wi:List ByteArray) (p:ByteArray) (y:XS) (I:Inp) (s:ES) (h:hasB wi p=false) (h2:(readM E p I s).1.2≠0):expM E (n+1) wi p y I s=(((readM E p I s).1.2,y),(readM E p I s).2):=by
 unfold expM;rw[ite_em,if_neg (by rw[h];decide),bind_em,ite_em,if_pos h2];rfl
theorem expM_many (E:EP) (n:Nat) (wi:List ByteArray) (p:ByteArray) (y:XS) (I:Inp) (s:ES) (h:hasB wi p=false) (h2:(readM E p I s).1.2=0) (h3:y.2+1>10000):expM E (n+1) wi p y I s=((4,(y.1,y.2+1)),(readM E p I s).2):=by
 unfold expM;rw[ite_em,if_neg (by rw[h];decide),bind_em,ite_em,if_neg (by rw[h2];decide),ite_em,if_pos h3];rfl
theorem expM_lines (E:EP) (n:Nat) (wi:List ByteArray) (p:ByteArray) (y:XS) (I:Inp) (s:ES) (h:hasB wi p=false) (h2:(readM E p I s).1.2=0) (h3:¬ y.2+1>10000) :
  expM E (n+1) wi p y I s=expL E (expM E n (wi ++ [p])) (E.lns (readM E p I s).1.1) (y.1,y.2+1) I (readM E p I s).2:=by
 conv=>lhs;unfold expM
 rw[ite_em,if_neg (by rw[h];decide),bind_em,ite_em,if_neg (by rw[h2];decide),ite_em,if_neg h3]
theorem expL_some (E:EP) (rec:ByteArray→XS→EM (Int × XS)) (t:List UInt8) (l:List (List UInt8)) (y:XS) (p:ByteArray) (I:Inp) (s:ES) (h:E.incl t=some p) :
  expL E rec (t::l) y I s=if (rec p y I s).1.1≠0 then rec p y I s else expL E rec l (rec p y I s).1.2 I (rec p y I s).2:=by
 conv=>lhs;unfold expL
 rw[h]
 dsimp only
 rw[bind_em,ite_em]
 split <;> rfl
theorem expL_none (E:EP) (rec:ByteArray→XS→EM (Int × XS)) (t:List UInt8) (l:List (List UInt8)) (y:XS) (I:Inp) (s:ES) (h:E.incl t=none) :
  expL E rec (t::l) y I s=if (y.1++E.ended t).length>100000 then ((5,(y.1++E.ended t,y.2)),s) else expL E rec l (y.1++E.ended t,y.2) I s:=by
 conv=>lhs;unfold expL
 rw[h]
 dsimp only
 rw[ite_em]
 split <;> rfl
theorem pathB_le {s:ByteArray} (h:pathB s=true):s.size≤200:=by
 unfold pathB at h;rw[Bool.and_eq_true]at h;have:=inR_true h.1;omega
theorem file_any (W0:World) (n T:Nat) (x:Action) (I:Inp) (hmx:MaxLenAt W0):∀ (fuel:Nat) (wi:List ByteArray) (p:ByteArray) (s:ES) (cl:Nat) (y:XS) (A:Option Addr) (m c B xb:Nat) (Ai:Option Addr) (mi ci:Nat) (w:World) (r:(Int × XS) × ES),
  wi.length+fuel=31→p.size≤200→XA W0 n T x I B xb s cl y A m c w→RowS n xb (.slice A m c) w Ai mi wi→mi≤ci→ci≤maxLen→(Ai=none→ci=0)→cl+10001≤900000+y.2→y.1.length≤100000→y.2≤10000→expM (epOf x) fuel wi p y I s=r →
  Calls Tryz.prog 90 #[.pointer (some ⟨xb,0,none⟩),.string p,.slice Ai mi ci] w (FlAns W0 n T x I B xb r cl y (.slice A m c) w):=by
 intro fuel
 induction fuel with
 | zero =>
  intro wi p s cl y A m c B xb Ai mi ci w r hlen hp hX hin hic hcm hin0 hcl hy1 hy2 hr;obtain⟨Z,hZ⟩:∃ Z,FlAns W0 n T x I B xb r cl y (.slice A m c) w=Z:=⟨_,rfl⟩;have hZ':∀ e W,FlAns W0 n T x I B xb r cl y (.slice A m c) w e W→Z e W:=fun e W h=>by rw[← hZ];exact h
  rw[hZ];clear hZ;have hml:=hin.sl.1;rw[expM_four _ _ _ _ _ _ _ (.inl rfl)]at hr;have R:=hZ' (.returned (.int .i64 4)) w (by
   rw[← hr];exact⟨A,m,c,cl,rfl,hX,(by show (0:Int)≤4∧(4:Int)≤5;omega),by show y.1.length≤_;omega,fun h=>absurd (show (4:Int)=0 from h) (by decide),Nat.le_refl _,by show y.2≤_;omega,by show cl+y.2≤cl+y.2+1;omega,Kp.refl _ _,Dis.refl _ _⟩)
  clear hr;obtain⟨hb,hhb⟩:∃ v,hasB wi p=v:=⟨_,rfl⟩;have hm31:mi=31:=by omega
  subst hm31;obtain⟨hZ'H,hXH,hinH,RH,hhbH,hmlH,hin0H⟩:=hq2 hZ' (hq2 hX (hqb hin R hhb hml (Lib.hid hin0)));clear hZ' hX hin R hhb hml hin0;go_enter Tryz.func90,Tryz.ntmps90;go_wp2_with fail;refine(contB_any Ai 31 ci wi p w hinH.out.sl (by omega)).mono ?_;rintro e w1 ⟨rfl,rfl⟩;rw[hhbH.out]
  cases hb
  ·go_wp2_with fail;exact RH.out
  ·go_wp2_with fail;exact RH.out
 | succ fuel ih =>
  intro wi p s cl y A m c B xb Ai mi ci w r hlen hp hX hin hic hcm hin0 hcl hy1 hy2 hr;obtain⟨Z,hZ⟩:∃ Z,FlAns W0 n T x I B xb r cl y (.slice A m c) w=Z:=⟨_,rfl⟩;have hZ':∀ e W,FlAns W0 n T x I B xb r cl y (.slice A m c) w e W→Z e W:=fun e W h=>by rw[← hZ];exact h
  rw[hZ];clear hZ;have hml:=hin.sl.1;have hm30:mi≤30:=by omega
  obtain⟨hb,hhb⟩:∃ v,hasB wi p=v:=⟨_,rfl⟩;have c0:=(hX.blk 0 _ rfl).1;have c2:=(hX.blk 2 _ rfl).1;have hpz:p.size≤maxLen:=by unfold maxLen;omega
  cases hb
  ·obtain⟨hZ'H,hXH,hinH,hhbH,hmlH,hin0H,ihH,hrH⟩:=hq2 hZ' (hq2 hX (hq2 hin (hqb hhb hml hin0 ih (Lib.hid hr))));clear hZ' hX hin hhb hml hin0 ih hr;go_enter Tryz.func90,Tryz.ntmps90;go_wp2_with fail;refine(contB_any Ai mi ci wi p w hinH.out.sl (by omega)).mono ?_;rintro e w1 ⟨rfl,rfl⟩;rw[hhbH.out];go_wp2_with fail;refine(read_any (epOf x) rfl W0 n T x I p hpz s cl (by omega) w hXH.out.wa).mono ?_;rintro e w1 ⟨A1,m1,c1,cl1,rfl,hb1,hlen1,hcode,hA1,hcl1,hk1⟩;have hr:=hrH.out;have e1:=expM_none (epOf x) fuel wi p y I s hhbH.out;have e2:=expM_many (epOf x) fuel wi p y I s hhbH.out;have e3:=expM_lines (epOf x) fuel wi p y I s hhbH.out;obtain⟨q,hq⟩:∃ q,readM (epOf x) p I s=q:=⟨_,rfl⟩;rw[hq]at e1 e2 e3 hb1 hlen1 hcode hA1 ⊢;obtain⟨⟨b,code⟩,s1⟩:=q;simp only at e1 e2 e3 hb1 hlen1 hcode hA1 ⊢;have hX1:=hXH.out.work hA1 hk1;have hkm:Kp (MS n xb (.slice A m c)) w w1:=hk1.mono fun k _ h=>.inl h;have hin1:=hinH.out.step hkm (Dis.refl _ _)
   rcases hcode with rfl | rfl
   ·have e2:=e2 rfl;have e3:=e3 rfl;clear e1 hrH;have d2:=(hX1.blk 2 _ rfl).1;have g2:=(hX1.blk 2 _ rfl).2;have hbS:=hX1.blk.set (k:=2) (by simp) (.int .i64 ((y.2:Int)+1));have hkS:Kp (fun k=>k=xb∨(Value.slice A m c).ownBlock=some k) w1 (w1.setCell ⟨xb,2,none⟩ (.int .i64 ((y.2:Int)+1))):=(Kp.refl _ _).setCell (.inr (.inl rfl)) _;have hX2:XA W0 n T x I B xb s1 cl1 (y.1,y.2+1) A m c (w1.setCell ⟨xb,2,none⟩ (.int .i64 ((y.2:Int)+1))):=by
     refine hX1.put hkS hbS ?_;have h1:=hX1.xB;exact((Kp.refl (fun k=>k=xb) w1).setCell (a:=⟨xb,2,none⟩) (.inr rfl) (.int .i64 ((y.2:Int)+1))).own hX1.own (fun b hb e=>by have:=(hX1.ownB hb).1;omega) (fun _ h=>h)
    have hkm2:Kp (MS n xb (.slice A m c)) w (w1.setCell ⟨xb,2,none⟩ (.int .i64 ((y.2:Int)+1))):=hkm.trans (hkS.mono fun k _ hs=>.inr hs);have hin2:=hin1.step (hkS.mono fun k _ hs=>.inr hs) (Dis.refl _ _)
    by_cases h10:y.2+1>10000
    ·rw[e2 h10]at hr;have R:=hZ'H.out (.returned (.int .i64 4)) (w1.setCell ⟨xb,2,none⟩ (.int .i64 ((y.2:Int)+1))) (by
      rw[← hr];exact⟨A,m,c,cl1,rfl,hX2,(by show (0:Int)≤4∧(4:Int)≤5;omega),by show y.1.length≤_;omega,fun h=>absurd (show (4:Int)=0 from h) (by decide),by show y.2≤y.2+1;omega,by show y.2+1≤_;omega,by show cl1+y.2≤cl+(y.2+1)+1;omega,hkm2,Dis.refl _ _⟩)
     have hy9:(y.2:Int)+1>10000:=by omega
     clear hr e2 e3 h10;obtain⟨hb1H,hA1H,hk1H,hX1H,hkmH,hin1H,hqH,RH,hbSH,hkSH,hX2H,hkm2H,hin2H⟩:=hqb hb1 hA1 hk1 hX1 (hqc hkm hin1 hq R hbS hkS hX2 hkm2 (Lib.hid hin2));clear hb1 hA1 hk1 hX1 hkm hin1 hq R hbS hkS hX2 hkm2 hin2;go_wp2_with fail;exact RH.out
    ·rw[e3 h10]at hr;clear e2 e3;obtain⟨w2,hw2⟩:∃ Y,w1.setCell ⟨xb,2,none⟩ (.int .i64 ((y.2:Int)+1))=Y:=⟨_,rfl⟩;have hy9:¬ (y.2:Int)+1>10000:=by omega
     rw[hw2]at hX2 hkm2 hin2;have hbt2:(RSl RU8).ok w2 ⟨A1,m1,c1,b⟩:=by
      rw[← hw2];have h0:=hX1.xge;have h1:=hX1.xT;exact(hb1.kp ((Kp.refl (TS n T) w1).setCell (a:=⟨xb,2,none⟩) (.inr (.inr h1)) (.int .i64 ((y.2:Int)+1)))).1
     obtain⟨hb1H,hA1H,hk1H,hX1H,hkmH,hin1H,hqH,hbSH,hkSH,hX2H,hkm2H,hin2H,hrH,hw2H,hbt2H,h10H⟩:=hq2 hb1 (hq2 hA1 (hq2 hk1 (hqb hX1 hkm hin1 hq (hqc hbS hkS hX2 hkm2 hin2 hr hw2 hbt2 (Lib.hid h10)))));clear hb1 hA1 hk1 hX1 hkm hin1 hq hbS hkS hX2 hkm2 hin2 hr hw2 hbt2 h10;go_wp2_with fail;rw[hw2H.out];refine(clone_strs Ai mi ci wi w2 ⟨hin2H.out.sl,hic,hcm,hin0H.out⟩ (by omega)).mono ?_;rintro e w3 ⟨A3,c3,rfl,hown3,hb3⟩;have hl3:=hown3.len;obtain⟨hown3H,hb3H⟩:=hq2 hown3 (Lib.hid hb3);clear hown3 hb3;go_wp2_with (at_builtin;go_loud (refine wpList_app rfl (.tmp 47) (.tmp 49) 24 rfl Tryz.underlying24 elem_StrX (by decide) rfl (hown3H.out.alloc _) (some ⟨w3.heap.size,0,none⟩) 1 1 [p] rfl (slAt_new w3 _ _ hpz) ?nn ?ok ?c1 ?c2 ?c3 (mi+1) ?c4 ?_))
     case nn=>intro _ h;cases h
     case ok=>exact fun _ _ _ _ h=>h
     case c1=>rw[hl3];unfold maxLen;omega
     case c2=>rw[hl3];omega
     case c3=>have:=hb3H.out.size;simp;omega
     case c4=>rw[hl3]
     intro A4 c4 w4 hown4 hg4 hat4 hb4;have hb24:Below w2.heap.size w2 w4:=((hb3H.out.alloc hb3H.out.size _).trans hb4);have hbt4:(RSl RU8).ok w4 ⟨A1,m1,c1,b⟩:=(RSl RU8).mono _ _ _ hb24 hbt2H.out;have hb24s:=hb24.size;clear hg4 hat4 hb4 hl3;obtain⟨hown4H,hb24H,hbt4H⟩:=hq2 hown4 (hq2 hb24 (Lib.hid hbt4));clear hown4 hb24 hbt4;go_wp2_with fail;refine(lines_any A1 m1 c1 b w4 hbt4H.out (by have:b.length=m1:=hbt4H.out.1.1;omega)).mono ?_;rintro e w5 ⟨A5,m5,c5,rfl,hown5,hb5⟩;have hb25:=hb24H.out.trans (hb5.mono hb24s);have hX5:=hX2H.out.below hb25;have hk5:Kp (MS n xb (.slice A m c)) w w5:=hkm2H.out.trans (Kp.of_below hb25);have h2B:=hX2H.out.ble;have h2x:=hX2H.out.xB;have h2n:=hX2H.out.xge;have fresh:∀ k,w2.heap.size≤k→¬ MS n xb (.slice A m c) k:=fun k hk hs=>by
      rcases hs with hs | hs | hs
      ·have:=wS_le hs;omega
      ·omega
      ·have:=(hX2H.out.ownB hs).2;omega
     have hrI:RowS n xb (.slice A m c) w5 A4 (mi+1) (wi ++ [p]):=⟨(hown4H.out.below hb5).slAt,fun h0 ad hA=>fresh _ ((own_capx hown4H.out).2.2 ad hA)⟩;have hrL:RowS n xb (.slice A m c) w5 A5 m5 (und (linesP b)):=⟨hown5.slAt,fun h0 ad hA=>fresh _ (Nat.le_trans hb24s ((own_capx hown5).2.2 ad hA))⟩;have hcI:=own_capx hown4H.out;have hcI2:=hown4H.out.cap_le;have hm5:(linesP b).length=m5:=by have:=hown5.len;rw[und_len]at this;exact this
     have hm5b:=(linesP_all b.length b (Nat.le_refl _)).2.1;have hst:FlRel (epOf x) (expM (epOf x) fuel (wi ++ [p])) (linesP b) W0 n T x I B xb r cl y.2 (.slice A m c) A5 m5 A4 (mi+1) (wi ++ [p]) w (.int .i64 0) w5 :=
      ⟨0,s1,cl1,(y.1,y.2+1),A,m,c,Nat.zero_le _,rfl,by rw[List.drop_zero];exact hrH.out,hX5,hy1,by show y.2+1≤10000;have:=h10H.out;omega,Nat.le_refl _,by show cl1+y.2≤cl+(y.2+1);omega,hk5,Dis.refl _ _,hrL,hrI⟩
     obtain⟨hcIa,hcIb,_⟩:=hcI;have hmsz:∀ t∈linesP b,t.length≤100000:=fun t ht=>by have:=mem_length_le ht;omega
     clear hb1H hA1H hk1H hX1H hkmH hin1H hqH hbSH hkSH hbt2H hbt4H hin2H h2B h2x h2n fresh d2 g2 c0 c2;obtain⟨hown5H,hb5H,hb25H,hX5H,hk5H,hrIH,hrLH,hm5H,hm5bH,hstH,hcIaH,hmszH⟩:=hq2 hown5 (hq2 hb5 (hq2 hb25 (hqc hX5 hk5 hrI hrL hm5 hm5b hst hcIa (Lib.hid hmsz))));clear hown5 hb5 hb25 hX5 hk5 hrI hrL hm5 hm5b hst hcIa hmsz;go_wp2_with fail
     go_loopw [54] (fun i wr=>FlRel (epOf x) (expM (epOf x) fuel (wi ++ [p])) (linesP b) W0 n T x I B xb r cl y.2 (.slice A m c) A5 m5 A4 (mi+1) (wi ++ [p]) w i wr) (fun i _=>m5-(intOf i).toNat)
     case atStart=>exact hstH.out
     case round =>
      clear hstH;obtain⟨k,s',cl',y',A',m',c',hk,rfl,heq,hX',hyl,hyr,hrd,hcl',hkp,hdis,hrL',hrI'⟩:=hrel;have hkm':k≤m5:=by have:=hm5H.out;omega
      have hm5c:m5≤100000:=by have h1:=hm5H.out;have h2:=hm5bH.out;omega
      by_cases hlt:k<m5
      ·obtain⟨t,ht⟩:∃ t,(linesP b)[k]? = some t:=⟨(linesP b)[k]'(by have:=hm5H.out;omega),List.getElem?_eq_getElem _⟩;have htz:=hmszH.out t (List.mem_of_getElem? ht);have hut:(und (linesP b))[k]? = some (bsOf t):=by unfold und;rw[List.getElem?_map,ht];rfl
       obtain⟨bl,ol,hA5,_⟩:=hrL'.sl.2.1 (by omega);subst hA5;have cy:=cell_Str hrL'.sl hut;rw[drop_cons ht]at heq;have hkl2:k+1≤(linesP b).length:=by have:=hm5H.out;omega
       have htn:=trimNl_len t;have hts:=Tryz.strings_TrimSuffix (bsOf t) ⟨#[10]⟩ wr (by rw[bsOf_size];omega);have ets:(⟨(Lib.trimSuffix (bsOf t).data.toList (⟨#[10]⟩:ByteArray).data.toList).toArray⟩:ByteArray)=bsOf (trimNl t):=by rw[data_bsOf];rfl
       rw[ets]at hts;have hcp:=Tryz.strings_CutPrefix (bsOf (trimNl t)) ⟨#[105,110,99,108,117,100,101,32]⟩ wr;have ecp:(⟨(Lib.trimPrefix (bsOf (trimNl t)).data.toList (⟨#[105,110,99,108,117,100,101,32]⟩:ByteArray).data.toList).toArray⟩:ByteArray)=bsOf (Lib.trimPrefix (trimNl t) incW):=by rw[data_bsOf];rfl
       have ecq:Lib.hasPrefix (bsOf (trimNl t)).data.toList (⟨#[105,110,99,108,117,100,101,32]⟩:ByteArray).data.toList=Lib.hasPrefix (trimNl t) incW:=by rw[data_bsOf];rfl
       rw[ecp,ecq]at hcp;obtain⟨P,hP⟩:∃ P,bsOf (Lib.trimPrefix (trimNl t) incW)=P:=⟨_,rfl⟩;obtain⟨hh,hhh⟩:∃ v,Lib.hasPrefix (trimNl t) incW=v:=⟨_,rfl⟩;rw[hP,hhh]at hcp;have hinc:inclP t=if hh=true∧pathB P=true then some P else none:=by unfold inclP;rw[hP,hhh]
       have hPz:P.size≤100000:=by
        rw[← hP,bsOf_size];unfold Lib.trimPrefix
        split
        ·rw[List.length_drop];omega
        ·omega
       have hkps:=hkp.size;clear ets ecp ecq hut htn;obtain⟨hX'H,heqH,hkpH,hdisH,hrL'H,hrI'H,htH,hkl2H,htsH,hcpH,hPH,hhhH,hincH⟩:=hqb hX' heq hkp hdis (hqc hrL' hrI' ht hkl2 hts hcp hP hhh (Lib.hid hinc));clear hX' heq hkp hdis hrL' hrI' ht hkl2 hts hcp hP hhh hinc;go_wp2_with fail;refine htsH.out.mono ?_;rintro e w6 ⟨rfl,hw6⟩;rw[hw6];clear hw6;go_wp2_with fail;refine hcpH.out.mono ?_;rintro e w6 ⟨rfl,hw6⟩;rw[hw6];clear hw6
       cases hh
       ·have hn:inclP t=none:=by rw[hincH.out,if_neg (by simp)]
        have heq:=heqH.out;rw[expL_none _ _ _ _ _ _ _ hn]at heq;clear hn hincH heqH htsH hcpH;have heqH:=Lib.hid heq;clear heq;go_wp2_with fail;have q1:=(hX'H.out.blk 1 _ rfl).1;have hbd:=hX'H.out.xB;have hln':=hX'H.out.own.len;have hen:=endedP_len t;have hend:=ended_any t wr.drew (by omega);have hez:(bsOf (endedP t)).size=(endedP t).length:=bsOf_size _;have hendH:=Lib.hid hend;clear hend;refine startR (R:=Rk (fun _=>True) (fun w'=>w'.cell? ⟨xb,1,none⟩=some (.slice A' m' c')) 10 10) (by kernel_rfl) ?_;have hC:wr.drew.cell? ⟨xb,1,none⟩=some (.slice A' m' c'):=q1;refine takeC (i:=0) (d:=some 76) (v:=?_) rfl rfl (by kernel_rfl) (by kernel_rfl) (by kernel_rfl) (by kernel_rfl) (fun _ _ _ h=>h) (Or.inl ⟨by rfl,?_⟩) hC ?_
        rotate_left
        ·(intro w hSw;(try dsimp only at hSw);go_simp;(try with_reducible rfl))
        (try simp only[Act.put,List.setIfInBounds_toArray,List.set_cons_zero,List.set_cons_succ])
        refine takeC (i:=1) (d:=some 77) (v:=?_) rfl rfl (by kernel_rfl) (by kernel_rfl) (by kernel_rfl) (by kernel_rfl) (fun _ _ _ h=>h) (Or.inl ⟨by rfl,?_⟩) hC ?_
        rotate_left
        ·(intro w hSw;(try dsimp only at hSw);go_simp;(try with_reducible rfl))
        (try simp only[Act.put,List.setIfInBounds_toArray,List.set_cons_zero,List.set_cons_succ])
        refine takeC (i:=2) (d:=some 78) (v:=?_) rfl rfl (by kernel_rfl) (by kernel_rfl) (by kernel_rfl) (by kernel_rfl) (fun _ _ _ h=>h) (Or.inl ⟨by rfl,?_⟩) hC ?_
        rotate_left
        ·(intro w hSw;(try dsimp only at hSw);go_simp;(try with_reducible rfl))
        (try simp only[Act.put,List.setIfInBounds_toArray,List.set_cons_zero,List.set_cons_succ])
        refine takeC (i:=3) (d:=some 79) (v:=?_) rfl rfl (by kernel_rfl) (by kernel_rfl) (by kernel_rfl) (by kernel_rfl) (fun _ _ _ h=>h) (Or.inl ⟨by rfl,?_⟩) hC ?_
        rotate_left
        ·(intro w hSw;(try dsimp only at hSw);go_simp;(try with_reducible rfl))
        (try simp only[Act.put,List.setIfInBounds_toArray,List.set_cons_zero,List.set_cons_succ])
        refine takeC (i:=4) (d:=some 80) (v:=?_) rfl rfl (by kernel_rfl) (by kernel_rfl) (by kernel_rfl) (by kernel_rfl) (fun _ _ _ h=>h) (Or.inl ⟨by rfl,?_⟩) hC ?_
        rotate_left
        ·(intro w hSw;(try dsimp only at hSw);go_simp;(try with_reducible rfl))
        (try simp only[Act.put,List.setIfInBounds_toArray,List.set_cons_zero,List.set_cons_succ])
        refine takeC (i:=5) (d:=some 81) (v:=?_) rfl rfl (by kernel_rfl) (by kernel_rfl) (by kernel_rfl) (by kernel_rfl) (fun _ _ _ h=>h) (Or.inl ⟨by rfl,?_⟩) hC ?_
        rotate_left
        ·(intro w hSw;(try dsimp only at hSw);go_simp;(try with_reducible rfl))
        (try simp only[Act.put,List.setIfInBounds_toArray,List.set_cons_zero,List.set_cons_succ])
        refine oneR (i:=6) (by kernel_rfl) rfl (fun K hK=>?_);go_simp;go_at_call 142;refine hendH.out.mono ?_;rintro e wz ⟨rfl,hwz⟩;rw[← hwz];clear hwz;refine hK.out _ _ ⟨fun _ _ _=>trivial,fun _ _=>hC⟩ ?_;clear hK K
        (try simp only[Act.put,List.setIfInBounds_toArray,List.set_cons_zero,List.set_cons_succ])
        refine oneR (i:=7) (by kernel_rfl) rfl (fun K hK=>?_);refine step_app_s (base:=B) (v:=.slice A' m' c') (l:=y'.1) ?g1 (.tmp 80) (.tmp 82) ?g2 ?g3 ?own (bsOf (endedP t)) ?g4 ?a4 ?a5 (m'+(endedP t).length) ?a6 ?_
        case g1=>rfl
        case g2=>rfl
        case g3=>rfl
        case g4=>rfl
        case own=>exact hX'H.out.own.below (Below.refl _ _).drew
        case a4=>rw[hez];omega
        case a5=>exact hX'H.out.ble
        case a6=>rw[hez,hln']
        intro A6 c6 w8 hown8 hg8 hd8;have hnx:∀ b,(Value.slice A' m' c').ownBlock=some b→b≠xb:=fun b hb e=>by have:=(hX'H.out.ownB hb).1;omega
        have hC8:w8.cell? ⟨xb,1,none⟩=some (.slice A' m' c'):=hg8.cell q1 (fun e=>hnx xb e.symm rfl);have hk8:Kp (fun k=>(Value.slice A' m' c').ownBlock=some k) wr w8:=Kp.of_grown (w:=wr) ⟨hg8.os,hg8.tape,hg8.output,hg8.size,hg8.block⟩ fun k hk=>hk;have hb8:Blk w8 xb [.pointer (some ⟨n+3,0,none⟩),.slice A' m' c',.int .i64 (y'.2:Nat)]:=hk8.blk hX'H.out.blk (by simp) (fun e=>hnx xb e rfl);have f8:=(hb8 1 _ rfl).2;have hkS8:Kp (fun k=>k=xb∨(Value.slice A' m' c').ownBlock=some k) wr (w8.setCell ⟨xb,1,none⟩ (.slice A6 (m'+(endedP t).length) c6)):=(hk8.mono fun k _ hs=>.inr hs).setCell (.inr (.inl rfl)) _;have hd8':Dis (.slice A' m' c') (.slice A6 (m'+(endedP t).length) c6) wr:=fun b hb=>hd8 b hb;have hXS:XA W0 n T x I B xb s' cl' (y'.1++endedP t,y'.2) A6 (m'+(endedP t).length) c6 (w8.setCell ⟨xb,1,none⟩ (.slice A6 (m'+(endedP t).length) c6)):=by
         refine hX'H.out.put hkS8 (hb8.set (k:=1) (by simp) _) ?_;have h0:=hown8;rw[data_bsOf]at h0;exact((Kp.refl (fun k=>k=xb) w8).setCell (a:=⟨xb,1,none⟩) (.inr rfl) _).own h0 (fun b hb e=>by have:=(h0.1.lt b hb).1;omega) (fun _ h=>h)
        have hkW:=hkpH.out.msTrans hdisH.out (hkS8.mono fun k _ hs=>.inr hs);have hdW:=hdisH.out.trans hd8' hkpH.out.size;have hrLS:=hrL'H.out.step (hkS8.mono fun k _ hs=>.inr hs) hd8';have hrIS:=hrI'H.out.step (hkS8.mono fun k _ hs=>.inr hs) hd8';obtain⟨N8,hN8⟩:∃ N,m'+(endedP t).length=N:=⟨_,rfl⟩;have hlen8:(y'.1++endedP t).length=N8:=by rw[List.length_append,← hN8];omega
        rw[hN8]at hXS hdW hrLS hrIS hd8 hkW ⊢;clear hC hkS8 hd8' hown8 hg8 hk8 hb8 hd8;obtain⟨hXSH,hkWH,hdWH,hrLSH,hrISH,hlen8H,hnxH⟩:=hq2 hXS (hq2 hkW (hqb hdW hrLS hrIS hlen8 (Lib.hid hnx)));clear hXS hkW hdW hrLS hrIS hlen8 hnx;refine hK.out _ _ ⟨fun _ _ _=>trivial,fun _ _=>hC8⟩ ?_;clear hK K
        (try simp only[Act.put,List.setIfInBounds_toArray,List.set_cons_zero,List.set_cons_succ])
        have hC:=hC8;refine oneR (i:=8) (by kernel_rfl) rfl (fun K hK=>?_);go_simp;refine hK.out _ _ ⟨fun _ _ _=>trivial,fun _ _=>hC8⟩ ?_;clear hK K
        (try simp only[Act.put,List.setIfInBounds_toArray,List.set_cons_zero,List.set_cons_succ])
        refine takeC (i:=9) (d:=some 85) (v:=?_) rfl rfl (by kernel_rfl) (by kernel_rfl) (by kernel_rfl) (by kernel_rfl) (fun _ _ _ h=>h) (Or.inl ⟨by rfl,?_⟩) hC ?_
        rotate_left
        ·(intro w hSw;(try dsimp only at hSw);go_simp;(try with_reducible rfl))
        (try simp only[Act.put,List.setIfInBounds_toArray,List.set_cons_zero,List.set_cons_succ])
        refine oneR (i:=10) (by kernel_rfl) rfl (fun K hK=>?_);go_simp;refine hK.out _ _ ⟨fun h=>absurd rfl h,fun h=>absurd rfl h⟩ ?_;clear hK K
        (try simp only[Act.put,List.setIfInBounds_toArray,List.set_cons_zero,List.set_cons_succ])
        refine doneR (by kernel_rfl) ?_ _;have q1:=(hXSH.out.blk 1 _ rfl).1;have heq:=heqH.out;have hl8:=hlen8H.out;clear hC hC8 f8 heqH;have heE:(epOf x).ended t=endedP t:=rfl;rw[heE,hl8]at heq;clear heE hl8
        by_cases hbig:N8>100000
        ·rw[if_pos hbig]at heq;have R:=hZ'H.out (.returned (.int .i64 5)) _ (by
          rw[← heq];refine⟨A6,N8,c6,cl',rfl,hXSH.out,(by show (0:Int)≤5∧(5:Int)≤5;omega),?_,fun h=>absurd (show (5:Int)=0 from h) (by decide),by show y.2≤y'.2;omega,by show y'.2≤_;omega,by show cl'+y.2≤cl+y'.2+1;omega,hkWH.out,hdWH.out⟩;show (y'.1++endedP t).length≤300000;rw[hlen8H.out];omega)
         have hbig:(N8:Int)>100000:=by omega
         clear heq hN8;have RH:=Lib.hid R;clear R;go_wp2_with fail;exact RH.out
        ·rw[if_neg hbig]at heq;have R:FlRel (epOf x) (expM (epOf x) fuel (wi ++ [p])) (linesP b) W0 n T x I B xb r cl y.2 (.slice A m c) (some ⟨bl,ol,none⟩) m5 A4 (mi+1) (wi ++ [p]) w (.int .i64 (k+1)) (w8.setCell ⟨xb,1,none⟩ (.slice A6 N8 c6)) :=
          ⟨k+1,s',cl',(y'.1++endedP t,y'.2),A6,N8,c6,hkl2H.out,by go_num,heq,hXSH.out,by show (y'.1++endedP t).length≤_;rw[hlen8H.out];omega,hyr,hrd,hcl',hkWH.out,hdWH.out,hrLSH.out,hrISH.out⟩
         have hbig:¬ (N8:Int)>100000:=by omega
         clear heq hN8;have RH:=Lib.hid R;clear R;go_wp2;refine⟨?rel,?measure⟩
         case measure=>(simp[intOf];omega)
         case rel=>first | exact RH.out | exact⟨rfl,RH.out⟩
       ·obtain⟨pb,hpb⟩:∃ v,pathB P=v:=⟨_,rfl⟩;rw[hpb]at hincH;have hmx':=(hmx.below hX'H.out.wa.bel);go_wp2_with fail;refine(isPath_any P wr hmx' pb hpb).mono ?_;rintro e w7 ⟨rfl,hw7⟩;have hX7:=hX'H.out.below hw7;have hk7:Kp (MS n xb (.slice A m c)) w w7:=hkpH.out.trans (Kp.of_below hw7);have hL7:=hrL'H.out.step (Kp.of_below hw7) (Dis.refl _ _);have hI7:=hrI'H.out.step (Kp.of_below hw7) (Dis.refl _ _);have heq:=heqH.out;clear hX'H hkpH hrL'H hrI'H heqH hmx' htsH hcpH;have hX'H:=Lib.hid hX7;have hkpH:=Lib.hid hk7;have hrL'H:=Lib.hid hL7;have hrI'H:=Lib.hid hI7;clear hX7 hk7 hL7 hI7 hw7
        cases pb
        ·have hn:inclP t=none:=by rw[hincH.out,if_neg (by simp)]
         rw[expL_none _ _ _ _ _ _ _ hn]at heq;clear hn hincH hpb;have heqH:=Lib.hid heq;clear heq;go_wp2_with fail;have q1:=(hX'H.out.blk 1 _ rfl).1;have hbd:=hX'H.out.xB;have hln':=hX'H.out.own.len;have hen:=endedP_len t;have hend:=ended_any t w7.drew (by omega);have hez:(bsOf (endedP t)).size=(endedP t).length:=bsOf_size _;have hendH:=Lib.hid hend;clear hend;refine startR (R:=Rk (fun _=>True) (fun w'=>w'.cell? ⟨xb,1,none⟩=some (.slice A' m' c')) 10 10) (by kernel_rfl) ?_;have hC:w7.drew.cell? ⟨xb,1,none⟩=some (.slice A' m' c'):=q1;refine takeC (i:=0) (d:=some 76) (v:=?_) rfl rfl (by kernel_rfl) (by kernel_rfl) (by kernel_rfl) (by kernel_rfl) (fun _ _ _ h=>h) (Or.inl ⟨by rfl,?_⟩) hC ?_
         rotate_left
         ·(intro w hSw;(try dsimp only at hSw);go_simp;(try with_reducible rfl))
         (try simp only[Act.put,List.setIfInBounds_toArray,List.set_cons_zero,List.set_cons_succ])
         refine takeC (i:=1) (d:=some 77) (v:=?_) rfl rfl (by kernel_rfl) (by kernel_rfl) (by kernel_rfl) (by kernel_rfl) (fun _ _ _ h=>h) (Or.inl ⟨by rfl,?_⟩) hC ?_
         rotate_left
         ·(intro w hSw;(try dsimp only at hSw);go_simp;(try with_reducible rfl))
         (try simp only[Act.put,List.setIfInBounds_toArray,List.set_cons_zero,List.set_cons_succ])
         refine takeC (i:=2) (d:=some 78) (v:=?_) rfl rfl (by kernel_rfl) (by kernel_rfl) (by kernel_rfl) (by kernel_rfl) (fun _ _ _ h=>h) (Or.inl ⟨by rfl,?_⟩) hC ?_
         rotate_left
         ·(intro w hSw;(try dsimp only at hSw);go_simp;(try with_reducible rfl))
         (try simp only[Act.put,List.setIfInBounds_toArray,List.set_cons_zero,List.set_cons_succ])
         refine takeC (i:=3) (d:=some 79) (v:=?_) rfl rfl (by kernel_rfl) (by kernel_rfl) (by kernel_rfl) (by kernel_rfl) (fun _ _ _ h=>h) (Or.inl ⟨by rfl,?_⟩) hC ?_
         rotate_left
         ·(intro w hSw;(try dsimp only at hSw);go_simp;(try with_reducible rfl))
         (try simp only[Act.put,List.setIfInBounds_toArray,List.set_cons_zero,List.set_cons_succ])
         refine takeC (i:=4) (d:=some 80) (v:=?_) rfl rfl (by kernel_rfl) (by kernel_rfl) (by kernel_rfl) (by kernel_rfl) (fun _ _ _ h=>h) (Or.inl ⟨by rfl,?_⟩) hC ?_
         rotate_left
         ·(intro w hSw;(try dsimp only at hSw);go_simp;(try with_reducible rfl))
         (try simp only[Act.put,List.setIfInBounds_toArray,List.set_cons_zero,List.set_cons_succ])
         refine takeC (i:=5) (d:=some 81) (v:=?_) rfl rfl (by kernel_rfl) (by kernel_rfl) (by kernel_rfl) (by kernel_rfl) (fun _ _ _ h=>h) (Or.inl ⟨by rfl,?_⟩) hC ?_
         rotate_left
         ·(intro w hSw;(try dsimp only at hSw);go_simp;(try with_reducible rfl))
         (try simp only[Act.put,List.setIfInBounds_toArray,List.set_cons_zero,List.set_cons_succ])
         refine oneR (i:=6) (by kernel_rfl) rfl (fun K hK=>?_);go_simp;go_at_call 142;refine hendH.out.mono ?_;rintro e wz ⟨rfl,hwz⟩;rw[← hwz];clear hwz;refine hK.out _ _ ⟨fun _ _ _=>trivial,fun _ _=>hC⟩ ?_;clear hK K
         (try simp only[Act.put,List.setIfInBounds_toArray,List.set_cons_zero,List.set_cons_succ])
         refine oneR (i:=7) (by kernel_rfl) rfl (fun K hK=>?_);refine step_app_s (base:=B) (v:=.slice A' m' c') (l:=y'.1) ?g1 (.tmp 80) (.tmp 82) ?g2 ?g3 ?own (bsOf (endedP t)) ?g4 ?a4 ?a5 (m'+(endedP t).length) ?a6 ?_
         case g1=>rfl
         case g2=>rfl
         case g3=>rfl
         case g4=>rfl
         case own=>exact hX'H.out.own.below (Below.refl _ _).drew
         case a4=>rw[hez];omega
         case a5=>exact hX'H.out.ble
         case a6=>rw[hez,hln']
         intro A6 c6 w8 hown8 hg8 hd8;have hnx:∀ b,(Value.slice A' m' c').ownBlock=some b→b≠xb:=fun b hb e=>by have:=(hX'H.out.ownB hb).1;omega
         have hC8:w8.cell? ⟨xb,1,none⟩=some (.slice A' m' c'):=hg8.cell q1 (fun e=>hnx xb e.symm rfl);have hk8:Kp (fun k=>(Value.slice A' m' c').ownBlock=some k) w7 w8:=Kp.of_grown (w:=w7) ⟨hg8.os,hg8.tape,hg8.output,hg8.size,hg8.block⟩ fun k hk=>hk;have hb8:Blk w8 xb [.pointer (some ⟨n+3,0,none⟩),.slice A' m' c',.int .i64 (y'.2:Nat)]:=hk8.blk hX'H.out.blk (by simp) (fun e=>hnx xb e rfl);have f8:=(hb8 1 _ rfl).2;have hkS8:Kp (fun k=>k=xb∨(Value.slice A' m' c').ownBlock=some k) w7 (w8.setCell ⟨xb,1,none⟩ (.slice A6 (m'+(endedP t).length) c6)):=(hk8.mono fun k _ hs=>.inr hs).setCell (.inr (.inl rfl)) _;have hd8':Dis (.slice A' m' c') (.slice A6 (m'+(endedP t).length) c6) w7:=fun b hb=>hd8 b hb;have hXS:XA W0 n T x I B xb s' cl' (y'.1++endedP t,y'.2) A6 (m'+(endedP t).length) c6 (w8.setCell ⟨xb,1,none⟩ (.slice A6 (m'+(endedP t).length) c6)):=by
          refine hX'H.out.put hkS8 (hb8.set (k:=1) (by simp) _) ?_;have h0:=hown8;rw[data_bsOf]at h0;exact((Kp.refl (fun k=>k=xb) w8).setCell (a:=⟨xb,1,none⟩) (.inr rfl) _).own h0 (fun b hb e=>by have:=(h0.1.lt b hb).1;omega) (fun _ h=>h)
         have hkW:=hkpH.out.msTrans hdisH.out (hkS8.mono fun k _ hs=>.inr hs);have hdW:=hdisH.out.trans hd8' hkpH.out.size;have hrLS:=hrL'H.out.step (hkS8.mono fun k _ hs=>.inr hs) hd8';have hrIS:=hrI'H.out.step (hkS8.mono fun k _ hs=>.inr hs) hd8';obtain⟨N8,hN8⟩:∃ N,m'+(endedP t).length=N:=⟨_,rfl⟩;have hlen8:(y'.1++endedP t).length=N8:=by rw[List.length_append,← hN8];omega
         rw[hN8]at hXS hdW hrLS hrIS hd8 hkW ⊢;clear hC hkS8 hd8' hown8 hg8 hk8 hb8 hd8;obtain⟨hXSH,hkWH,hdWH,hrLSH,hrISH,hlen8H,hnxH⟩:=hq2 hXS (hq2 hkW (hqb hdW hrLS hrIS hlen8 (Lib.hid hnx)));clear hXS hkW hdW hrLS hrIS hlen8 hnx;refine hK.out _ _ ⟨fun _ _ _=>trivial,fun _ _=>hC8⟩ ?_;clear hK K
         (try simp only[Act.put,List.setIfInBounds_toArray,List.set_cons_zero,List.set_cons_succ])
         have hC:=hC8;refine oneR (i:=8) (by kernel_rfl) rfl (fun K hK=>?_);go_simp;refine hK.out _ _ ⟨fun _ _ _=>trivial,fun _ _=>hC8⟩ ?_;clear hK K
         (try simp only[Act.put,List.setIfInBounds_toArray,List.set_cons_zero,List.set_cons_succ])
         refine takeC (i:=9) (d:=some 85) (v:=?_) rfl rfl (by kernel_rfl) (by kernel_rfl) (by kernel_rfl) (by kernel_rfl) (fun _ _ _ h=>h) (Or.inl ⟨by rfl,?_⟩) hC ?_
         rotate_left
         ·(intro w hSw;(try dsimp only at hSw);go_simp;(try with_reducible rfl))
         (try simp only[Act.put,List.setIfInBounds_toArray,List.set_cons_zero,List.set_cons_succ])
         refine oneR (i:=10) (by kernel_rfl) rfl (fun K hK=>?_);go_simp;refine hK.out _ _ ⟨fun h=>absurd rfl h,fun h=>absurd rfl h⟩ ?_;clear hK K
         (try simp only[Act.put,List.setIfInBounds_toArray,List.set_cons_zero,List.set_cons_succ])
         refine doneR (by kernel_rfl) ?_ _;have q1:=(hXSH.out.blk 1 _ rfl).1;have heq:=heqH.out;have hl8:=hlen8H.out;clear hC hC8 f8 heqH;have heE:(epOf x).ended t=endedP t:=rfl;rw[heE,hl8]at heq;clear heE hl8
         by_cases hbig:N8>100000
         ·rw[if_pos hbig]at heq;have R:=hZ'H.out (.returned (.int .i64 5)) _ (by
           rw[← heq];refine⟨A6,N8,c6,cl',rfl,hXSH.out,(by show (0:Int)≤5∧(5:Int)≤5;omega),?_,fun h=>absurd (show (5:Int)=0 from h) (by decide),by show y.2≤y'.2;omega,by show y'.2≤_;omega,by show cl'+y.2≤cl+y'.2+1;omega,hkWH.out,hdWH.out⟩;show (y'.1++endedP t).length≤300000;rw[hlen8H.out];omega)
          have hbig:(N8:Int)>100000:=by omega
          clear heq hN8;have RH:=Lib.hid R;clear R;go_wp2_with fail;exact RH.out
         ·rw[if_neg hbig]at heq;have R:FlRel (epOf x) (expM (epOf x) fuel (wi ++ [p])) (linesP b) W0 n T x I B xb r cl y.2 (.slice A m c) (some ⟨bl,ol,none⟩) m5 A4 (mi+1) (wi ++ [p]) w (.int .i64 (k+1)) (w8.setCell ⟨xb,1,none⟩ (.slice A6 N8 c6)) :=
           ⟨k+1,s',cl',(y'.1++endedP t,y'.2),A6,N8,c6,hkl2H.out,by go_num,heq,hXSH.out,by show (y'.1++endedP t).length≤_;rw[hlen8H.out];omega,hyr,hrd,hcl',hkWH.out,hdWH.out,hrLSH.out,hrISH.out⟩
          have hbig:¬ (N8:Int)>100000:=by omega
          clear heq hN8;have RH:=Lib.hid R;clear R;go_wp2;refine⟨?rel,?measure⟩
          case measure=>(simp[intOf];omega)
          case rel=>first | exact RH.out | exact⟨rfl,RH.out⟩
        ·have hn:inclP t=some P:=by rw[hincH.out,if_pos (by simp)]
         rw[expL_some _ _ _ _ _ P _ _ hn]at heq;have hPz2:=pathB_le hpb;clear hn hincH hpb;obtain⟨r1,hr1⟩:∃ r1,expM (epOf x) fuel (wi ++ [p]) P y' I s'=r1:=⟨_,rfl⟩;rw[hr1]at heq;have hrec:=ihH.out (wi ++ [p]) P s' cl' y' A' m' c' B xb A4 (mi+1) c4 w7 r1 (by rw[List.length_append,List.length_singleton];omega) hPz2 hX'H.out hrI'H.out (by omega) hcIb hcIaH.out (by omega) hyl hyr hr1;obtain⟨heqH,hr1H,hrecH⟩:=hq2 heq (hq2 hr1 (Lib.hid hrec));clear heq hr1 hrec;go_wp2_with fail;refine hrecH.out.mono ?_;rintro e w9 ⟨A6,m6,c6,cl6,rfl,hX9,hc9,hl9,h09,hge9,hle9,hcl9,hk9,hd9⟩;have heq:=heqH.out;have hkW:=hkpH.out.msTrans hdisH.out hk9;have hdW:=hdisH.out.trans hd9 hkpH.out.size;have hrLS:=hrL'H.out.step hk9 hd9;have hrIS:=hrI'H.out.step hk9 hd9;obtain⟨⟨c1',y1'⟩,s1'⟩:=r1;simp only at heq hX9 hc9 hl9 h09 hge9 hle9 hcl9 ⊢;clear heqH
         by_cases hz:c1'=0
         ·subst hz;rw[if_neg (by decide)]at heq;obtain⟨h1,h2,h3⟩:=h09 rfl;have R:FlRel (epOf x) (expM (epOf x) fuel (wi ++ [p])) (linesP b) W0 n T x I B xb r cl y.2 (.slice A m c) (some ⟨bl,ol,none⟩) m5 A4 (mi+1) (wi ++ [p]) w (.int .i64 (k+1)) w9 :=
           ⟨k+1,s1',cl6,y1',A6,m6,c6,hkl2H.out,by go_num,heq,hX9,h1,h2,by omega,by omega,hkW,hdW,hrLS,hrIS⟩
          clear heq h09;obtain⟨hX9H,hk9H,hd9H,hkWH,hdWH,hrLSH,hrISH,RH⟩:=hq2 hX9 (hq2 hk9 (hq2 hd9 (hqb hkW hdW hrLS hrIS (Lib.hid R))));clear hX9 hk9 hd9 hkW hdW hrLS hrIS R;go_wp2;refine⟨?rel,?measure⟩
          case measure=>(simp[intOf];omega)
          case rel=>first | exact RH.out | exact⟨rfl,RH.out⟩
         ·rw[if_pos hz]at heq;have R:=hZ'H.out (.returned (.int .i64 c1')) w9 (by
           rw[← heq];exact⟨A6,m6,c6,cl6,rfl,hX9,hc9,hl9,fun h=>absurd h hz,by show y.2≤y1'.2;omega,hle9,by show cl6+y.2≤cl+y1'.2+1;omega,hkW,hdW⟩)
          have hz':(c1' != 0)=true:=by simpa using hz
          clear heq h09 hz;obtain⟨hX9H,hk9H,hd9H,hkWH,hdWH,hrLSH,hrISH,RH⟩:=hq2 hX9 (hq2 hk9 (hq2 hd9 (hqb hkW hdW hrLS hrIS (Lib.hid R))));clear hX9 hk9 hd9 hkW hdW hrLS hrIS R;go_wp2_with fail;exact RH.out
      ·obtain rfl:k=m5:=by omega
       have e:(linesP b).drop k = []:=List.drop_eq_nil_of_le (by have:=hm5H.out;omega);rw[e]at heq;have heq:((0,y'),s')=r:=heq;have R:=hZ'H.out (.returned (.int .i64 0)) wr (by
        rw[← heq];exact⟨A',m',c',cl',rfl,hX',(by show (0:Int)≤0∧(0:Int)≤5;omega),by show y'.1.length≤_;omega,fun _=>⟨hyl,hyr,hcl'⟩,by show y.2≤y'.2;omega,by show y'.2≤_;omega,by show cl'+y.2≤cl+y'.2+1;omega,hkp,hdis⟩)
       clear e heq;obtain⟨hX'H,hkpH,hdisH,hrL'H,hrI'H,RH⟩:=hq2 hX' (hqb hkp hdis hrL' hrI' (Lib.hid R));clear hX' hkp hdis hrL' hrI' R;go_wp2_with fail;exact RH.out
   ·rw[e1 (by decide)]at hr;have R:=hZ'H.out (.returned (.int .i64 2)) w1 (by
     rw[← hr];exact⟨A,m,c,cl1,rfl,hX1,(by show (0:Int)≤2∧(2:Int)≤5;omega),by show y.1.length≤_;omega,fun h=>absurd (show (2:Int)=0 from h) (by decide),Nat.le_refl _,by show y.2≤_;omega,by show cl1+y.2≤cl+y.2+1;omega,hkm,Dis.refl _ _⟩)
    clear hr hrH e1 e2 e3;obtain⟨hb1H,hA1H,hk1H,hX1H,hkmH,hin1H,hqH,RH⟩:=hq2 hb1 (hq2 hA1 (hq2 hk1 (hqb hX1 hkm hin1 hq (Lib.hid R))));clear hb1 hA1 hk1 hX1 hkm hin1 hq R;go_wp2_with fail;exact RH.out
  ·rw[expM_four _ _ _ _ _ _ _ (.inr hhb)]at hr;have R:=hZ' (.returned (.int .i64 4)) w (by
    rw[← hr];exact⟨A,m,c,cl,rfl,hX,(by show (0:Int)≤4∧(4:Int)≤5;omega),by show y.1.length≤_;omega,fun h=>absurd (show (4:Int)=0 from h) (by decide),Nat.le_refl _,by show y.2≤_;omega,by show cl+y.2≤cl+y.2+1;omega,Kp.refl _ _,Dis.refl _ _⟩)
   clear hr;obtain⟨hZ'H,hXH,hinH,RH,hhbH,hmlH,hin0H,ihH⟩:=hq2 hZ' (hq2 hX (hq2 hin (hqb R hhb hml hin0 (Lib.hid ih))));clear hZ' hX hin R hhb hml hin0 ih;go_enter Tryz.func90,Tryz.ntmps90;go_wp2_with fail;refine(contB_any Ai mi ci wi p w hinH.out.sl (by omega)).mono ?_;rintro e w1 ⟨rfl,rfl⟩;rw[hhbH.out];go_wp2_with fail;exact RH.out
end Go.Proofs.YtdiaabeollcjaaaGreatDoor.C10