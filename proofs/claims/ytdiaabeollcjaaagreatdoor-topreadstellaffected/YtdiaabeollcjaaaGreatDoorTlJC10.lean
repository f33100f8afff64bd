/-
 Several texts of mine as one, without what is not wanted here: XExM, XChC.
-/
import Derived.Test.YtdiaabeollcjaaaGreatDoorTlHC10
import Derived.Test.YtdiaabeollcjaaaGreatDoorTlIC10
set_option linter.unusedVariables false
set_option linter.unusedSimpArgs false
set_option maxRecDepth 100000
set_option maxHeartbeats 8000000
namespace Go.Proofs.YtdiaabeollcjaaaGreatDoor.C10
open Go.ChangeShapes Go.WideShapes Go.Deep Go.RowKit Go.Maps
theorem wd_get {c:List ByteArray} {k:Nat} (h:k<c.length):c[k]? = some (wd c k):=by
 unfold wd;rw[List.getD_eq_getElem?_getD,List.getElem?_eq_getElem h];rfl
def Keeps {α:Type} (m:EM α):Prop:=∀ I s,LsKeep s (m I s).2
theorem LsKeep.refl (s:ES):LsKeep s s:=⟨rfl,rfl,rfl,rfl⟩
theorem Keeps.pure {α:Type} (a:α):Keeps (EM.pure a):=fun _ s=>LsKeep.refl s
theorem Keeps.bind {α β:Type} {m:EM α} {k:α→EM β} (h:Keeps m) (hk:∀ a,Keeps (k a)):Keeps (m.bind k):=fun I s=>(h I s).trans (hk _ I _)
theorem Keeps.ite {α:Type} {c:Prop} [Decidable c] {m n:EM α} (h:Keeps m) (h':Keeps n):Keeps (if c then m else n):=by split <;> assumption
section
variable {E:EP}
theorem keeps_find (p:ByteArray):Keeps (findM E p):=find_ls E p
theorem keeps_read (p:ByteArray):Keeps (readM E p):=(keeps_find p).bind fun a=>by cases a <;> exact Keeps.pure _
theorem keeps_joined:∀ (l:List ByteArray) (out:List UInt8),Keeps (joinedM E l out)
 | [],out=>Keeps.pure _
 | p::r,out=>(keeps_read p).bind fun x=>(Keeps.pure _).ite (keeps_joined r _)
theorem keeps_pick:∀ (l:List ByteArray),Keeps (pickM E l)
 | []=>Keeps.pure _
 | p::r=>(keeps_find p).bind fun x=>by
  cases x with
  | some x=>exact Keeps.pure _
  | none=>exact keeps_pick r
theorem keeps_expL {rec:ByteArray→XS→EM (Int × XS)} (hr:∀ p x,Keeps (rec p x)):∀ (l:List (List UInt8)) (x:XS),Keeps (expL E rec l x)
 | [],x=>Keeps.pure _
 | s::r,x=>by
  unfold expL
  split
  ·exact(hr _ x).bind fun y=>(Keeps.pure _).ite (keeps_expL hr r _)
  ·exact(Keeps.pure _).ite (keeps_expL hr r _)
theorem keeps_exp:∀ (n:Nat) (l:List ByteArray) (p:ByteArray) (x:XS),Keeps (expM E n l p x)
 | 0,_,_,_=>Keeps.pure _
 | n+1,l,p,x=>by
  unfold expM;exact(Keeps.pure _).ite ((keeps_read p).bind fun b=>(Keeps.pure _).ite ((Keeps.pure _).ite (keeps_expL (fun q y=>keeps_exp n _ q y) _ _)))
theorem keeps_made (c:List ByteArray):Keeps (madeM E c):=by
 unfold madeM;exact(keeps_joined _ _).ite (((keeps_exp _ _ _ _).bind fun _=>Keeps.pure _).ite ((keeps_pick _).ite ((Keeps.pure _).ite ((keeps_read _).bind fun b=>(Keeps.pure _).ite (Keeps.pure _)))))
end
def MdAns (W0:World) (n T:Nat) (x:Action) (I:Inp) (c:List ByteArray) (s:ES) (cl:Nat) (w:World) (e:Ending) (w':World):Prop :=
 ∃ r,BcAns W0 n T x I r 100000000000 10100 cl w e w'∧LsKeep s r.2∧(wd c 0≠wList→madeM (epOf x) c I s=r)
theorem BcAns.mono {W0:World} {n T:Nat} {x:Action} {I:Inp} {r:(List UInt8 × Int) × ES} {M M' D D' cl:Nat} {w:World} {e:Ending} {w':World} (h:BcAns W0 n T x I r M D cl w e w') (hM:M≤M') (hD:D≤D'):BcAns W0 n T x I r M' D' cl w e w':=by
 obtain⟨A,m,c,cl',h1,h2,h3,h4,h5,h6,h7⟩:=h;exact⟨A,m,c,cl',h1,h2,Nat.le_trans h3 hM,h4,h5,by omega,h7⟩
theorem MdAns.of {W0:World} {n T:Nat} {x:Action} {I:Inp} {c:List ByteArray} {s:ES} {cl:Nat} {w:World} {r:(List UInt8 × Int) × ES} (hr:madeM (epOf x) c I s=r) {M D:Nat} (hM:M≤100000000000) (hD:D≤10100) {e:Ending} {w':World} (h:BcAns W0 n T x I r M D cl w e w'):MdAns W0 n T x I c s cl w e w' :=
 ⟨r,h.mono hM hD,by rw[← hr];exact keeps_made c I s,fun _=>hr⟩
theorem made_pick_eq {E:EP} {c:List ByteArray} (h:wd c 0=wPick):madeM E c=pickM E (c.drop 2):=by
 unfold madeM;rw[if_neg (by rw[h];decide),if_neg (by rw[h];decide),if_pos h]
theorem made_var_eq {E:EP} {c:List ByteArray} (h:wd c 0=wVar):madeM E c = .pure (valueF E (wd c 2)):=by
 unfold madeM;rw[if_neg (by rw[h];decide),if_neg (by rw[h];decide),if_neg (by rw[h];decide),if_pos h]
theorem made_exp_eq {E:EP} {c:List ByteArray} (h:wd c 0=wExpand):madeM E c=(expM E 31 [] (wd c 2) ([],0)).bind fun y=>.pure (y.2.1,y.1):=by
 unfold madeM;rw[if_neg (by rw[h];decide),if_pos h]
theorem made_join_eq {E:EP} {c:List ByteArray} (h:wd c 0=wJoin):madeM E c=joinedM E (c.drop 2) []:=by unfold madeM;rw[if_pos h]
theorem made_join (W0:World) (n T:Nat) (x:Action) (I:Inp) (A:Option Addr) (m cc:Nat) (c:List ByteArray) (hc:SlAt RStr W0 A m c) (hmc:m≤cc) (hm:m≤50) (h0:wd c 0=wJoin) (h3:3≤c.length) (s:ES) (cl:Nat) (hcl:cl≤800000) (w:World) (hw:WA W0 n T x I s cl w) :
  Calls Tryz.prog 62 #[.pointer (some ⟨n+3,0,none⟩),.slice A m cc] w (MdAns W0 n T x I c s cl w):=by
 obtain⟨Z,hZ⟩:∃ Z,MdAns W0 n T x I c s cl w=Z:=⟨_,rfl⟩;have hZ':∀ e W,MdAns W0 n T x I c s cl w e W→Z e W:=fun e W h=>by rw[← hZ];exact h
 rw[hZ];clear hZ;have hln:c.length=m:=hc.1;have hcw:SlAt RStr w A m c:=hc.below hw.bel;obtain⟨b,off,hA1,_⟩:=hc.2.1 (by omega);subst hA1;have hx0:=wd_get (show 0<c.length by omega);rw[h0]at hx0;have cy0:=cell_Str hcw hx0;rw[Nat.add_zero]at cy0;clear hx0;have hpart:SlAt RStr W0 (some ⟨b,off+2,none⟩) (m-2) (c.drop 2):=by
  have:=slAt_part hc 2 (m-2) (by omega) rfl
  rwa [List.take_of_length_le (by rw[List.length_drop];omega)]at this
 have hcn:¬ cc=2:=by omega
 have hc2:2≤cc:=by omega
 have hm2:2≤m:=by omega
 have hdl:(c.drop 2).length=m-2:=by rw[List.length_drop];omega
 obtain⟨r,hr⟩:∃ r,joinedM (epOf x) (c.drop 2) [] I s=r:=⟨_,rfl⟩;have hcall:=joined_any (epOf x) rfl W0 n T x I (some ⟨b,off+2,none⟩) (m-2) (cc-2) (c.drop 2) hpart (by omega) s cl (by omega) w hw r hr;rw[← made_join_eq h0]at hr;rw[hdl]at hcall;have hB:100000*(m-2)≤100000000000:=by omega
 obtain⟨hZ'H,hcH,hwH,hcwH,hpartH,hcallH,hrH⟩:=hq2 hZ' (hq2 hc (hqb hw hcw hpart hcall (Lib.hid hr)));clear hZ' hc hw hcw hpart hcall hr;unfold wJoin at cy0;go_enter Tryz.func62,Tryz.ntmps62;go_wp2_with fail;refine hcallH.out.mono ?_;rintro e w1 ⟨A1,m1,c1,cl1,rfl,hb1,hl1,hcode,hA1,hcl1,hk1⟩;have R:=hZ'H.out (.returned (.tuple #[.slice A1 m1 c1,.int .i64 r.1.2])) w1 (MdAns.of hrH.out hB (by omega) ⟨A1,m1,c1,cl1,rfl,hb1,hl1,hcode,hA1,hcl1,hk1⟩);have RH:=Lib.hid R;clear R;go_wp2_with fail;exact RH.out
theorem made_pick (W0:World) (n T:Nat) (x:Action) (I:Inp) (A:Option Addr) (m cc:Nat) (c:List ByteArray) (hc:SlAt RStr W0 A m c) (hmc:m≤cc) (hm:m≤50) (h0:wd c 0=wPick) (h3:3≤c.length) (s:ES) (cl:Nat) (hcl:cl≤800000) (w:World) (hw:WA W0 n T x I s cl w) :
  Calls Tryz.prog 62 #[.pointer (some ⟨n+3,0,none⟩),.slice A m cc] w (MdAns W0 n T x I c s cl w):=by
 obtain⟨Z,hZ⟩:∃ Z,MdAns W0 n T x I c s cl w=Z:=⟨_,rfl⟩;have hZ':∀ e W,MdAns W0 n T x I c s cl w e W→Z e W:=fun e W h=>by rw[← hZ];exact h
 rw[hZ];clear hZ;have hln:c.length=m:=hc.1;have hcw:SlAt RStr w A m c:=hc.below hw.bel;obtain⟨b,off,hA1,_⟩:=hc.2.1 (by omega);subst hA1;have hx0:=wd_get (show 0<c.length by omega);rw[h0]at hx0;have cy0:=cell_Str hcw hx0;rw[Nat.add_zero]at cy0;clear hx0;have hpart:SlAt RStr W0 (some ⟨b,off+2,none⟩) (m-2) (c.drop 2):=by
  have:=slAt_part hc 2 (m-2) (by omega) rfl
  rwa [List.take_of_length_le (by rw[List.length_drop];omega)]at this
 have hcn:¬ cc=2:=by omega
 have hc2:2≤cc:=by omega
 have hm2:2≤m:=by omega
 have hdl:(c.drop 2).length=m-2:=by rw[List.length_drop];omega
 obtain⟨r,hr⟩:∃ r,pickM (epOf x) (c.drop 2) I s=r:=⟨_,rfl⟩;have hcall:=pick_any (epOf x) rfl W0 n T x I (some ⟨b,off+2,none⟩) (m-2) (cc-2) (c.drop 2) hpart (by omega) s cl (by omega) w hw r hr;rw[← made_pick_eq h0]at hr;rw[hdl]at hcall;have hB:100000≤100000000000:=by decide
 obtain⟨hZ'H,hcH,hwH,hcwH,hpartH,hcallH,hrH⟩:=hq2 hZ' (hq2 hc (hqb hw hcw hpart hcall (Lib.hid hr)));clear hZ' hc hw hcw hpart hcall hr;unfold wPick at cy0;go_enter Tryz.func62,Tryz.ntmps62;go_wp2_with fail;refine hcallH.out.mono ?_;rintro e w1 ⟨A1,m1,c1,cl1,rfl,hb1,hl1,hcode,hA1,hcl1,hk1⟩;have R:=hZ'H.out (.returned (.tuple #[.slice A1 m1 c1,.int .i64 r.1.2])) w1 (MdAns.of hrH.out hB (by omega) ⟨A1,m1,c1,cl1,rfl,hb1,hl1,hcode,hA1,hcl1,hk1⟩);have RH:=Lib.hid R;clear R;go_wp2_with fail;exact RH.out
theorem made_var (W0:World) (n T:Nat) (x:Action) (I:Inp) (hx:RAction.ok W0 x) (hv:VarsOk x.vars.l) (A:Option Addr) (m cc:Nat) (c:List ByteArray) (hc:SlAt RStr W0 A m c) (hmc:m≤cc) (hm:m≤50) (h0:wd c 0=wVar) (h3:3≤c.length) (s:ES) (cl:Nat) (hcl:cl≤800000) (w:World) (hw:WA W0 n T x I s cl w) :
  Calls Tryz.prog 62 #[.pointer (some ⟨n+3,0,none⟩),.slice A m cc] w (MdAns W0 n T x I c s cl w):=by
 obtain⟨Z,hZ⟩:∃ Z,MdAns W0 n T x I c s cl w=Z:=⟨_,rfl⟩;have hZ':∀ e W,MdAns W0 n T x I c s cl w e W→Z e W:=fun e W h=>by rw[← hZ];exact h
 rw[hZ];clear hZ;have hln:c.length=m:=hc.1;have hcw:SlAt RStr w A m c:=hc.below hw.bel;obtain⟨b,off,hA1,_⟩:=hc.2.1 (by omega);subst hA1;have hx0:=wd_get (show 0<c.length by omega);rw[h0]at hx0;have cy0:=cell_Str hcw hx0;rw[Nat.add_zero]at cy0;clear hx0;have hx2:=wd_get (show 2<c.length by omega);have cy2:=cell_Str hcw hx2;clear hx2;have hcall:=value_any W0 n T x I (wd c 2) hx hv s cl w hw;obtain⟨r,hr⟩:∃ r,valueF (epOf x) (wd c 2)=r:=⟨_,rfl⟩;have hr2:madeM (epOf x) c I s=(r,s):=by rw[made_var_eq h0,hr];rfl
 rw[hr]at hcall;obtain⟨hZ'H,hcH,hwH,hcwH,hcallH,hrH,hr2H,hxH,hvH⟩:=hqc hZ' hc hw hcw hcall hr hr2 hx (Lib.hid hv);clear hZ' hc hw hcw hcall hr hr2 hx hv;unfold wVar at cy0;go_enter Tryz.func62,Tryz.ntmps62;go_wp2_with fail;refine hcallH.out.mono ?_;rintro e w1 ⟨A1,m1,c1,cl1,rfl,hb1,hl1,hcode,hA1,hcl1,hk1⟩;have R:=hZ'H.out (.returned (.tuple #[.slice A1 m1 c1,.int .i64 r.2])) w1 (MdAns.of (M:=100000) (D:=0) hr2H.out (by decide) (by decide) ⟨A1,m1,c1,cl1,rfl,hb1,hl1,hcode,hA1,hcl1,hk1⟩);have RH:=Lib.hid R;clear R;go_wp2_with fail;exact RH.out
theorem made_list (W0:World) (n T:Nat) (x:Action) (I:Inp) (A:Option Addr) (m cc:Nat) (c:List ByteArray) (hc:SlAt RStr W0 A m c) (hmc:m≤cc) (hm:m≤50) (h0:wd c 0=wList) (h3:3≤c.length) (hz:∀ s∈c,s.size≤1000) (s:ES) (cl:Nat) (hcl:cl≤800000) (L:List ByteArray) (hL:LsIn x I s L) (w:World) (hw:WA W0 n T x I s cl w) :
  Calls Tryz.prog 62 #[.pointer (some ⟨n+3,0,none⟩),.slice A m cc] w (MdAns W0 n T x I c s cl w):=by
 obtain⟨Z,hZ⟩:∃ Z,MdAns W0 n T x I c s cl w=Z:=⟨_,rfl⟩;have hZ':∀ e W,MdAns W0 n T x I c s cl w e W→Z e W:=fun e W h=>by rw[← hZ];exact h
 rw[hZ];clear hZ;have hln:c.length=m:=hc.1;have hcw:SlAt RStr w A m c:=hc.below hw.bel;obtain⟨b,off,hA1,_⟩:=hc.2.1 (by omega);subst hA1;have hx0:=wd_get (show 0<c.length by omega);rw[h0]at hx0;have cy0:=cell_Str hcw hx0;rw[Nat.add_zero]at cy0;clear hx0;have hx2:=wd_get (show 2<c.length by omega);have cy2:=cell_Str hcw hx2;have hz2:=hz _ (List.mem_of_getElem? hx2);clear hx2;have hcall:=list_any W0 n T x I (wd c 2) hz2 s cl (by omega) L hL w hw;obtain⟨hZ'H,hcH,hwH,hcwH,hcallH,h0H,hLH⟩:=hq2 hZ' (hq2 hc (hqb hw hcw hcall h0 (Lib.hid hL)));clear hZ' hc hw hcw hcall h0 hL;unfold wList at cy0;go_enter Tryz.func62,Tryz.ntmps62;go_wp2_with fail;refine hcallH.out.mono ?_;rintro e w1 ⟨A1,m1,c1,out,s1,cl1,rfl,hb1,hl1,hA1,hls,hcl1,hk1⟩;have hl2:out.length=m1:=hb1.1.1.1;have R:=hZ'H.out (.returned (.tuple #[.slice A1 m1 c1,.int .i64 0])) w1 ⟨((out,0),s1),⟨A1,m1,c1,cl1,rfl,hb1,(by show out.length≤_;omega),(by show (0:Int)≤0∧(0:Int)≤999999;omega),hA1,by omega,hk1⟩,hls,fun h=>absurd h0H.out h⟩;clear hl2;have RH:=Lib.hid R;clear R;go_wp2_with fail;exact RH.out
theorem made_exp (W0:World) (n T:Nat) (x:Action) (I:Inp) (hmx:MaxLenAt W0) (A:Option Addr) (m cc:Nat) (c:List ByteArray) (hc:SlAt RStr W0 A m c) (hmc:m≤cc) (hm:m≤50) (h0:wd c 0=wExpand) (h3:3≤c.length) (hp:pathB (wd c 2)=true) (s:ES) (cl:Nat) (hcl:cl≤800000) (w:World) (hw:WA W0 n T x I s cl w) :
  Calls Tryz.prog 62 #[.pointer (some ⟨n+3,0,none⟩),.slice A m cc] w (MdAns W0 n T x I c s cl w):=by
 obtain⟨Z,hZ⟩:∃ Z,MdAns W0 n T x I c s cl w=Z:=⟨_,rfl⟩;have hZ':∀ e W,MdAns W0 n T x I c s cl w e W→Z e W:=fun e W h=>by rw[← hZ];exact h
 rw[hZ];clear hZ;have hln:c.length=m:=hc.1;have hcw:SlAt RStr w A m c:=hc.below hw.bel;obtain⟨b,off,hA1,_⟩:=hc.2.1 (by omega);subst hA1;have hx0:=wd_get (show 0<c.length by omega);rw[h0]at hx0;have cy0:=cell_Str hcw hx0;rw[Nat.add_zero]at cy0;clear hx0;have hx2:=wd_get (show 2<c.length by omega);have hba:=(Below.refl w.heap.size w).alloc (Nat.le_refl _) (.cells #[.pointer (some ⟨n+3,0,none⟩),.slice none 0 0,.int .i64 0] 136);have cy2:=cell_Str (hcw.below hba) hx2;clear hx2;obtain⟨r,hr⟩:∃ r,expM (epOf x) 31 [] (wd c 2) ([],0) I s=r:=⟨_,rfl⟩;have hr2:madeM (epOf x) c I s=((r.1.2.1,r.1.1),r.2):=by rw[made_exp_eq h0,bind_em,hr];rfl
 have hlt:=hw.lt;have htop:=hw.top;have hX:XA W0 n T x I (w.heap.size+1) w.heap.size s cl ([],0) none 0 0 (w.alloc (.cells #[.pointer (some ⟨n+3,0,none⟩),.slice none 0 0,.int .i64 0] 136)) :=
  ⟨hw.below hba,blk_new w [.pointer (some ⟨n+3,0,none⟩),.slice none 0 0,.int .i64 0] _,Own.nil _ _,by omega,by omega,by omega,by simp⟩
 have hps:=pathB_le hp;have hcall:=file_any W0 n T x I hmx 31 [] (wd c 2) s cl ([],0) none 0 0 (w.heap.size+1) w.heap.size none 0 0 _ r rfl (by omega) hX ⟨⟨rfl,fun h=>absurd h (by omega),fun y hy=>by cases hy⟩,fun h=>absurd h (by omega)⟩ (by omega) (by unfold maxLen;omega) (fun _=>rfl) (by show cl+10001≤900000+0;omega) (by show 0≤100000;omega) (by show 0≤10000;omega) hr;obtain⟨hZ'H,hcH,hwH,hcwH,hrH,hr2H,hbaH,hXH,hcallH⟩:=hqc hZ' hc hw hcw hr hr2 hba hX (Lib.hid hcall);clear hZ' hc hw hcw hr hr2 hba hX hcall;unfold wExpand at cy0;go_enter Tryz.func62,Tryz.ntmps62;go_wp2_with fail;refine hcallH.out.mono ?_;rintro e w1 ⟨A1,m1,c1,cl1,rfl,hX1,hcode,hl1,_,_,hrb,hcl1,hk1,_⟩;have qx:=(hX1.blk 1 _ rfl).1;have hbt:Bts (WS n) w1 A1 m1 c1 r.1.2.1:=own_bts hX1.own (fun k hk=>by have:=wS_le hk;omega);have hk:Kp (WS n) w w1:=by
  have h1:Kp (WS n) w _:=Kp.of_below hbaH.out;refine h1.old hk1 fun i hi hs=>?_
  rcases hs with hs | hs | hs
  ·exact hs
  ·omega
  ·cases hs
 have R:=hZ'H.out (.returned (.tuple #[.slice A1 m1 c1,.int .i64 r.1.1])) w1 (MdAns.of (M:=300000) (D:=10002) hr2H.out (by decide) (by decide) ⟨A1,m1,c1,cl1,rfl,hbt,hl1,(by show 0≤r.1.1∧r.1.1≤999999;omega),hX1.wa,(by have:cl1+0≤cl+r.1.2.2+1:=hcl1;omega),hk⟩);clear hbt hk hk1;obtain⟨hX1H,RH⟩:=hq2 hX1 (Lib.hid R);clear hX1 R;go_wp2_with fail;exact RH.out
end Go.Proofs.YtdiaabeollcjaaaGreatDoor.C10
namespace Go.Proofs.YtdiaabeollcjaaaGreatDoor.C10
open Go.ChangeShapes Go.WideShapes Go.Deep Go.RowKit
def cutF (f:ByteArray):ByteArray:=⟨(Lib.trimSuffix f.data.toList [43]).toArray⟩
def moreF (f:ByteArray):Bool:=Lib.hasSuffix f.data.toList [43]
theorem formL_cut {s f:ByteArray} (h:(s,f)∈formL):1≤(cutF f).size∧(cutF f).size≤9:=by
 unfold formL at h;simp only[List.mem_cons,List.not_mem_nil,or_false,Prod.mk.injEq]at h
 rcases h with ⟨_,rfl⟩ | ⟨_,rfl⟩ | ⟨_,rfl⟩ | ⟨_,rfl⟩ | ⟨_,rfl⟩ | ⟨_,rfl⟩ | ⟨_,rfl⟩ | ⟨_,rfl⟩ | ⟨_,rfl⟩ | ⟨_,rfl⟩ | ⟨_,rfl⟩ | ⟨_,rfl⟩ | ⟨_,rfl⟩ | ⟨_,rfl⟩ | ⟨_,rfl⟩ <;> decide
theorem wd_drop {c:List ByteArray} {k:Nat} (h:k+1<c.length):(c.drop 1)[k]? = some (wd c (k+1)):=by
 rw[List.getElem?_drop,show 1+k=k+1 by omega];exact wd_get h
theorem cut_fppm:cutF (⟨#[112,112,43]⟩:ByteArray)=(⟨#[112,112]⟩:ByteArray):=by decide
theorem more_fppm:moreF (⟨#[112,112,43]⟩:ByteArray)=true:=by decide
theorem cut_fpp:cutF (⟨#[112,112]⟩:ByteArray)=(⟨#[112,112]⟩:ByteArray):=by decide
theorem more_fpp:moreF (⟨#[112,112]⟩:ByteArray)=false:=by decide
theorem cut_fpnp:cutF (⟨#[112,110,112]⟩:ByteArray)=(⟨#[112,110,112]⟩:ByteArray):=by decide
theorem more_fpnp:moreF (⟨#[112,110,112]⟩:ByteArray)=false:=by decide
theorem cut_fpwwp:cutF (⟨#[112,119,119,112]⟩:ByteArray)=(⟨#[112,119,119,112]⟩:ByteArray):=by decide
theorem more_fpwwp:moreF (⟨#[112,119,119,112]⟩:ByteArray)=false:=by decide
theorem cut_fpppm:cutF (⟨#[112,112,112,43]⟩:ByteArray)=(⟨#[112,112,112]⟩:ByteArray):=by decide
theorem more_fpppm:moreF (⟨#[112,112,112,43]⟩:ByteArray)=true:=by decide
theorem cut_fpw:cutF (⟨#[112,119]⟩:ByteArray)=(⟨#[112,119]⟩:ByteArray):=by decide
theorem more_fpw:moreF (⟨#[112,119]⟩:ByteArray)=false:=by decide
theorem cut_fwm:cutF (⟨#[119,43]⟩:ByteArray)=(⟨#[119]⟩:ByteArray):=by decide
theorem more_fwm:moreF (⟨#[119,43]⟩:ByteArray)=true:=by decide
theorem cut_fp:cutF (⟨#[112]⟩:ByteArray)=(⟨#[112]⟩:ByteArray):=by decide
theorem more_fp:moreF (⟨#[112]⟩:ByteArray)=false:=by decide
theorem cut_fn:cutF (⟨#[110]⟩:ByteArray)=(⟨#[110]⟩:ByteArray):=by decide
theorem more_fn:moreF (⟨#[110]⟩:ByteArray)=false:=by decide
theorem cmd_ok {c:List ByteArray} {f:ByteArray} (h0:1≤c.length) (h50:c.length≤50) (ha:∀ s∈c,awB s=true) (hf:(wd c 0,f)∈formL) (hh:HasF (c.drop 1) (cutF f) (moreF f)):CmdOk c:=by
 refine⟨h0,h50,fun s hs=>awB_size (ha s hs),?_⟩;have hl:(c.drop 1).length=c.length-1:=List.length_drop;obtain⟨k1,k2,k3⟩:=hh;rw[hl]at k1 k2;have hp:∀ k,k+1<c.length→okAt (cutF f) k (wd c (k+1)):=fun k hk=>k3 k _ (wd_drop hk);have hall:∀ P:ByteArray→Prop,(∀ k,k+1<c.length→P (wd c (k+1)))→∀ p∈c.drop 1,P p:=fun P h p hp=>by
  obtain⟨k,hk,rfl⟩:=List.mem_iff_getElem.1 hp;have hk2:k+1<c.length:=by rw[hl]at hk;omega
  have:=wd_drop hk2;rw[List.getElem?_eq_getElem hk]at this;injection this with this;rw[this];exact h k hk2
 unfold formL at hf;simp only[List.mem_cons,List.not_mem_nil,or_false,Prod.mk.injEq]at hf
 rcases hf with ⟨h,rfl⟩ | ⟨h,rfl⟩ | ⟨h,rfl⟩ | ⟨h,rfl⟩ | ⟨h,rfl⟩ | ⟨h,rfl⟩ | ⟨h,rfl⟩ | ⟨h,rfl⟩ | ⟨h,rfl⟩ | ⟨h,rfl⟩ | ⟨h,rfl⟩ | ⟨h,rfl⟩ | ⟨h,rfl⟩ | ⟨h,rfl⟩ | ⟨h,rfl⟩
 ·rw[cut_fppm]at k1 k2 hp;rw[more_fppm]at k2;have z:(⟨#[112,112]⟩:ByteArray).size=2:=rfl;rw[z]at k1 k2;exact .inl ⟨h,by omega,hall _ fun k hk=>(hp k hk).1 (by
    show [112,112][min k 1]? = some 112;have:min k 1=0∨min k 1=1:=by omega
    rcases this with e | e <;> (rw[e];rfl))⟩
 ·rw[cut_fpp]at k1 k2 hp;rw[more_fpp]at k2;have z:(⟨#[112,112]⟩:ByteArray).size=2:=rfl;rw[z]at k1 k2;have hlen:c.length=3:=by
   rcases Nat.lt_or_ge 2 (c.length-1) with h | h
   ·exact absurd (k2 h) (by decide)
   ·omega
  exact .inr (.inl ⟨(.inl h),hlen,hall _ fun k hk=>(hp k hk).1 (by
    show [112,112][min k 1]? = some 112;have:min k 1=0∨min k 1=1:=by omega
    rcases this with e | e <;> (rw[e];rfl))⟩)
 ·rw[cut_fpp]at k1 k2 hp;rw[more_fpp]at k2;have z:(⟨#[112,112]⟩:ByteArray).size=2:=rfl;rw[z]at k1 k2;have hlen:c.length=3:=by
   rcases Nat.lt_or_ge 2 (c.length-1) with h | h
   ·exact absurd (k2 h) (by decide)
   ·omega
  exact .inr (.inl ⟨(.inr (.inl h)),hlen,hall _ fun k hk=>(hp k hk).1 (by
    show [112,112][min k 1]? = some 112;have:min k 1=0∨min k 1=1:=by omega
    rcases this with e | e <;> (rw[e];rfl))⟩)
 ·rw[cut_fpp]at k1 k2 hp;rw[more_fpp]at k2;have z:(⟨#[112,112]⟩:ByteArray).size=2:=rfl;rw[z]at k1 k2;have hlen:c.length=3:=by
   rcases Nat.lt_or_ge 2 (c.length-1) with h | h
   ·exact absurd (k2 h) (by decide)
   ·omega
  exact .inr (.inl ⟨(.inr (.inr (.inl h))),hlen,hall _ fun k hk=>(hp k hk).1 (by
    show [112,112][min k 1]? = some 112;have:min k 1=0∨min k 1=1:=by omega
    rcases this with e | e <;> (rw[e];rfl))⟩)
 ·rw[cut_fpp]at k1 k2 hp;rw[more_fpp]at k2;have z:(⟨#[112,112]⟩:ByteArray).size=2:=rfl;rw[z]at k1 k2;have hlen:c.length=3:=by
   rcases Nat.lt_or_ge 2 (c.length-1) with h | h
   ·exact absurd (k2 h) (by decide)
   ·omega
  exact .inr (.inl ⟨(.inr (.inr (.inr (.inl h)))),hlen,hall _ fun k hk=>(hp k hk).1 (by
    show [112,112][min k 1]? = some 112;have:min k 1=0∨min k 1=1:=by omega
    rcases this with e | e <;> (rw[e];rfl))⟩)
 ·rw[cut_fpp]at k1 k2 hp;rw[more_fpp]at k2;have z:(⟨#[112,112]⟩:ByteArray).size=2:=rfl;rw[z]at k1 k2;have hlen:c.length=3:=by
   rcases Nat.lt_or_ge 2 (c.length-1) with h | h
   ·exact absurd (k2 h) (by decide)
   ·omega
  exact .inr (.inl ⟨(.inr (.inr (.inr (.inr (.inl h))))),hlen,hall _ fun k hk=>(hp k hk).1 (by
    show [112,112][min k 1]? = some 112;have:min k 1=0∨min k 1=1:=by omega
    rcases this with e | e <;> (rw[e];rfl))⟩)
 ·rw[cut_fpp]at k1 k2 hp;rw[more_fpp]at k2;have z:(⟨#[112,112]⟩:ByteArray).size=2:=rfl;rw[z]at k1 k2;have hlen:c.length=3:=by
   rcases Nat.lt_or_ge 2 (c.length-1) with h | h
   ·exact absurd (k2 h) (by decide)
   ·omega
  exact .inr (.inl ⟨(.inr (.inr (.inr (.inr (.inr (h)))))),hlen,hall _ fun k hk=>(hp k hk).1 (by
    show [112,112][min k 1]? = some 112;have:min k 1=0∨min k 1=1:=by omega
    rcases this with e | e <;> (rw[e];rfl))⟩)
 ·rw[cut_fpnp]at k1 k2 hp;rw[more_fpnp]at k2;have z:(⟨#[112,110,112]⟩:ByteArray).size=3:=rfl;rw[z]at k1 k2;have hlen:c.length=4:=by
   rcases Nat.lt_or_ge 3 (c.length-1) with h | h
   ·exact absurd (k2 h) (by decide)
   ·omega
  exact .inr (.inr (.inl ⟨h,hlen,(hp 0 (by omega)).1 rfl,(hp 1 (by omega)).2 rfl,(hp 2 (by omega)).1 rfl⟩))
 ·rw[cut_fpwwp]at k1 k2 hp;rw[more_fpwwp]at k2;have z:(⟨#[112,119,119,112]⟩:ByteArray).size=4:=rfl;rw[z]at k1 k2;have hlen:c.length=5:=by
   rcases Nat.lt_or_ge 4 (c.length-1) with h | h
   ·exact absurd (k2 h) (by decide)
   ·omega
  exact .inr (.inr (.inr (.inl ⟨h,hlen,(hp 0 (by omega)).1 rfl,(hp 3 (by omega)).1 rfl⟩)))
 ·rw[cut_fpppm]at k1 k2 hp;rw[more_fpppm]at k2;have z:(⟨#[112,112,112]⟩:ByteArray).size=3:=rfl;rw[z]at k1 k2;exact .inr (.inr (.inr (.inr (.inl ⟨h,by omega,hall _ fun k hk=>(hp k hk).1 (by
    show [112,112,112][min k 2]? = some 112;have:min k 2=0∨min k 2=1∨min k 2=2:=by omega
    rcases this with e | e | e <;> (rw[e];rfl))⟩))))
 ·rw[cut_fpw]at k1 k2 hp;rw[more_fpw]at k2;have z:(⟨#[112,119]⟩:ByteArray).size=2:=rfl;rw[z]at k1 k2;have hlen:c.length=3:=by
   rcases Nat.lt_or_ge 2 (c.length-1) with h | h
   ·exact absurd (k2 h) (by decide)
   ·omega
  exact .inr (.inr (.inr (.inr (.inr (.inl ⟨h,hlen,(hp 0 (by omega)).1 rfl⟩)))))
 ·rw[cut_fwm]at k1 k2 hp;rw[more_fwm]at k2;have z:(⟨#[119]⟩:ByteArray).size=1:=rfl;rw[z]at k1 k2;exact .inr (.inr (.inr (.inr (.inr (.inr (.inl ⟨h,by omega⟩))))))
 ·rw[cut_fp]at k1 k2 hp;rw[more_fp]at k2;have z:(⟨#[112]⟩:ByteArray).size=1:=rfl;rw[z]at k1 k2;have hlen:c.length=2:=by
   rcases Nat.lt_or_ge 1 (c.length-1) with h | h
   ·exact absurd (k2 h) (by decide)
   ·omega
  exact .inr (.inr (.inr (.inr (.inr (.inr (.inr (.inl ⟨h,hlen,(hp 0 (by omega)).1 rfl⟩)))))))
 ·rw[cut_fpp]at k1 k2 hp;rw[more_fpp]at k2;have z:(⟨#[112,112]⟩:ByteArray).size=2:=rfl;rw[z]at k1 k2;have hlen:c.length=3:=by
   rcases Nat.lt_or_ge 2 (c.length-1) with h | h
   ·exact absurd (k2 h) (by decide)
   ·omega
  exact .inr (.inr (.inr (.inr (.inr (.inr (.inr (.inr (.inl ⟨h,hlen,(hp 0 (by omega)).1 rfl,(hp 1 (by omega)).1 rfl⟩))))))))
 ·rw[cut_fn]at k1 k2 hp;rw[more_fn]at k2;have z:(⟨#[110]⟩:ByteArray).size=1:=rfl;rw[z]at k1 k2;have hlen:c.length=2:=by
   rcases Nat.lt_or_ge 1 (c.length-1) with h | h
   ·exact absurd (k2 h) (by decide)
   ·omega
  exact .inr (.inr (.inr (.inr (.inr (.inr (.inr (.inr (.inr (⟨h,hlen,(hp 0 (by omega)).2 rfl⟩)))))))))
theorem formL_size {s f:ByteArray} (h:(s,f)∈formL):f.size≤9223372036854775807:=by
 unfold formL at h;simp only[List.mem_cons,List.not_mem_nil,or_false,Prod.mk.injEq]at h
 rcases h with ⟨_,rfl⟩ | ⟨_,rfl⟩ | ⟨_,rfl⟩ | ⟨_,rfl⟩ | ⟨_,rfl⟩ | ⟨_,rfl⟩ | ⟨_,rfl⟩ | ⟨_,rfl⟩ | ⟨_,rfl⟩ | ⟨_,rfl⟩ | ⟨_,rfl⟩ | ⟨_,rfl⟩ | ⟨_,rfl⟩ | ⟨_,rfl⟩ | ⟨_,rfl⟩ <;> decide
def toSs (l:List ByteArray):List Ss:=l.map fun s=>if h:s.size≤maxLen then ⟨s,h⟩ else default
theorem toSs_any {l:List ByteArray} (hl:∀ s∈l,s.size≤maxLen) (p:ByteArray→Bool):(toSs l).any (fun s=>p s.1)=l.any p:=by
 induction l with
 | nil=>rfl
 | cons x r ih =>
  have hx:=hl x List.mem_cons_self;unfold toSs at ih ⊢;rw[List.map_cons,List.any_cons,List.any_cons,ih fun s hs=>hl s (List.mem_cons_of_mem _ hs),dif_pos hx]
theorem contF_any (A:Option Addr) (n c:Nat) (l:List ByteArray) (g:Nat) (lb:Array Value) (eg:∀ args w,(callFunc g args).run Tryz.prog w = .ok (.enter g args) w) (p:ByteArray→Bool) (w:World) (hl:SlAt RStr w A n l) (hn:n≤1000000) (hp:PredAt Tryz.prog g lb encS (fun s:Ss=>p s.1) w) :
  Calls Tryz.prog 30 #[.slice A n c,.func (.func g) #[] lb] w fun e w'=>e = .returned (.bool (l.any p))∧Below w.heap.size w w':=by
 have hln:=hl.1
 rcases Nat.eq_zero_or_pos n with h0 | h0
 ·subst h0;obtain rfl:l = []:=List.eq_nil_of_length_eq_zero hln;exact(Tryz.slices_ContainsFunc_empty (α:=Ss) A c _ w).mono fun e w' ⟨h1,h2⟩=>⟨h1,h2 ▸ Below.refl _ _⟩
 ·obtain⟨b,off,rfl,_⟩:=hl.2.1 h0;have hzl:(toSs l).length=l.length:=by unfold toSs;rw[List.length_map]
  have:=Tryz.slices_ContainsFunc encS (fun s:Ss=>p s.1) g lb eg b off n c (toSs l) w hp (by omega) (by omega) (fun j hj=>by
   have hj2:j<l.length:=by omega
   have hx:l[j]? = some l[j]:=List.getElem?_eq_getElem hj2;rw[cell_Str hl hx];have hz:=hl.2.2 _ (List.getElem_mem hj2);have hz:l[j].size≤maxLen:=hz;have hg:(toSs l)[j]? = some ⟨l[j],hz⟩:=by unfold toSs;rw[List.getElem?_map,hx,Option.map_some,dif_pos hz]
   rw[List.getElem!_eq_getElem?_getD,hg];rfl)
  rw[List.take_of_length_le (by omega),toSs_any hl.2.2]at this;exact this.mono fun e w' ⟨h1,q,h2⟩=>⟨h1,h2 ▸ bel_drewN (Below.refl _ _) q⟩
def CkAns (P:Prop) (w:World) (e:Ending) (w':World):Prop:=∃ k:Int,e = .returned (.int .i64 k)∧Below w.heap.size w w'∧(k=0→P)
theorem checkCommand_any (A:Option Addr) (m c:Nat) (ws:List ByteArray) (w:World) (hm:MaxLenAt w) (hws:SlAt RStr w A m ws) (hmc:m≤c) (hm1:m≤9223372036854775807) :
  Calls Tryz.prog 53 #[.slice A m c] w (CkAns (CmdOk ws) w):=by
 obtain⟨Z,hZ⟩:∃ Z,CkAns (CmdOk ws) w=Z:=⟨_,rfl⟩;have hZ':∀ e W,CkAns (CmdOk ws) w e W→Z e W:=fun e W h=>by rw[← hZ];exact h
 rw[hZ];clear hZ;have hln:=hws.1;have R0:∀ (k:Int) W,k≠0→Below w.heap.size w W→Z (.returned (.int .i64 k)) W:=fun k W hk h=>hZ' _ _ ⟨k,rfl,h,fun e=>absurd e hk⟩;have R9:=R0 9 w (by decide) (Below.refl _ _);have R2:=R0 2 w (by decide) (Below.refl _ _)
 by_cases hm0:m=0
 ·subst hm0;obtain⟨hZ'H,hmH,hwsH,R0H,R9H,R2H⟩:=hq2 hZ' (hqb hm hws R0 R9 (Lib.hid R2));clear hZ' hm hws R0 R9 R2;go_enter Tryz.func53,Tryz.ntmps53;go_wp2_with fail;exact R9H.out
 ·by_cases hm50:m≤50
  ·have i0:¬ (m:Int)=0:=by omega
   have i5:¬ (50:Int)<(m:Int):=by omega
   have i00:0<m:=by omega
   have hcont:=contF_any A m c ws 76 #[] (fun args w=>enters_of Tryz.func76 (by kernel_rfl) rfl args w) (fun s=>!awB s) w hws (by omega) (word_fn w);obtain⟨bd,hbd⟩:∃ b,ws.any (fun s=>!awB s)=b:=⟨_,rfl⟩;rw[hbd]at hcont;obtain⟨hZ'H,hmH,hwsH,R0H,R9H,R2H,hcontH,hbdH⟩:=hq2 hZ' (hq2 hm (hq2 hws (hqb R0 R9 R2 hcont (Lib.hid hbd))));clear hZ' hm hws R0 R9 R2 hcont hbd;go_enter Tryz.func53,Tryz.ntmps53;go_wp2_with fail;refine hcontH.out.mono ?_;rintro e w1 ⟨rfl,hb1⟩
   cases bd
   ·have hall:∀ s∈ws,awB s=true:=fun s hs=>by
     have:=List.any_eq_false.1 hbdH.out s hs
     cases h:awB s with
     | true=>rfl
     | false=>rw[h]at this;exact absurd rfl this
    obtain⟨b,off,hA1,_⟩:=hwsH.out.2.1 i00;subst hA1;have hw1:=hwsH.out.below hb1;have hx0:=wd_get (show 0<ws.length by omega);have cy0:=cell_Str hw1 hx0;rw[Nat.add_zero]at cy0;have hfo:=form_any (wd ws 0) w1;obtain⟨hb1H,hallH,hw1H,hx0H,hfoH⟩:=hqb hb1 hall hw1 hx0 (Lib.hid hfo);clear hb1 hall hw1 hx0 hfo;go_wp2_with fail;refine hfoH.out.mono ?_;rintro e w2 ⟨f,rfl,rfl,hf⟩
    by_cases hfe:f=⟨#[]⟩
    ·have R4:=R0H.out 4 w1 (by decide) hb1H.out;subst hfe;have R4H:=Lib.hid R4;clear R4;go_wp2_with fail;exact R4H.out
    ·have hfm:(wd ws 0,f)∈formL:=by
      rcases hf with h | h
      ·exact absurd h hfe
      ·exact h
     have hfne:f.toList.isEmpty=false:=List.isEmpty_eq_false_iff.2 fun e=>hfe ((Lib.bytes_beq_iff f ⟨#[]⟩).1 (by rw[e,show (⟨#[]⟩:ByteArray).toList = [] by rw[ByteArray.toList_eq]];rfl));obtain⟨hc1,hc9⟩:=formL_cut hfm;obtain⟨A2,hA2⟩:∃ A2,(if c=1 then some (⟨b,off,none⟩:Addr) else some ⟨b,off+1,none⟩)=A2:=⟨_,rfl⟩;have hpart:SlAt RStr w1 A2 (m-1) (ws.drop 1):=by
      have hp:=slAt_part hw1H.out 1 (m-1) (by omega) rfl;rw[List.take_of_length_le (by rw[List.length_drop];omega)]at hp
      by_cases h:c=1
      ·have h0:m-1=0:=by omega
       rw[h0]at hp ⊢;refine⟨hp.1,fun h=>absurd h (by omega),fun x hx=>?_⟩;rw[List.eq_nil_of_length_eq_zero hp.1]at hx
       cases hx
      ·rw[if_neg h]at hA2;rw[← hA2];exact hp
     have hcut:=Tryz.strings_CutSuffix f ⟨#[43]⟩ w1 (formL_size hfm);have hhf:=hasForm_any A2 (m-1) (c-1) (ws.drop 1) w1 (hmH.out.below hb1H.out) hpart (by omega) (fun s hs=>(awB_size (hallH.out s (List.mem_of_mem_drop hs))).2) f (cutF f) (moreF f) hc1 hc9 (hcut.mono fun e w' ⟨h1,h2⟩=>⟨h1,h2.symm⟩);have h1c:1≤c:=by omega
     have h1m:1≤m:=by omega
     clear hf hcut;obtain⟨hfmH,hpartH,hhfH⟩:=hq2 hfm (hq2 hpart (Lib.hid hhf));clear hfm hpart hhf;go_wp2_with fail;refine hhfH.out.mono ?_;rintro e w2 ⟨yb,rfl,hb2,hyes⟩;have hb02:=hb1H.out.trans (hb2.mono hb1H.out.size);have R3:=R0H.out 3 w2 (by decide) hb02
     cases yb
     ·obtain⟨hb02H,R3H⟩:=hq2 hb02 (Lib.hid R3);clear hb02 R3;go_wp2_with fail;exact R3H.out
     ·have hhas:=hyes rfl;have hok:=cmd_ok (by omega) (by omega) hallH.out hfmH.out hhas;have Rk:=hZ'H.out (.returned (.int .i64 0)) w2 ⟨0,rfl,hb02,fun _=>hok⟩;have hw2:=hwsH.out.below hb02;have cz0:=cell_Str hw2 hx0H.out;rw[Nat.add_zero]at cz0;clear hyes hhas
      by_cases hfl:wd ws 0=wFail
      ·have hm2:1<m:=by
        rcases hok.form with ⟨h0,_⟩ | ⟨h0,_⟩ | ⟨h0,_⟩ | ⟨h0,_⟩ | ⟨h0,_⟩ | ⟨h0,_⟩ | ⟨h0,_⟩ | ⟨h0,_⟩ | ⟨h0,_⟩ | ⟨_,h2,_⟩
        case inr.inr.inr.inr.inr.inr.inr.inr.inr=>omega
        all_goals (exfalso;rw[hfl]at h0;revert h0;decide)
       have cz1:=cell_Str hw2 (wd_get (show 1<ws.length by omega));have g1:=(Lib.bytes_beq_iff (wd ws 0) wFail).2 hfl;rw[show wFail.toList = [102,97,105,108] by rw[ByteArray.toList_eq];rfl]at g1;have i1:(1:Int)<(m:Int):=by omega
       clear hok hfl;obtain⟨hb02H,R3H,RkH,hw2H⟩:=hq2 hb02 (hq2 R3 (hq2 Rk (Lib.hid hw2)));clear hb02 R3 Rk hw2;go_wp2_with fail
       all_goals first | exact R3H.out | exact RkH.out
      ·have g1:=(Lib.bytes_beq_false_iff (wd ws 0) wFail).2 hfl;rw[show wFail.toList = [102,97,105,108] by rw[ByteArray.toList_eq];rfl]at g1;clear hok hfl;obtain⟨hb02H,R3H,RkH,hw2H⟩:=hq2 hb02 (hq2 R3 (hq2 Rk (Lib.hid hw2)));clear hb02 R3 Rk hw2;go_wp2_with fail;exact RkH.out
   ·have R3:=R0H.out 3 w1 (by decide) hb1;obtain⟨hb1H,R3H⟩:=hq2 hb1 (Lib.hid R3);clear hb1 R3;go_wp2_with fail;exact R3H.out
  ·have i0:¬ (m:Int)=0:=by omega
   have i5:(50:Int)<(m:Int):=by omega
   obtain⟨hZ'H,hmH,hwsH,R0H,R9H,R2H⟩:=hq2 hZ' (hqb hm hws R0 R9 (Lib.hid R2));clear hZ' hm hws R0 R9 R2;go_enter Tryz.func53,Tryz.ntmps53;go_wp2_with fail;exact R2H.out
end Go.Proofs.YtdiaabeollcjaaaGreatDoor.C10