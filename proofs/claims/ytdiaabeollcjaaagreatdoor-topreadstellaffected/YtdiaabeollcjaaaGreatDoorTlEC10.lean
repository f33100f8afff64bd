/-
 Several texts of mine as one, without what is not wanted here: XExV, XClB, XExS, XExT.
-/
import Derived.Test.YtdiaabeollcjaaaGreatDoorTlDC10
import Derived.Lib.SliceRun
import Derived.WalkSpells
set_option linter.unusedVariables false
set_option linter.unusedSimpArgs false
set_option maxRecDepth 100000
set_option maxHeartbeats 8000000
namespace Go.Proofs.YtdiaabeollcjaaaGreatDoor.C10
open Go.ChangeShapes Go.WideShapes Go.Deep Go.RowKit Go.Maps
theorem bts_at {W:World} {b c:Nat} {cs:Array Value} {e:TypeId} {fz:Nat × Nat} {l:List UInt8} {S:Nat→Prop} (hb:W.heap[b]? = some (.cells cs e fz)) (hS:¬ S b) (hc:l.length≤c) (hcm:c≤maxLen) (hcs:∀ (j:Nat) (x:UInt8),l[j]? = some x→cs[j]? = some (.int .u8 x.toNat)) :
  Bts S W (some ⟨b,0,none⟩) l.length c l :=
 ⟨⟨⟨rfl,fun _=>⟨_,_,rfl,fun i x hx j v hv=>by
  have hj:j<1:=(List.getElem?_eq_some_iff.1 hv).1;obtain rfl:j=0:=by omega
  have hv:some (Value.int .u8 (x.toNat:Nat))=some v:=hv;rw[← hv];show W.cell? ⟨b,0+i*1+0,none⟩=_;rw[show 0+i*1+0=i by omega];unfold World.cell?;simp only[hb];exact hcs i x hx⟩,fun x hx=>trivial⟩,hc,hcm,fun h=>by cases h⟩,fun _ ad hA hs=>by injection hA with hA;subst hA;exact hS hs⟩
def convW (w:World) (s:ByteArray):World:=w.drew.alloc (.cells (bytesRow s (grownCap w s.size 0 5)) 5 ((bytesRow s (grownCap w s.size 0 5)).size,(bytesRow s (grownCap w s.size 0 5)).size+1))
theorem conv_any (w:World) (s:ByteArray):(convert 9 56 (.string s)).run Tryz.prog w = .ok (.slice (some ⟨w.heap.size,0,none⟩) s.size (grownCap w s.size 0 5)) (convW w s) :=
 run_bytes_of_string w 9 56 5 s Tryz.underlying9 Tryz.underlying56 Tryz.underlying5
theorem conv_below (w:World) (s:ByteArray):Below w.heap.size w (convW w s):=((Below.refl _ _).drew).alloc (Nat.le_refl _) _
theorem conv_bts (w:World) (s:ByteArray) (S:Nat→Prop) (hS:¬ S w.heap.size) (hs:s.size≤maxLen):Bts S (convW w s) (some ⟨w.heap.size,0,none⟩) s.size (grownCap w s.size 0 5) s.data.toList:=by
 have hl:s.data.toList.length=s.size:=(Lib.size_eq s).symm;have hb:(convW w s).heap[w.heap.size]? = some (.cells (bytesRow s (grownCap w s.size 0 5)) 5 ((bytesRow s (grownCap w s.size 0 5)).size,(bytesRow s (grownCap w s.size 0 5)).size+1)):=heap_alloc_new w.drew _;have:=bts_at (S:=S) (l:=s.data.toList) hb hS (c:=grownCap w s.size 0 5) (by rw[hl];exact grownCap_ge _ _ _ _) (grownCap_le_maxLen _ _ _ _ hs) (fun j x hx=>by
  have hj:j<s.data.size:=by have:=(List.getElem?_eq_some_iff.1 hx).1;simpa using this
  unfold bytesRow;rw[Array.getElem?_append_left (by simpa using hj),Array.getElem?_map];have hx':s.data[j]? = some x:=by rw[← Array.getElem?_toList];exact hx
  rw[hx'];rfl)
 rw[hl]at this;exact this
def ValRel (vs:List Var) (nm:ByteArray) (r:Option (List UInt8)) (w:World) (i:Value) (wr:World):Prop :=
 ∃ k:Nat,k≤vs.length∧i = .int .i64 k∧valK (vs.drop k) nm=r∧Below w.heap.size w wr
def valR:Option (List UInt8)→List UInt8 × Int | some v=>(v,0) | none=>([],4)
theorem valueF_eq (E:EP) (nm:ByteArray):valueF E nm=valR (E.val nm):=by unfold valueF valR;cases E.val nm <;> rfl
def VarsOk (l:List Var):Prop:=l.length≤30∧∀ v∈l,v.value.size≤300
theorem value_any (W0:World) (n T:Nat) (x:Action) (I:Inp) (nm:ByteArray) (hx:RAction.ok W0 x) (hv:VarsOk x.vars.l) (s:ES) (cl:Nat) (w:World) (hw:WA W0 n T x I s cl w) :
  Calls Tryz.prog 93 #[.pointer (some ⟨n+3,0,none⟩),.string nm] w (BcAns W0 n T x I (valueF (epOf x) nm,s) 100000 0 cl w):=by
 obtain⟨r,hr⟩:∃ r,valK x.vars.l nm=r:=⟨_,rfl⟩;have hvF:valueF (epOf x) nm=valR r:=by rw[valueF_eq,← hr];rfl
 rw[hvF];obtain⟨Z,hZ⟩:∃ Z,BcAns W0 n T x I (valR r,s) 100000 0 cl w=Z:=⟨_,rfl⟩;have hZ':∀ e W,BcAns W0 n T x I (valR r,s) 100000 0 cl w e W→Z e W:=fun e W h=>by rw[← hZ];exact h
 rw[hZ];clear hZ hvF;have hsl:SlAt RVar w x.vars.A x.vars.n x.vars.l:=hx.2.2.1.1.below hw.bel;have hll:=hsl.1;have hvl:=hv.1;obtain⟨_,q2,_,_,_,_,_,_⟩:=hw.cells;have hlt0:=hw.lt;have hst:ValRel x.vars.l nm r w (.int .i64 0) w:=⟨0,Nat.zero_le _,rfl,hr,Below.refl _ _⟩;obtain⟨vs,hvs⟩:∃ v,x.vars.l=v:=⟨_,rfl⟩;obtain⟨vA,hvA⟩:∃ v,x.vars.A=v:=⟨_,rfl⟩;obtain⟨vn,hvn⟩:∃ v,x.vars.n=v:=⟨_,rfl⟩;obtain⟨vc,hvc⟩:∃ v,x.vars.cap=v:=⟨_,rfl⟩;rw[hvs,hvA,hvn]at hsl;rw[hvs,hvn]at hll;rw[hvs]at hst hv hvl;rw[hvA,hvn,hvc]at q2;clear hr;obtain⟨hZ'H,hwH,hxH,hslH,hllH,hstH,hvH,hvsH,hvAH,hvnH,hvcH⟩:=hq2 hZ' (hq2 hw (hqc hx hsl hll hst hv hvs hvA hvn (Lib.hid hvc)));clear hZ' hw hx hsl hll hst hv hvs hvA hvn hvc;go_enter Tryz.func93,Tryz.ntmps93;go_wp2_with fail
 go_loopw [14] (fun i wr=>ValRel vs nm r w i wr) (fun i _=>vn-(intOf i).toNat)
 case atStart=>exact hstH.out
 case round =>
  clear hstH;obtain⟨k,hk,rfl,heq,hb⟩:=hrel;have hkm:k≤vn:=by have:=hllH.out;omega
  have hv30:vn≤30:=by have:=hllH.out;omega
  by_cases hlt:k<vn
  ·obtain⟨y,hy⟩:∃ y,vs[k]? = some y:=⟨vs[k]'(by have:=hllH.out;omega),List.getElem?_eq_getElem _⟩;have hsl:=hslH.out.below hb;obtain⟨bl,ol,hAL,_⟩:=hsl.2.1 (by omega);subst hAL;obtain⟨d0,d1⟩:=cells_Var hsl hy;have hyz:=hvH.out.2 y (List.mem_of_getElem? hy);rw[drop_cons hy,valK]at heq;have hkl2:k+1≤vs.length:=by have:=hllH.out;omega
   clear hsl;obtain⟨yn,yv⟩:=y;simp only at d0 d1 hyz heq;have hba:=(Below.refl wr.heap.size wr).alloc (Nat.le_refl _) (.cells #[.string yn,.string yv] 128);have hbw:=hb.trans (hba.mono hb.size);have hbs:=hb.size
   by_cases hn:yn=nm
   ·subst hn;rw[if_pos rfl]at heq;have hsz:(yv++(⟨#[10]⟩:ByteArray)).size≤301:=by rw[ByteArray.size_append];show yv.size+1≤301;omega
    have hcv:=conv_any (wr.alloc (.cells #[.string yn,.string yv] 128)) (yv++(⟨#[10]⟩:ByteArray));have hbC:=(conv_below (wr.alloc (.cells #[.string yn,.string yv] 128)) (yv++(⟨#[10]⟩:ByteArray)));have hBt:=conv_bts (wr.alloc (.cells #[.string yn,.string yv] 128)) (yv++(⟨#[10]⟩:ByteArray)) (WS n) (fun h=>by have:=wS_le h;simp at this;omega) (by unfold maxLen;omega);have hdat:(yv++(⟨#[10]⟩:ByteArray)).data.toList=yv.data.toList ++ [10]:=by simp[ByteArray.data_append]
    rw[hdat]at hBt;have hbw2:=hbw.trans (hbC.mono hbw.size);have R:=hZ'H.out (.returned (.tuple #[.slice (some ⟨(wr.alloc (.cells #[.string yn,.string yv] 128)).heap.size,0,none⟩) (yv++(⟨#[10]⟩:ByteArray)).size (grownCap (wr.alloc (.cells #[.string yn,.string yv] 128)) (yv++(⟨#[10]⟩:ByteArray)).size 0 5),.int .i64 0])) _ (by
     rw[← heq];refine⟨_,_,_,cl,rfl,hBt,?_,?_,hwH.out.below hbw2,by omega,Kp.of_below hbw2⟩
     ·show (yv.data.toList ++ [10]).length≤100000;have:yv.data.toList.length=yv.size:=(Lib.size_eq yv).symm;rw[List.length_append,List.length_singleton];omega
     ·show (0:Int)≤0∧(0:Int)≤999999;omega)
    have e2:(yv++(⟨#[10]⟩:ByteArray)).size=yv.size+1:=by rw[ByteArray.size_append];rfl
    rw[World.size_alloc,e2]at R;clear heq e2;obtain⟨hbH,hbaH,hbwH,hyH,hbCH,hBtH,hbw2H,RH,hdatH⟩:=hqc hb hba hbw hy hbC hBt hbw2 R (Lib.hid hdat);clear hb hba hbw hy hbC hBt hbw2 R hdat;go_wp2_with fail;exact RH.out
   ·rw[if_neg hn]at heq;have hne:=(Lib.bytes_beq_false_iff yn nm).2 hn;have R:ValRel vs nm r w (.int .i64 (k+1)) (wr.alloc (.cells #[.string yn,.string yv] 128)):=⟨k+1,hkl2,by go_num,heq,hbw⟩;clear heq;obtain⟨hbH,hbaH,hbwH,hyH,RH,hkl2H⟩:=hq2 hb (hqb hba hbw hy R (Lib.hid hkl2));clear hb hba hbw hy R hkl2;go_wp2;refine⟨?rel,?measure⟩
    case measure=>(simp[intOf];omega)
    case rel=>first | exact RH.out | exact⟨rfl,RH.out⟩
  ·obtain rfl:k=vn:=by omega
   have e:vs.drop k = []:=List.drop_eq_nil_of_le (by have:=hllH.out;omega);rw[e,valK]at heq;have R:=hZ'H.out (.returned (.tuple #[.slice none 0 0,.int .i64 4])) wr (by
    rw[← heq];refine⟨none,0,0,cl,rfl,Bts.nil _ _,Nat.zero_le _,?_,hwH.out.below hb,by omega,Kp.of_below hb⟩;show (0:Int)≤4∧(4:Int)≤999999;omega)
   clear heq e;obtain⟨hbH,RH⟩:=hq2 hb (Lib.hid R);clear hb R;go_wp2_with fail;exact RH.out
end Go.Proofs.YtdiaabeollcjaaaGreatDoor.C10
namespace Go.Proofs.YtdiaabeollcjaaaGreatDoor.C10
open Go.ChangeShapes Go.WideShapes Go.Deep Go.RowKit
theorem clone_bytes (A:Option Addr) (m c:Nat) (l:List UInt8) (w:World) (h:(RSl RU8).ok w ⟨A,m,c,l⟩) (hm:m≤140737488355328) :
  Calls Tryz.prog 99 #[.slice A m c] w fun e w' =>
   ∃ A' c',e = .returned (.slice A' m c')∧Own RU8 5 w' w.heap.size (.slice A' m c') l∧Below w.heap.size w w':=by
 obtain⟨h,h1,h2,h3⟩:=h;simp only at h h1 h2 h3
 cases A with
 | none =>
  obtain rfl:c=0:=h3 rfl;obtain rfl:m=0:=by omega
  obtain rfl:l = []:=List.eq_nil_of_length_eq_zero h.1;clear h h1 h2 h3;have he:=fun W:World=>Lib.run_eql_slice_nil (P:=Tryz.prog) W 56 5 none 0 0 0 0 Tryz.underlying56;go_enter Tryz.func99,Tryz.ntmps99;go_wp2;go_ret;exact⟨none,0,rfl,Own.nil _ _,Below.refl _ _⟩
 | some ad =>
  clear h1 h2 h3;have hH:=Lib.hid h;clear h;have he:=fun W:World=>Lib.run_eql_slice_nil (P:=Tryz.prog) W 56 5 (some ad) m c 0 0 Tryz.underlying56;go_enter Tryz.func99,Tryz.ntmps99;go_wp2_with (at_builtin;go_loud (refine wpList_app rfl (.tmp 5) (.tmp 6) 56 rfl Tryz.underlying56 elem_U8 (by decide) rfl (Own.empty w) (some ad) m c l rfl ?rd ?nn ?ok ?c1 ?c2 ?c3 m ?c4 ?_))
  case rd=>exact hH.out.below ((Below.refl _ _).alloc (Nat.le_refl _) _)
  case nn=>intro _ h;cases h
  case ok=>exact fun _ _ _ _ _=>trivial
  case c1=>simp[maxLen];omega
  case c2=>simp;omega
  case c3=>simp
  case c4=>simp
  intro A' c' w1 hown hg hat hb;go_wp2;go_ret;exact⟨A',c',rfl,hown,((Below.refl _ _).alloc (Nat.le_refl _) _).trans hb⟩
end Go.Proofs.YtdiaabeollcjaaaGreatDoor.C10
namespace Go.Proofs.YtdiaabeollcjaaaGreatDoor.C10
open Go.ChangeShapes Go.WideShapes Go.Deep Go.RowKit Go.Maps
theorem hasB_iff {l:List ByteArray} {x:ByteArray}:hasB l x=true↔x∈l:=by
 unfold hasB;rw[List.any_eq_true];exact⟨fun ⟨y,h1,h2⟩=>by have:=of_decide_eq_true h2;subst this;exact h1,fun h=>⟨x,h,decide_eq_true rfl⟩⟩
theorem contB_any (A:Option Addr) (n c:Nat) (l:List ByteArray) (x:ByteArray) (w:World) (hl:SlAt RStr w A n l) (hn:n≤9223372036854775807) :
  Calls Tryz.prog 98 #[.slice A n c,.string x] w fun e w'=>e = .returned (.bool (hasB l x))∧w=w':=by
 rcases Nat.eq_zero_or_pos n with h0 | h0
 ·subst h0;obtain rfl:l = []:=List.eq_nil_of_length_eq_zero hl.1;exact(Tryz.slices_Contains_string_empty A c x w).mono fun e w' ⟨h1,h2⟩=>⟨h1,h2.symm⟩
 ·obtain⟨b,off,rfl,hc⟩:=hl.2.1 h0;have hln:=hl.1;have hi:∀ l:List ByteArray,Lib.containsS l x=hasB l x:=fun l=>by
   rw[Bool.eq_iff_iff,Lib.containsS_iff,hasB_iff]
  refine(Tryz.slices_Contains_string b off n c l x w (by omega) hn (fun j hj=>?_)).mono fun e w' ⟨h1,h2⟩=>⟨by rw[h1,List.take_of_length_le (by omega),hi],h2.symm⟩;have hx:l[j]? = some (l.getD j ByteArray.empty):=by rw[List.getD_eq_getElem?_getD,List.getElem?_eq_getElem hj];rfl
  exact cell_Str hl hx
def WrAns (W0:World) (n T:Nat) (x:Action) (I:Inp) (s:ES) (r:Int × ES) (cl:Nat) (w:World) (e:Ending) (w':World):Prop :=
 ∃ T',e = .returned (.int .i64 r.1)∧WA W0 n T' x I r.2 cl w'∧(0≤r.1∧r.1≤999999)∧s.total-100000≤r.2.total∧r.2.total≤2000000∧r.2.nw≤s.nw+1∧Kp (WS n) w w'
theorem lenW_le {W0:World} {n T:Nat} {x:Action} {I:Inp} {s:ES} {cl:Nat} {w:World} (h:WA W0 n T x I s cl w) (p:ByteArray):0≤lenW s p∧lenW s p≤100000:=by
 obtain⟨f,_,hf⟩:=h.fo;unfold lenW
 rcases hf p with ⟨_,h2⟩ | ⟨v,y,_,h2,h3⟩
 ·rw[h2];exact⟨Int.le_refl _,by decide⟩
 ·rw[h2];have:=h3.len;dsimp only;omega
theorem WA.wrote {W0:World} {n T:Nat} {x:Action} {I:Inp} {s:ES} {cl:Nat} {w w':World} (h:WA W0 n T x I s cl w) {f:ByteArray→Option FV} {p:ByteArray} {v:FV} {y:PF} {total:Int} {nw T':Nat}
  (hb:Blk w' (n+3) (wCells x n s.told total)) (hk:Kp (fun k=>k=n+1∨k=n+3) w w') (hf:∀ q,(f q=none∧s.wr q=none)∨∃ v x,f q=some v∧s.wr q=some x∧FileIn (TS n T) w q v x)
  (hm:TMap KS valF w' (n+1) (upd f p v) nw) (hT:T≤T') (hT':T'≤w'.heap.size) (hv:FileIn (TS n T') w' p v y):WA W0 n T' x I { s with total:=total,wr:=updE s.wr p y,nw:=nw } cl w':=by
 have hl:=h.lt;have hks:Kp (WS n) w w':=hk.mono fun k _ hs=>by rcases hs with h | h <;> simp[WS,h]
 have up:∀ q v x,FileIn (TS n T) w q v x→FileIn (TS n T') w' q v x:=fun q v x hq =>
  have hq2:=hq.kp (hks.ts T)
  ⟨hq2.path,hq2.run,⟨hq2.bts.1,fun h0 ad hA hs=>hq2.bts.2 h0 ad hA (by rcases hs with hs | hs;exact .inl hs;exact .inr (Nat.le_trans hT hs))⟩,hq2.len⟩
 obtain⟨g,c,hg,hg2⟩:=h.fi;refine⟨hb,⟨g,c,hk.tmap hg (by simp),fun q=>?_⟩,⟨_,hm,fun q=>?_⟩,hk.tmap h.fl (by simp),h.told_,h.base,h.bel.trans (hks.below (by have:=h.base;omega) fun k hk=>by have:=wS_ge hk;have:=h.base;omega),hT'⟩
 ·rcases hg2 q with h | ⟨v,x,h1,h2,h3⟩
  ·exact .inl h
  ·exact .inr ⟨v,x,h1,h2,up _ _ _ h3⟩
 ·by_cases e:q=p
  ·subst e;exact .inr ⟨v,y,by unfold upd;rw[if_pos rfl],by show updE s.wr q y q=_;unfold updE;rw[if_pos rfl],hv⟩
  ·have e1:upd f p v q=f q:=by unfold upd;rw[if_neg e]
   have e2:updE s.wr p y q=s.wr q:=by unfold updE;rw[if_neg e]
   rcases hf q with ⟨h1,h2⟩ | ⟨v,x,h1,h2,h3⟩
   ·exact .inl ⟨by rw[e1,h1],by show updE s.wr p y q=none;rw[e2,h2]⟩
   ·exact .inr ⟨v,x,by rw[e1,h1],by show updE s.wr p y q=_;rw[e2,h2],up _ _ _ h3⟩
theorem field_f (p:ByteArray) (r:Bool) (A:Option Addr) (n c:Nat) (W:World):(Instr.field 58 (.agg #[.string p,.bool r,.slice A n c]) 2).run Tryz.prog W = .ok (.slice A n c) W:=by kernel_rfl
theorem write_any (W0:World) (n T:Nat) (x:Action) (I:Inp) (p:ByteArray) (hp:p.size≤maxLen) (hx:RAction.ok W0 x) (hon:x.outputs.n≤100) (s:ES) (cl:Nat) (A:Option Addr) (m c:Nat) (b:List UInt8) (run:Bool) (w:World) (hw:WA W0 n T x I s cl w) (hbt:Bts (WS n) w A m c b) (hm:m≤100000000000)
  (hnw:s.nw≤1000) (htot:-1000000000≤s.total∧s.total≤2000000) (r:Int × ES) (hr:writeM (epOf x) p b run I s=r) :
  Calls Tryz.prog 63 #[.pointer (some ⟨n+3,0,none⟩),.string p,.slice A m c,.bool run] w (WrAns W0 n T x I s r cl w):=by
 obtain⟨Z,hZ⟩:∃ Z,WrAns W0 n T x I s r cl w=Z:=⟨_,rfl⟩;have hZ':∀ e W,WrAns W0 n T x I s r cl w e W→Z e W:=fun e W h=>by rw[← hZ];exact h
 rw[hZ];clear hZ;have hos:SlAt RStr w x.outputs.A x.outputs.n x.outputs.l:=hx.2.2.2.1.1.below hw.bel;obtain⟨_,_,q3,_,q7,_,_,q10⟩:=hw.cells;have hbm:b.length=m:=hbt.1.1.1;have hlt0:=hw.lt;have hlw:=lenW_le hw p;obtain⟨g,hg,hg2⟩:=hw.fo;have hfz:=(hw.blk 10 _ rfl).2;unfold writeM at hr;have houts:(epOf x).outs=x.outputs.l:=rfl;rw[houts]at hr;obtain⟨hb,hhb⟩:∃ v,hasB x.outputs.l p=v:=⟨_,rfl⟩;rw[hhb]at hr
 cases hb
 ·rw[if_neg (by decide)]at hr;have R:=hZ' (.returned (.int .i64 3)) w (by rw[← hr];exact⟨T,rfl,hw,(by show (0:Int)≤3∧(3:Int)≤999999;omega),by show s.total-100000≤s.total;omega,htot.2,by show s.nw≤s.nw+1;omega,Kp.refl _ _⟩);clear hr;obtain⟨hZ'H,hwH,hosH,hbtH,hbmH,hgH,hg2H,hhbH,RH,hxH⟩:=hq2 hZ' (hqc hw hos hbt hbm hg hg2 hhb R (Lib.hid hx));clear hZ' hw hos hbt hbm hg hg2 hhb R hx;go_enter Tryz.func63,Tryz.ntmps63;go_wp2_with fail;refine(contB_any _ _ _ _ p w hosH.out (by omega)).mono ?_;rintro e w1 ⟨rfl,rfl⟩;rw[hhbH.out];go_wp2_with fail;exact RH.out
 ·rw[if_pos rfl]at hr;obtain⟨v,t,hv,hv2⟩:∃ v t,((t=true∧g p=some v)∨(t=false∧g p=none∧v=fv0))∧(v.n:Int)=lenW s p∧t=(s.wr p).isSome:=by
   rcases hg2 p with ⟨a,b⟩ | ⟨v,y,a,b,c⟩
   ·exact⟨fv0,false,.inr ⟨rfl,a,rfl⟩,by unfold lenW;rw[b];rfl,by rw[b];rfl⟩
   ·exact⟨v,true,.inl ⟨rfl,a⟩,by unfold lenW;rw[b];have:y.bs.length=v.n:=c.bts.1.1.1;show (v.n:Int)=(y.bs.length:Int);rw[this],by rw[b];rfl⟩
  have hlk:=(lookF (hg.below (Below.refl w.heap.size w).drew hg.lt) hp v t hv).2;obtain⟨vp,vr,vA,vn,vc⟩:=v;obtain⟨hvn,hts⟩:=hv2;simp only at hlk hvn;rw[← hvn]at hr hlw;have e1:IntKind.i64.wrap (s.total-(vn:Int))=s.total-(vn:Int):=IntWalk.i64_in _ (by omega);have e2:IntKind.i64.wrap (s.total-(vn:Int)+(m:Int))=s.total-(vn:Int)+(m:Int):=IntWalk.i64_in _ (by omega);have hfd:=field_f vp vr vA vn vc w.drew;rw[hbm]at hr;obtain⟨hZ'H,hwH,hosH,hbtH,hbmH,hgH,hg2H,hhbH,hxH,hvH,hvnH,htsH,hlwH⟩:=hqb hZ' hw hos hbt (hqc hbm hg hg2 hhb hx hv hvn hts (Lib.hid hlw));clear hZ' hw hos hbt hbm hg hg2 hhb hx hv hvn hts hlw;go_enter Tryz.func63,Tryz.ntmps63;go_wp2_with fail;refine(contB_any _ _ _ _ p w hosH.out (by omega)).mono ?_;rintro e w1 ⟨rfl,rfl⟩;rw[hhbH.out];go_wp2_with fail
  go_region
  have hwd:=hwH.out.below (Below.refl w.heap.size w).drew;have hkd:Kp (WS n) w w.drew:=Kp.of_below (Below.refl w.heap.size w).drew;have hlw:=hlwH.out
  by_cases h1:(m:Int)>100000
  ·rw[if_pos (.inl (by omega))]at hr;have R:=hZ'H.out (.returned (.int .i64 5)) w.drew (by rw[← hr];exact⟨T,rfl,hwd,(by show (0:Int)≤5∧(5:Int)≤999999;omega),by show s.total-100000≤s.total;omega,htot.2,by show s.nw≤s.nw+1;omega,hkd⟩);clear hr;obtain⟨hwdH,hkdH,RH⟩:=hq2 hwd (hq2 hkd (Lib.hid R));clear hwd hkd R;go_wp2_with fail;exact RH.out
  ·by_cases h2:s.total-(vn:Int)+(m:Int)>2000000
   ·rw[if_pos (.inr h2)]at hr;have R:=hZ'H.out (.returned (.int .i64 5)) w.drew (by rw[← hr];exact⟨T,rfl,hwd,(by show (0:Int)≤5∧(5:Int)≤999999;omega),by show s.total-100000≤s.total;omega,htot.2,by show s.nw≤s.nw+1;omega,hkd⟩);clear hr;obtain⟨hwdH,hkdH,RH⟩:=hq2 hwd (hq2 hkd (Lib.hid R));clear hwd hkd R;go_wp2_with fail;exact RH.out
   ·rw[if_neg (by omega)]at hr;go_wp2_with fail;obtain⟨tot,htt⟩:∃ t,s.total-(vn:Int)+(m:Int)=t:=⟨_,rfl⟩;have htl:s.total-100000≤tot∧tot≤2000000:=by omega
    have hbX:Blk (w.setCell ⟨n+3,10,none⟩ (.int .i64 tot)).drew (n+3) (wCells x n s.told tot):=(hwH.out.blk.set (k:=10) (by simp[wCells]) (.int .i64 tot)).keep rfl;have hgX:TMap KS valF (w.setCell ⟨n+3,10,none⟩ (.int .i64 tot)).drew (n+1) g s.nw:=by
     have h0:=hgH.out.setCell (a:=⟨n+3,10,none⟩) (by simp) (.int .i64 tot);exact h0.below (Below.refl _ _).drew h0.lt
    have hkX:Kp (fun k=>k=n+1∨k=n+3) w (w.setCell ⟨n+3,10,none⟩ (.int .i64 tot)).drew:=((Kp.refl _ w).setCell (.inr (.inr rfl)) _).drew;have hbtX:Bts (WS n) (w.setCell ⟨n+3,10,none⟩ (.int .i64 tot)).drew A m c b:=hbtH.out.kp (hkX.mono fun k _ hs=>by rcases hs with h | h <;> simp[WS,h]);rw[htt]at hr ⊢;obtain⟨X,hX⟩:∃ X,(w.setCell ⟨n+3,10,none⟩ (.int .i64 tot)).drew=X:=⟨_,rfl⟩;rw[hX]at hbX hgX hkX hbtX ⊢;have x7:=(hbX 7 _ rfl).1;have x7:X.cell? ⟨n+3,7,none⟩=some (.map (some (n+1))):=x7;have hm1:m≤100000:=by omega
    clear q3 q7 q10 hfz hlk hfd e1 e2 hlw h1 h2;obtain⟨hbXH,hgXH,hkXH,hbtXH,hXH,hwdH,hkdH,httH,hrH,htlH⟩:=hq2 hbX (hqc hgX hkX hbtX hX hwd hkd htt hr (Lib.hid htl));clear hbX hgX hkX hbtX hX hwd hkd htt hr htl;refine startR (R:=Rk (fun _=>True) (fun w'=>w'.cell? ⟨n+3,7,none⟩=some (.map (some (n+1)))) 10 10) (by kernel_rfl) ?_;have hC:X.drew.cell? ⟨n+3,7,none⟩=some (.map (some (n+1))):=x7;refine takeC (i:=0) (d:=some 45) (v:=?_) rfl rfl (by kernel_rfl) (by kernel_rfl) (by kernel_rfl) (by kernel_rfl) (fun _ _ _ h=>h) (Or.inl ⟨by rfl,?_⟩) hC ?_
    rotate_left
    ·(intro w hSw;(try dsimp only at hSw);go_simp;(try with_reducible rfl))
    (try simp only[Act.put,List.setIfInBounds_toArray,List.set_cons_zero,List.set_cons_succ])
    refine takeC (i:=1) (d:=some 46) (v:=?_) rfl rfl (by kernel_rfl) (by kernel_rfl) (by kernel_rfl) (by kernel_rfl) (fun _ _ _ h=>h) (Or.inl ⟨by rfl,?_⟩) hC ?_
    rotate_left
    ·(intro w hSw;(try dsimp only at hSw);go_simp;(try with_reducible rfl))
    (try simp only[Act.put,List.setIfInBounds_toArray,List.set_cons_zero,List.set_cons_succ])
    refine takeC (i:=2) (d:=some 47) (v:=?_) rfl rfl (by kernel_rfl) (by kernel_rfl) (by kernel_rfl) (by kernel_rfl) (fun _ _ _ h=>h) (Or.inl ⟨by rfl,?_⟩) hC ?_
    rotate_left
    ·(intro w hSw;(try dsimp only at hSw);go_simp;(try with_reducible rfl))
    (try simp only[Act.put,List.setIfInBounds_toArray,List.set_cons_zero,List.set_cons_succ])
    refine takeC (i:=3) (d:=some 48) (v:=?_) rfl rfl (by kernel_rfl) (by kernel_rfl) (by kernel_rfl) (by kernel_rfl) (fun _ _ _ h=>h) (Or.inl ⟨by rfl,?_⟩) hC ?_
    rotate_left
    ·(intro w hSw;(try dsimp only at hSw);go_simp;(try with_reducible rfl))
    (try simp only[Act.put,List.setIfInBounds_toArray,List.set_cons_zero,List.set_cons_succ])
    refine takeC (i:=4) (d:=some 49) (v:=?_) rfl rfl (by kernel_rfl) (by kernel_rfl) (by kernel_rfl) (by kernel_rfl) (fun _ _ _ h=>h) (Or.inl ⟨by rfl,?_⟩) hC ?_
    rotate_left
    ·(intro w hSw;(try dsimp only at hSw);go_simp;(try with_reducible rfl))
    (try simp only[Act.put,List.setIfInBounds_toArray,List.set_cons_zero,List.set_cons_succ])
    refine takeC (i:=5) (d:=some 50) (v:=?_) rfl rfl (by kernel_rfl) (by kernel_rfl) (by kernel_rfl) (by kernel_rfl) (fun _ _ _ h=>h) (Or.inl ⟨by rfl,?_⟩) hC ?_
    rotate_left
    ·(intro w hSw;(try dsimp only at hSw);go_simp;(try with_reducible rfl))
    (try simp only[Act.put,List.setIfInBounds_toArray,List.set_cons_zero,List.set_cons_succ])
    refine takeC (i:=6) (d:=some 51) (v:=?_) rfl rfl (by kernel_rfl) (by kernel_rfl) (by kernel_rfl) (by kernel_rfl) (fun _ _ _ h=>h) (Or.inl ⟨by rfl,?_⟩) hC ?_
    rotate_left
    ·(intro w hSw;(try dsimp only at hSw);go_simp;(try with_reducible rfl))
    (try simp only[Act.put,List.setIfInBounds_toArray,List.set_cons_zero,List.set_cons_succ])
    refine takeC (i:=7) (d:=some 52) (v:=?_) rfl rfl (by kernel_rfl) (by kernel_rfl) (by kernel_rfl) (by kernel_rfl) (fun _ _ _ h=>h) (Or.inl ⟨by rfl,?_⟩) hC ?_
    rotate_left
    ·(intro w hSw;(try dsimp only at hSw);go_simp;(try with_reducible rfl))
    (try simp only[Act.put,List.setIfInBounds_toArray,List.set_cons_zero,List.set_cons_succ])
    refine oneR (i:=8) (by kernel_rfl) rfl (fun K hK=>?_);go_simp;go_at_call 99;refine(clone_bytes A m c b _ ((RSl RU8).mono _ _ _ (Below.refl _ X).drew hbtXH.out.1) (by omega)).mono ?_;rintro e w7 ⟨A',c',rfl,hown,hb7⟩;have hb7:Below X.heap.size X w7:=(Below.refl _ X).drew.trans hb7;have hC7:w7.cell? ⟨n+3,7,none⟩=some (.map (some (n+1))):=keepC hb7 x7;have hlX:n+4≤X.heap.size:=by have:=hbXH.out.lt (by simp[wCells]);omega
    have hm7:=hgXH.out.below hb7 (by omega);obtain⟨w8,hrun,hm8,ht8⟩:=hm7.store (t:=52) Tryz.underlying52 injF (by simp only[maxLen];omega) (x:=p) hp (⟨p,run,A',m,c'⟩:FV);have hrun:(Instr.mapUpdate 52 (.map (some (n+1))) (.string p) (.agg #[.string p,.bool run,.slice A' m c'])).run Tryz.prog w7 = .ok () w8:=hrun;have R:=hZ'H.out (.returned (.int .i64 0)) w8 (by
     rw[← hrH.out];have hg8:=ht8.grown;have hb8:Blk w8 (n+3) (wCells x n s.told tot):=(blk_below hbXH.out (by simp[wCells]) hb7).keep (hg8.block _ (by have:=hb7.size;omega) (by simp));have hk8:Kp (fun k=>k=n+1∨k=n+3) w w8:=((hkXH.out.trans (Kp.of_below hb7)).trans (Kp.of_grown hg8 fun k hk=>by injection hk with hk;exact .inl hk.symm));have hks:Kp (WS n) w w8:=hk8.mono fun k _ hs=>by rcases hs with h | h <;> simp[WS,h]
     have hnw:(if (g p).isSome=true then s.nw else s.nw+1)=(if (s.wr p).isSome=true then s.nw else s.nw+1):=by
      rw[← htsH.out]
      rcases hvH.out with ⟨a,b⟩ | ⟨a,b,_⟩
      ·rw[a,b];rfl
      ·rw[a,b];rfl
     rw[hnw]at hm8;have hbs:Bts (TS n w8.heap.size) w8 A' m c' b:=by
      have hb0:=own_bts (S:=WS n) (hown.below (Below.refl _ _)) (fun k hk=>by have:=wS_le hk;show k<X.drew.heap.size;have:X.drew.heap.size=X.heap.size:=rfl;omega);have hb1:=hb0.kp (Kp.of_grown (S:=WS n) hg8 fun k hk=>by injection hk with hk;exact .inl hk.symm);refine⟨hb1.1,fun h0 ad hA hs=>?_⟩
      rcases hs with hs | hs
      ·exact hb1.2 h0 ad hA hs
      ·obtain⟨b9,o9,hA9,hc9⟩:=hb1.1.1.2.1 h0;have hA:A'=some ad:=hA;have hA9:A'=some ⟨b9,o9,none⟩:=hA9;rw[hA]at hA9;injection hA9 with hA9;have hl9:b.length=m:=hbmH.out;obtain⟨z,hz⟩:∃ z,b[0]? = some z:=⟨b[0]'(by omega),List.getElem?_eq_getElem _⟩;have:=cell?_lt (hc9 0 z hz 0 _ rfl);rw[hA9]at hs;have hs:w8.heap.size≤b9:=hs;have this:b9<w8.heap.size:=this;omega
     have hl9:b.length=m:=hbmH.out;refine⟨w8.heap.size,rfl,hwH.out.wrote hb8 hk8 hg2H.out hm8 (Nat.le_trans hwH.out.top hks.size) (Nat.le_refl _) ⟨rfl,rfl,hbs,by show b.length≤100000;omega⟩,(by show (0:Int)≤0∧(0:Int)≤999999;omega),htlH.out.1,htlH.out.2,?_,hks⟩;show (if (s.wr p).isSome=true then s.nw else s.nw+1)≤s.nw+1
     split <;> omega)
    clear hm7 hm8 ht8;obtain⟨hownH,hb7H,RH⟩:=hq2 hown (hq2 hb7 (Lib.hid R));clear hown hb7 R;refine hK.out _ _ ⟨fun _ _ _=>trivial,fun _ _=>hC7⟩ ?_;clear hK K
    (try simp only[Act.put,List.setIfInBounds_toArray,List.set_cons_zero,List.set_cons_succ])
    clear hC;have hC:=hC7;refine takeC (i:=9) (d:=some 54) (v:=?_) rfl rfl (by kernel_rfl) (by kernel_rfl) (by kernel_rfl) (by kernel_rfl) (fun _ _ _ h=>h) (Or.inl ⟨by rfl,?_⟩) hC ?_
    rotate_left
    ·(intro w hSw;(try dsimp only at hSw);go_simp;(try with_reducible rfl))
    (try simp only[Act.put,List.setIfInBounds_toArray,List.set_cons_zero,List.set_cons_succ])
    refine oneR (i:=10) (by kernel_rfl) rfl (fun K hK=>?_);go_simp;refine hK.out _ _ ⟨fun h=>absurd rfl h,fun h=>absurd rfl h⟩ ?_;clear hK K
    (try simp only[Act.put,List.setIfInBounds_toArray,List.set_cons_zero,List.set_cons_succ])
    refine doneR (by kernel_rfl) ?_ _;clear hC hC7 hrun x7;go_wp2_with fail;exact RH.out
theorem joinL_le (sep:List UInt8) (K:Nat):∀ (l:List (List UInt8)),(∀ y∈l,y.length≤K)→(Lib.join l sep).length≤l.length*(K+sep.length)
 | [],_=>by simp[Lib.join]
 | [x],h=>by
  have:=h x List.mem_cons_self;simp[Lib.join];omega
 | x::y::r,h=>by
  have h1:=h x List.mem_cons_self;have ih:=joinL_le sep K (y::r) (fun z hz=>h z (List.mem_cons_of_mem _ hz));have e:Lib.join (x::y::r) sep=x++(sep++Lib.join (y::r) sep):=by unfold Lib.join;rw[List.intercalate_cons_cons];simp
  rw[e,List.length_append,List.length_append];have e2:(x::y::r).length*(K+sep.length)=(K+sep.length)+(y::r).length*(K+sep.length):=by rw[List.length_cons,Nat.add_mul,Nat.one_mul,Nat.add_comm]
  rw[e2];omega
theorem join_any (A:Option Addr) (n c:Nat) (l:List ByteArray) (sep:ByteArray) (w:World) (hl:SlAt RStr w A n l) (hc:n≤c) (K:Nat) (hK:∀ y∈l,y.size≤K) (hb:l.length*(K+sep.size)≤140737488355328) (hn:n≤140737488355328) :
  Calls Tryz.prog 85 #[.slice A n c,.string sep] w fun e w'=>e = .returned (.string (bsOf (Lib.join (l.map (·.data.toList)) sep.data.toList)))∧Below w.heap.size w w':=by
 rcases Nat.eq_zero_or_pos n with h0 | h0
 ·subst h0;obtain rfl:l = []:=List.eq_nil_of_length_eq_zero hl.1;exact(Tryz.strings_Join_none A c sep w).mono fun e w' ⟨h1,h2⟩=>⟨h1,h2 ▸ Below.refl _ _⟩
 ·obtain⟨b,off,rfl,hcl⟩:=hl.2.1 h0;have hln:=hl.1;have hcells:∀ (j:Nat) x,l[j]? = some x→w.cell? ⟨b,off+j,none⟩=some (.string x):=fun j x hx=>cell_Str hl hx;have hbl:b<w.heap.size:=cell?_lt (hcells 0 _ (List.getElem?_eq_getElem (show 0<l.length by omega)));have:=Tryz.strings_Join b off c l sep w hcells hbl (by omega) (by omega) (by
   have:=joinL_le sep.data.toList K (l.map (·.data.toList)) (fun y hy=>by
    obtain⟨z,hz,rfl⟩:=List.mem_map.1 hy;have:=hK z hz;have e:z.data.toList.length=z.size:=(Lib.size_eq z).symm;omega)
   rw[List.length_map]at this;have e:sep.data.toList.length=sep.size:=(Lib.size_eq sep).symm;rw[e]at this;omega)
  rw[hln]at this;exact this
theorem WA.cell {W0:World} {n T:Nat} {x:Action} {I:Inp} {s:ES} {cl:Nat} {w w':World} (h:WA W0 n T x I s cl w) {told:ByteArray} (hb:Blk w' (n+3) (wCells x n told s.total)) (hk:Kp (fun k=>k=n+3) w w') (ht:told.size≤100000) :
  WA W0 n T x I { s with told:=told } cl w':=by
 have hl:=h.lt;have hks:Kp (WS n) w w':=hk.mono fun k _ hs=>by simp[WS,hs]
 obtain⟨f,c,hf,hf2⟩:=h.fi;obtain⟨g,hg,hg2⟩:=h.fo;exact⟨hb,⟨f,c,hk.tmap hf (by simp),hf2.kp (hks.ts T)⟩,⟨g,hk.tmap hg (by simp),hg2.kp (hks.ts T)⟩,hk.tmap h.fl (by simp),ht,h.base,h.bel.trans (hks.below (by have:=h.base;omega) fun k hk=>by have:=wS_ge hk;have:=h.base;omega),Nat.le_trans h.top hk.size⟩
def CdAns (W0:World) (n T:Nat) (x:Action) (I:Inp) (s:ES) (r:Int × ES) (D cl:Nat) (w:World) (e:Ending) (w':World):Prop :=
 ∃ T' cl',e = .returned (.int .i64 r.1)∧WA W0 n T' x I r.2 cl' w'∧(0≤r.1∧r.1≤999999)∧s.total-100000≤r.2.total∧r.2.total≤2000000∧r.2.nw≤s.nw+1∧cl'≤cl+D∧Kp (WS n) w w'
theorem say_eq (told:ByteArray) (l:List ByteArray):told++bsOf (Lib.join (l.map (·.data.toList)) [32])++(⟨#[10]⟩:ByteArray)=sayP l told:=by
 unfold sayP bsOf;apply ByteArray.ext;simp[ByteArray.data_append]
theorem tell_any (W0:World) (n T:Nat) (x:Action) (I:Inp) (A:Option Addr) (m c:Nat) (l:List ByteArray) (hl:SlAt RStr W0 A m l) (hmc:m≤c) (hm:m≤50) (hlz:∀ y∈l,y.size≤300) (s:ES) (cl:Nat) (w:World) (hw:WA W0 n T x I s cl w) (htot:s.total≤2000000) (r:Int × ES) (hr:tellM (epOf x) l I s=r) :
  Calls Tryz.prog 58 #[.pointer (some ⟨n+3,0,none⟩),.slice A m c] w (CdAns W0 n T x I s r 0 cl w):=by
 obtain⟨Z,hZ⟩:∃ Z,CdAns W0 n T x I s r 0 cl w=Z:=⟨_,rfl⟩;have hZ':∀ e W,CdAns W0 n T x I s r 0 cl w e W→Z e W:=fun e W h=>by rw[← hZ];exact h
 rw[hZ];clear hZ;obtain⟨_,_,_,_,_,_,q9,_⟩:=hw.cells;have hbl:=hw.blk;have hfz:=(hbl 9 _ rfl).2;have hts:=hw.told_;have hln:=hl.1;unfold tellM at hr;have hsayE:(epOf x).say l s.told=sayP l s.told:=rfl;rw[hsayE]at hr;obtain⟨J,hJ⟩:∃ J,bsOf (Lib.join (l.map (·.data.toList)) [32])=J:=⟨_,rfl⟩;have hsay:=say_eq s.told l;rw[hJ]at hsay;have hJz:J.size≤15050:=by
  rw[← hJ];have h1:=joinL_le [32] 300 (l.map (·.data.toList)) (fun y hy=>by
   obtain⟨z,hz,rfl⟩:=List.mem_map.1 hy;have:=hlz z hz;have e:z.data.toList.length=z.size:=(Lib.size_eq z).symm;omega)
  rw[List.length_map]at h1;have e:(bsOf (Lib.join (l.map (·.data.toList)) [32])).size=(Lib.join (l.map (·.data.toList)) [32]).length:=by unfold bsOf;exact List.size_toArray
  rw[e];simp only[List.length_singleton]at h1;have:l.length*301≤50*301:=Nat.mul_le_mul_right _ (by omega);omega
 have h1:(s.told++J).size≤115050:=by rw[ByteArray.size_append];omega
 have h2:(s.told++J++(⟨#[10]⟩:ByteArray)).size=(sayP l s.told).size:=by rw[hsay]
 have h3:(sayP l s.told).size≤115051:=by rw[← h2,ByteArray.size_append];show (s.told++J).size+1≤_;omega
 have hA1:SlAt RStr w A m l:=hl.below hw.bel;have hjc:=join_any A m c l ⟨#[32]⟩ w.drew (hA1.below (Below.refl _ _).drew) hmc 300 hlz (by
  have e:(⟨#[32]⟩:ByteArray).size=1:=rfl;rw[e];have:l.length*301≤50*301:=Nat.mul_le_mul_right _ (by omega);omega) (by omega)
 have e32:(⟨#[32]⟩:ByteArray).data.toList = [32]:=rfl;rw[e32,hJ]at hjc;have hjc:Calls Tryz.prog 85 #[.slice A m c,.string ⟨#[32]⟩] w.drew fun e w'=>e = .returned (.string J)∧Below w.heap.size w w'∧w'.cell? ⟨n+3,9,none⟩=some (.string s.told) :=
  hjc.mono fun e w' ⟨h1,h2⟩=>⟨h1,(Below.refl _ w).drew.trans h2,keepC (W:=w.drew) h2 q9⟩
 have h4:(s.told++J++(⟨#[10]⟩:ByteArray)).size≤115051:=by rw[h2];exact h3
 obtain⟨hZ'H,hwH,hlH,hblH,hsayH,hJH,hA1H,hlzH,hrH,h2H,h3H,hlnH,hjcH,e32H⟩:=hq2 hZ' (hqb hw hl hbl hsay (hqc hJ hA1 hlz hr h2 h3 hln hjc (Lib.hid e32)));clear hZ' hw hl hbl hsay hJ hA1 hlz hr h2 h3 hln hjc e32;go_enter Tryz.func58,Tryz.ntmps58;go_wp2_with fail;have n1:¬ 9223372036854775807<s.told.size+J.size:=by omega
 have n2:¬ 9223372036854775807<s.told.size+J.size+1:=by omega
 refine startR (R:=Rk (fun _=>True) (fun w'=>w'.cell? ⟨n+3,9,none⟩=some (.string s.told)) 8 8) (by kernel_rfl) ?_;have hC:w.drew.cell? ⟨n+3,9,none⟩=some (.string s.told):=q9;refine takeC (i:=0) (d:=some 6) (v:=?_) rfl rfl (by kernel_rfl) (by kernel_rfl) (by kernel_rfl) (by kernel_rfl) (fun _ _ _ h=>h) (Or.inl ⟨by rfl,?_⟩) hC ?_
 rotate_left
 ·(intro w hSw;(try dsimp only at hSw);go_simp;(try with_reducible rfl))
 (try simp only[Act.put,List.setIfInBounds_toArray,List.set_cons_zero,List.set_cons_succ])
 refine takeC (i:=1) (d:=some 7) (v:=?_) rfl rfl (by kernel_rfl) (by kernel_rfl) (by kernel_rfl) (by kernel_rfl) (fun _ _ _ h=>h) (Or.inl ⟨by rfl,?_⟩) hC ?_
 rotate_left
 ·(intro w hSw;(try dsimp only at hSw);go_simp;(try with_reducible rfl))
 (try simp only[Act.put,List.setIfInBounds_toArray,List.set_cons_zero,List.set_cons_succ])
 refine takeC (i:=2) (d:=some 8) (v:=?_) rfl rfl (by kernel_rfl) (by kernel_rfl) (by kernel_rfl) (by kernel_rfl) (fun _ _ _ h=>h) (Or.inl ⟨by rfl,?_⟩) hC ?_
 rotate_left
 ·(intro w hSw;(try dsimp only at hSw);go_simp;(try with_reducible rfl))
 (try simp only[Act.put,List.setIfInBounds_toArray,List.set_cons_zero,List.set_cons_succ])
 refine takeC (i:=3) (d:=some 9) (v:=?_) rfl rfl (by kernel_rfl) (by kernel_rfl) (by kernel_rfl) (by kernel_rfl) (fun _ _ _ h=>h) (Or.inl ⟨by rfl,?_⟩) hC ?_
 rotate_left
 ·(intro w hSw;(try dsimp only at hSw);go_simp;(try with_reducible rfl))
 (try simp only[Act.put,List.setIfInBounds_toArray,List.set_cons_zero,List.set_cons_succ])
 refine takeC (i:=4) (d:=some 10) (v:=?_) rfl rfl (by kernel_rfl) (by kernel_rfl) (by kernel_rfl) (by kernel_rfl) (fun _ _ _ h=>h) (Or.inl ⟨by rfl,?_⟩) hC ?_
 rotate_left
 ·(intro w hSw;(try dsimp only at hSw);go_simp;(try with_reducible rfl))
 (try simp only[Act.put,List.setIfInBounds_toArray,List.set_cons_zero,List.set_cons_succ])
 refine oneR (i:=5) (by kernel_rfl) rfl (fun K hK=>?_);go_simp;go_at_call 85;refine hjcH.out.mono ?_;rintro e w1 ⟨rfl,hb1,hC1⟩;have hb1H:=Lib.hid hb1;clear hb1;refine hK.out _ _ ⟨fun _ _ _=>trivial,fun _ _=>hC1⟩ ?_;clear hK K
 (try simp only[Act.put,List.setIfInBounds_toArray,List.set_cons_zero,List.set_cons_succ])
 clear hC;have hC:=hC1;refine takeC (i:=6) (d:=some 12) (v:=?_) rfl rfl (by kernel_rfl) (by kernel_rfl) (by kernel_rfl) (by kernel_rfl) (fun _ _ _ h=>h) (Or.inl ⟨by rfl,?_⟩) hC ?_
 rotate_left
 ·(intro w hSw;(try dsimp only at hSw);go_simp;(try with_reducible rfl))
 (try simp only[Act.put,List.setIfInBounds_toArray,List.set_cons_zero,List.set_cons_succ])
 refine takeC (i:=7) (d:=some 13) (v:=?_) rfl rfl (by kernel_rfl) (by kernel_rfl) (by kernel_rfl) (by kernel_rfl) (fun _ _ _ h=>h) (Or.inl ⟨by rfl,?_⟩) hC ?_
 rotate_left
 ·(intro w hSw;(try dsimp only at hSw);go_simp;(try with_reducible rfl))
 (try simp only[Act.put,List.setIfInBounds_toArray,List.set_cons_zero,List.set_cons_succ])
 refine oneR (i:=8) (by kernel_rfl) rfl (fun K hK=>?_);go_simp;refine hK.out _ _ ⟨fun h=>absurd rfl h,fun h=>absurd rfl h⟩ ?_;clear hK K
 (try simp only[Act.put,List.setIfInBounds_toArray,List.set_cons_zero,List.set_cons_succ])
 refine doneR (by kernel_rfl) ?_ _;clear hC n1 n2;have hq1:=hC1;clear hC1;have hb1:=hb1H.out;clear hb1H;have hb1:Below w.heap.size w w1:=hb1;have hw1:=hwH.out.below hb1;have hbl1:=blk_below hblH.out (by simp[wCells]) hb1;have hf1:=(hbl1 9 _ rfl).2;have hk1:Kp (WS n) w w1:=Kp.of_below hb1;have hr:=hrH.out;rw[← hsayH.out]at hr;obtain⟨S,hS⟩:∃ S,s.told++J++(⟨#[10]⟩:ByteArray)=S:=⟨_,rfl⟩;rw[hS]at hr h4 ⊢;clear hS
 by_cases hg:(S.size:Int)>100000
 ·rw[if_pos (by omega)]at hr;have R:=hZ'H.out (.returned (.int .i64 5)) w1 (by rw[← hr];exact⟨T,cl,rfl,hw1,(by show (0:Int)≤5∧(5:Int)≤999999;omega),by show s.total-100000≤s.total;omega,htot,by show s.nw≤s.nw+1;omega,by omega,hk1⟩);clear hr hsayH hrH;obtain⟨hb1H,hw1H,hbl1H,hk1H,RH⟩:=hqb hb1 hw1 hbl1 hk1 (Lib.hid R);clear hb1 hw1 hbl1 hk1 R;go_wp2_with fail;exact RH.out
 ·rw[if_neg (by omega)]at hr;have hblS:=hbl1.set (k:=9) (by simp[wCells]) (.string S);have hkS:Kp (fun k=>k=n+3) w1 (w1.setCell ⟨n+3,9,none⟩ (.string S)):=(Kp.refl (fun k=>k=n+3) w1).setCell (a:=⟨n+3,9,none⟩) (.inr rfl) _;have hwS:=hw1.cell (told:=S) hblS hkS (by omega);have hkW:Kp (WS n) w (w1.setCell ⟨n+3,9,none⟩ (.string S)):=hk1.trans (hkS.mono fun k _ hs=>by simp[WS,hs]);have R:=hZ'H.out (.returned (.int .i64 0)) _ (by rw[← hr];exact⟨T,cl,rfl,hwS,(by show (0:Int)≤0∧(0:Int)≤999999;omega),by show s.total-100000≤s.total;omega,htot,by show s.nw≤s.nw+1;omega,by omega,hkW⟩);clear hr hsayH hrH;obtain⟨hb1H,hw1H,hbl1H,hk1H,hblSH,hkSH,hwSH,hkWH,RH⟩:=hqc hb1 hw1 hbl1 hk1 hblS hkS hwS hkW (Lib.hid R);clear hb1 hw1 hbl1 hk1 hblS hkS hwS hkW R;go_wp2_with fail;exact RH.out
theorem find_keep (E:EP) (p:ByteArray) (I:Inp) (s:ES):(findM E p I s).2.total=s.total∧(findM E p I s).2.nw=s.nw∧(findM E p I s).2.told=s.told:=by
 unfold findM
 split
 ·exact⟨rfl,rfl,rfl⟩
 ·dsimp only
  split <;> exact⟨rfl,rfl,rfl⟩
theorem read_keep (E:EP) (p:ByteArray) (I:Inp) (s:ES):(readM E p I s).2.total=s.total∧(readM E p I s).2.nw=s.nw:=by
 have h:=find_keep E p I s;unfold readM EM.bind
 cases (findM E p I s).1 <;> exact⟨h.1,h.2.1⟩
theorem ite_em {α:Type} {c:Prop} [Decidable c] (m k:EM α) (I:Inp) (s:ES):(if c then m else k) I s=if c then m I s else k I s:=by split <;> rfl
theorem bind_em {α β:Type} (m:EM α) (k:α→EM β) (I:Inp) (s:ES):m.bind k I s=k (m I s).1 I (m I s).2:=rfl
theorem same_eq (E:EP) (p q:ByteArray) (I:Inp) (s:ES):sameM E p q I s =
  if (readM E p I s).1.2≠0 then ((readM E p I s).1.2,(readM E p I s).2)
  else if (readM E q I (readM E p I s).2).1.2≠0 then ((readM E q I (readM E p I s).2).1.2,(readM E q I (readM E p I s).2).2)
  else ((if (readM E p I s).1.1=(readM E q I (readM E p I s).2).1.1 then 0 else 4),(readM E q I (readM E p I s).2).2):=by
 unfold sameM;rw[bind_em,ite_em]
 by_cases h:(readM E p I s).1.2≠0
 ·rw[if_pos h,if_pos h];rfl
 ·rw[if_neg h,if_neg h,bind_em,ite_em]
  by_cases h2:(readM E q I (readM E p I s).2).1.2≠0
  ·rw[if_pos h2,if_pos h2];rfl
  ·rw[if_neg h2,if_neg h2];rfl
theorem same_any (W0:World) (n T:Nat) (x:Action) (I:Inp) (p q:ByteArray) (hp:p.size≤maxLen) (hq:q.size≤maxLen) (s:ES) (cl:Nat) (hcl:cl≤900000) (w:World) (hw:WA W0 n T x I s cl w) (htot:s.total≤2000000) (r:Int × ES) (hr:sameM (epOf x) p q I s=r) :
  Calls Tryz.prog 60 #[.pointer (some ⟨n+3,0,none⟩),.string p,.string q] w (CdAns W0 n T x I s r 2 cl w):=by
 obtain⟨Z,hZ⟩:∃ Z,CdAns W0 n T x I s r 2 cl w=Z:=⟨_,rfl⟩;have hZ':∀ e W,CdAns W0 n T x I s r 2 cl w e W→Z e W:=fun e W h=>by rw[← hZ];exact h
 rw[hZ];clear hZ;obtain⟨hZ'H,hwH,hrH⟩:=hq2 hZ' (hq2 hw (Lib.hid hr));clear hZ' hw hr;go_enter Tryz.func60,Tryz.ntmps60;go_wp2_with fail;refine(read_any (epOf x) rfl W0 n T x I p hp s cl (by omega) w hwH.out).mono ?_;rintro e w1 ⟨A1,m1,c1,cl1,rfl,hb1,hlen1,hcode,hA1,hcl1,hk1⟩;have hr:=hrH.out;rw[same_eq]at hr;have htr:=read_keep (epOf x) p I s;obtain⟨r1,hr1⟩:∃ r,readM (epOf x) p I s=r:=⟨_,rfl⟩;rw[hr1]at hr hb1 hcode hA1 htr ⊢;obtain⟨⟨b1,k1⟩,s1⟩:=r1;simp only at hr hb1 hcode hA1 htr ⊢
 rcases hcode with rfl | rfl
 ·rw[if_neg (by decide)]at hr;obtain⟨hb1H,hA1H,hk1H,hrH,hr1H,htrH⟩:=hq2 hb1 (hqb hA1 hk1 hr hr1 (Lib.hid htr));clear hb1 hA1 hk1 hr hr1 htr;go_wp2_with fail;refine(read_any (epOf x) rfl W0 n T x I q hq s1 cl1 (by omega) w1 hA1H.out).mono ?_;rintro e w2 ⟨A2,m2,c2,cl2,rfl,hb2,hlen2,hcode,hA2,hcl2,hk2⟩;have hr:=hrH.out;have htr2:=read_keep (epOf x) q I s1;obtain⟨r2,hr2⟩:∃ r,readM (epOf x) q I s1=r:=⟨_,rfl⟩;rw[hr2]at hr hb2 hcode hA2 htr2 ⊢;obtain⟨⟨b2,k2⟩,s2⟩:=r2;simp only at hr hb2 hcode hA2 htr2 ⊢;have htr:=htrH.out;have hkw:=hk1H.out.trans hk2
  rcases hcode with rfl | rfl
  ·rw[if_neg (by decide)]at hr;have hq1:=hb1H.out.kp (hk2.ts T);have R:=hZ'H.out (.returned (.int .i64 (if b1=b2 then 0 else 4))) w2 (by
    rw[← hr];refine⟨T,cl2,rfl,hA2,?_,by show s.total-100000≤s2.total;omega,by show s2.total≤_;omega,by show s2.nw≤_;omega,by omega,hkw⟩;show (0:Int)≤(if b1=b2 then 0 else 4)∧(if b1=b2 then (0:Int) else 4)≤999999
    split <;> omega)
   clear hr hrH;obtain⟨v,hv⟩:∃ v,(b1==b2)=v:=⟨_,rfl⟩;have hif:(if b1=b2 then (0:Int) else 4)=if v=true then 0 else 4:=by
    by_cases h:b1=b2
    ·have:v=true:=by rw[← hv];simp[h]
     rw[if_pos h,if_pos this]
    ·have:v=false:=by rw[← hv];simp[h]
     rw[if_neg h,this];rfl
   rw[hif]at R;clear hif;obtain⟨hb2H,hA2H,hk2H,hkwH,hq1H,RH,hvH,hr2H⟩:=hq2 hb2 (hq2 hA2 (hq2 hk2 (hqb hkw hq1 R hv (Lib.hid hr2))));clear hb2 hA2 hk2 hkw hq1 R hv hr2;go_wp2_with fail;refine(eqB_any A1 A2 m1 c1 m2 c2 b1 b2 _ hq1H.out.1.1 hb2H.out.1.1).mono ?_;rintro e w3 ⟨rfl,rfl⟩;rw[hvH.out]
   cases v
   ·go_wp2_with fail;exact RH.out
   ·go_wp2_with fail;exact RH.out
  ·rw[if_pos (by decide)]at hr;have R:=hZ'H.out (.returned (.int .i64 2)) w2 (by
    rw[← hr];exact⟨T,cl2,rfl,hA2,(by show (0:Int)≤2∧(2:Int)≤999999;omega),by show s.total-100000≤s2.total;omega,by show s2.total≤_;omega,by show s2.nw≤_;omega,by omega,hkw⟩)
   clear hr hrH;obtain⟨hb2H,hA2H,hk2H,hkwH,RH,hr2H⟩:=hq2 hb2 (hqb hA2 hk2 hkw R (Lib.hid hr2));clear hb2 hA2 hk2 hkw R hr2;go_wp2_with fail;exact RH.out
 ·rw[if_pos (by decide)]at hr;have R:=hZ'H.out (.returned (.int .i64 2)) w1 (by
   rw[← hr];exact⟨T,cl1,rfl,hA1,(by show (0:Int)≤2∧(2:Int)≤999999;omega),by show s.total-100000≤s1.total;omega,by show s1.total≤_;omega,by show s1.nw≤_;omega,by omega,hk1⟩)
  clear hr hrH;obtain⟨hb1H,hA1H,hk1H,RH,hr1H⟩:=hqb hb1 hA1 hk1 R (Lib.hid hr1);clear hb1 hA1 hk1 R hr1;go_wp2_with fail;exact RH.out
end Go.Proofs.YtdiaabeollcjaaaGreatDoor.C10