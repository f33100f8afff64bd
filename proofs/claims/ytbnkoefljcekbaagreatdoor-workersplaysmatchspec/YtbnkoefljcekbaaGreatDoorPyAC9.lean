/-
 Several texts of mine as one, without what is not wanted here: XTypesF, XWord, XWordP, XIn, XPairs, XWorksD, XMoment.
-/
import Derived.Test.YtbnkoefljcekbaaGreatDoorPyGf
import Derived.Test.YtbnkoefljcekbaaGreatDoorPyShelf
import Derived.Shelf.Strings.SlTrimAscii
import Derived.Deep.QuietTactic
import Derived.BigQuiet
set_option linter.unusedVariables false
set_option linter.unusedSimpArgs false
set_option maxRecDepth 100000
set_option maxHeartbeats 8000000
namespace Go.Proofs.YtbnkoefljcekbaaGreatDoor.C9
open Go.ChangeShapes Go.WideShapes Go.Deep Go.RowKit
/-! ### api.Loss -/
structure Loss where
 worker:ByteArray
 at_:Int
deriving DecidableEq
instance:Inhabited Loss:=⟨⟨ByteArray.empty,0⟩⟩
def RLoss:Rd Loss :=
 ⟨2,fun x=>[.string x.worker,.int .i64 x.at_],
  fun w x=>RStr.ok w x.worker∧RInt.ok w x.at_,
  fun x=>RStr.bulk x.worker+RInt.bulk x.at_,fun _=>rfl,fun _ u h=>by simp only[List.mem_cons,List.not_mem_nil,or_false]at h;rcases h with rfl | rfl <;> rfl,
  fun _ _ _ hb h=>⟨RStr.mono _ _ _ hb (h.1),RInt.mono _ _ _ hb (h.2)⟩⟩
theorem opens_Loss:Opens Tryz.prog 71 RLoss:=by
 refine⟨by kernel_rfl,fun H enc w fuel cs x hx=>?_⟩;obtain⟨xs,n,_,hxe,hlen,hxl,hf⟩:=DataW.trod_struct Tryz.underlying71 hx;rw[show Tryz.prog.cellsOf 71 = 2 by kernel_rfl]at hlen
 match cs,hlen,xs,hxl with
 | [c0,c1],_,[y0,y1],_ =>
  have g0:DataW.trod enc Tryz.prog w 0 (fun _=>true) true n 9 [c0]=some y0:=by
   have this:DataW.trod enc Tryz.prog w 0 (fun _=>true) true n 9 (([c0,c1].drop 0).take (Tryz.prog.cellsOf 9))=some y0:=hf 0 _ rfl
   rwa [show ([c0,c1].drop 0).take (Tryz.prog.cellsOf 9) = [c0] by rw[show Tryz.prog.cellsOf 9 = 1 by kernel_rfl];rfl]at this
  obtain⟨a0,e0,k0,b0⟩:=opens_t_str.2 H enc w n _ _ g0;have g1:DataW.trod enc Tryz.prog w 0 (fun _=>true) true n 3 [c1]=some y1:=by
   have this:DataW.trod enc Tryz.prog w 0 (fun _=>true) true n 3 (([c0,c1].drop 1).take (Tryz.prog.cellsOf 3))=some y1:=hf 1 _ rfl
   rwa [show ([c0,c1].drop 1).take (Tryz.prog.cellsOf 3) = [c1] by rw[show Tryz.prog.cellsOf 3 = 1 by kernel_rfl];rfl]at this
  obtain⟨a1,e1,k1,b1⟩:=opens_t_int.2 H enc w n _ _ g1;refine⟨⟨a0,a1⟩,?_,⟨k0,k1⟩,?_⟩
  ·obtain rfl:c0 = .string a0:=by have:=List.cons.inj e0;exact this.1
   obtain rfl:c1 = .int .i64 a1:=by have:=List.cons.inj e1;exact this.1
   rfl
  ·subst hxe;simp only[RLoss,Rows.uptoBulk,Rows.uptoBulkAll,List.map_cons,List.map_nil];omega
theorem cells_Loss {w:World} {b off m k:Nat} {l:List Loss} {x:Loss} (h:SlAt RLoss w (some ⟨b,off,none⟩) m l) (hx:l[k]? = some x) :
  w.cell? ⟨b,off+k*2,none⟩=some (.string x.worker)∧w.cell? ⟨b,off+k*2+1,none⟩=some (.int .i64 x.at_):=by
 have hk:=(List.getElem?_eq_some_iff.1 hx).1;obtain⟨b',off',hA,hc⟩:=h.2.1 (by have:=h.1;omega);obtain⟨rfl,rfl⟩:b=b'∧off=off':=by simpa using hA
 exact⟨hc k x hx 0 _ rfl,hc k x hx 1 _ rfl⟩
theorem opens_t_sl_Loss:Opens Tryz.prog 24 (RSl RLoss):=opens_slice Tryz.underlying24 (by kernel_rfl) (by decide) opens_Loss
/-! ### api.Farm -/
structure Farm where
 workers:SlD Worker
 works:SlD Work
 lost:SlD Loss
 tries:Int
 doubles:Bool
instance:Inhabited Farm:=⟨⟨⟨none,0,0,[]⟩,⟨none,0,0,[]⟩,⟨none,0,0,[]⟩,0,false⟩⟩
def RFarm:Rd Farm :=
 ⟨5,fun x=>[.slice x.workers.A x.workers.n x.workers.cap,.slice x.works.A x.works.n x.works.cap,.slice x.lost.A x.lost.n x.lost.cap,.int .i64 x.tries,.bool x.doubles],
  fun w x=>(RSl RWorker).ok w x.workers∧(RSl RWork).ok w x.works∧(RSl RLoss).ok w x.lost∧RInt.ok w x.tries∧RBool.ok w x.doubles,
  fun x=>(RSl RWorker).bulk x.workers+(RSl RWork).bulk x.works+(RSl RLoss).bulk x.lost+RInt.bulk x.tries+RBool.bulk x.doubles,fun _=>rfl,fun _ u h=>by simp only[List.mem_cons,List.not_mem_nil,or_false]at h;rcases h with rfl | rfl | rfl | rfl | rfl <;> rfl,
  fun _ _ _ hb h=>⟨(RSl RWorker).mono _ _ _ hb (h.1),(RSl RWork).mono _ _ _ hb (h.2.1),(RSl RLoss).mono _ _ _ hb (h.2.2.1),RInt.mono _ _ _ hb (h.2.2.2.1),RBool.mono _ _ _ hb (h.2.2.2.2)⟩⟩
theorem opens_Farm:Opens Tryz.prog 26 RFarm:=by
 refine⟨by kernel_rfl,fun H enc w fuel cs x hx=>?_⟩;obtain⟨xs,n,_,hxe,hlen,hxl,hf⟩:=DataW.trod_struct Tryz.underlying26 hx;rw[show Tryz.prog.cellsOf 26 = 5 by kernel_rfl]at hlen
 match cs,hlen,xs,hxl with
 | [c0,c1,c2,c3,c4],_,[y0,y1,y2,y3,y4],_ =>
  have g0:DataW.trod enc Tryz.prog w 0 (fun _=>true) true n 22 [c0]=some y0:=by
   have this:DataW.trod enc Tryz.prog w 0 (fun _=>true) true n 22 (([c0,c1,c2,c3,c4].drop 0).take (Tryz.prog.cellsOf 22))=some y0:=hf 0 _ rfl
   rwa [show ([c0,c1,c2,c3,c4].drop 0).take (Tryz.prog.cellsOf 22) = [c0] by rw[show Tryz.prog.cellsOf 22 = 1 by kernel_rfl];rfl]at this
  obtain⟨a0,e0,k0,b0⟩:=opens_t_sl_Worker.2 H enc w n _ _ g0;have g1:DataW.trod enc Tryz.prog w 0 (fun _=>true) true n 23 [c1]=some y1:=by
   have this:DataW.trod enc Tryz.prog w 0 (fun _=>true) true n 23 (([c0,c1,c2,c3,c4].drop 1).take (Tryz.prog.cellsOf 23))=some y1:=hf 1 _ rfl
   rwa [show ([c0,c1,c2,c3,c4].drop 1).take (Tryz.prog.cellsOf 23) = [c1] by rw[show Tryz.prog.cellsOf 23 = 1 by kernel_rfl];rfl]at this
  obtain⟨a1,e1,k1,b1⟩:=opens_t_sl_Work.2 H enc w n _ _ g1;have g2:DataW.trod enc Tryz.prog w 0 (fun _=>true) true n 24 [c2]=some y2:=by
   have this:DataW.trod enc Tryz.prog w 0 (fun _=>true) true n 24 (([c0,c1,c2,c3,c4].drop 2).take (Tryz.prog.cellsOf 24))=some y2:=hf 2 _ rfl
   rwa [show ([c0,c1,c2,c3,c4].drop 2).take (Tryz.prog.cellsOf 24) = [c2] by rw[show Tryz.prog.cellsOf 24 = 1 by kernel_rfl];rfl]at this
  obtain⟨a2,e2,k2,b2⟩:=opens_t_sl_Loss.2 H enc w n _ _ g2;have g3:DataW.trod enc Tryz.prog w 0 (fun _=>true) true n 3 [c3]=some y3:=by
   have this:DataW.trod enc Tryz.prog w 0 (fun _=>true) true n 3 (([c0,c1,c2,c3,c4].drop 3).take (Tryz.prog.cellsOf 3))=some y3:=hf 3 _ rfl
   rwa [show ([c0,c1,c2,c3,c4].drop 3).take (Tryz.prog.cellsOf 3) = [c3] by rw[show Tryz.prog.cellsOf 3 = 1 by kernel_rfl];rfl]at this
  obtain⟨a3,e3,k3,b3⟩:=opens_t_int.2 H enc w n _ _ g3;have g4:DataW.trod enc Tryz.prog w 0 (fun _=>true) true n 4 [c4]=some y4:=by
   have this:DataW.trod enc Tryz.prog w 0 (fun _=>true) true n 4 (([c0,c1,c2,c3,c4].drop 4).take (Tryz.prog.cellsOf 4))=some y4:=hf 4 _ rfl
   rwa [show ([c0,c1,c2,c3,c4].drop 4).take (Tryz.prog.cellsOf 4) = [c4] by rw[show Tryz.prog.cellsOf 4 = 1 by kernel_rfl];rfl]at this
  obtain⟨a4,e4,k4,b4⟩:=opens_t_bool.2 H enc w n _ _ g4;refine⟨⟨a0,a1,a2,a3,a4⟩,?_,⟨k0,k1,k2,k3,k4⟩,?_⟩
  ·obtain rfl:c0 = .slice a0.A a0.n a0.cap:=by have:=List.cons.inj e0;exact this.1
   obtain rfl:c1 = .slice a1.A a1.n a1.cap:=by have:=List.cons.inj e1;exact this.1
   obtain rfl:c2 = .slice a2.A a2.n a2.cap:=by have:=List.cons.inj e2;exact this.1
   obtain rfl:c3 = .int .i64 a3:=by have:=List.cons.inj e3;exact this.1
   obtain rfl:c4 = .bool a4:=by have:=List.cons.inj e4;exact this.1
   rfl
  ·subst hxe;simp only[RFarm,Rows.uptoBulk,Rows.uptoBulkAll,List.map_cons,List.map_nil];omega
/-! ### api.Outcome -/
structure Outcome where
 id_:ByteArray
 state:Int
 at_:Int
 tries:Int
deriving DecidableEq
instance:Inhabited Outcome:=⟨⟨ByteArray.empty,0,0,0⟩⟩
/-! ### workers.run -/
structure GRun where
 work:Int
 worker:Int
 from_:Int
 end_:Int
deriving DecidableEq
instance:Inhabited GRun:=⟨⟨0,0,0,0⟩⟩
def RGRun:Rd GRun :=
 ⟨4,fun x=>[.int .i64 x.work,.int .i64 x.worker,.int .i64 x.from_,.int .i64 x.end_],
  fun w x=>RInt.ok w x.work∧RInt.ok w x.worker∧RInt.ok w x.from_∧RInt.ok w x.end_,
  fun x=>RInt.bulk x.work+RInt.bulk x.worker+RInt.bulk x.from_+RInt.bulk x.end_,fun _=>rfl,fun _ u h=>by simp only[List.mem_cons,List.not_mem_nil,or_false]at h;rcases h with rfl | rfl | rfl | rfl <;> rfl,
  fun _ _ _ hb h=>⟨RInt.mono _ _ _ hb (h.1),RInt.mono _ _ _ hb (h.2.1),RInt.mono _ _ _ hb (h.2.2.1),RInt.mono _ _ _ hb (h.2.2.2)⟩⟩
theorem cells_GRun {w:World} {b off m k:Nat} {l:List GRun} {x:GRun} (h:SlAt RGRun w (some ⟨b,off,none⟩) m l) (hx:l[k]? = some x) :
  w.cell? ⟨b,off+k*4,none⟩=some (.int .i64 x.work)∧w.cell? ⟨b,off+k*4+1,none⟩=some (.int .i64 x.worker)∧w.cell? ⟨b,off+k*4+2,none⟩=some (.int .i64 x.from_)∧w.cell? ⟨b,off+k*4+3,none⟩=some (.int .i64 x.end_):=by
 have hk:=(List.getElem?_eq_some_iff.1 hx).1;obtain⟨b',off',hA,hc⟩:=h.2.1 (by have:=h.1;omega);obtain⟨rfl,rfl⟩:b=b'∧off=off':=by simpa using hA
 exact⟨hc k x hx 0 _ rfl,hc k x hx 1 _ rfl,hc k x hx 2 _ rfl,hc k x hx 3 _ rfl⟩
end Go.Proofs.YtbnkoefljcekbaaGreatDoor.C9
namespace Go.Proofs.YtbnkoefljcekbaaGreatDoor.C9
open Go.RowKit
def wch (b:UInt8):Bool:=decide ((97≤b.toNat∧b.toNat≤122)∨(48≤b.toNat∧b.toNat≤57)∨b.toNat=45∨b.toNat=95)
def wordL:List UInt8→Bool
 | []=>false
 | c::r=>decide (97≤c.toNat∧c.toNat≤122)&&decide (r.length<40)&&(c::r).all wch
def wordB (s:ByteArray):Bool:=wordL s.data.toList
theorem str_get {s:ByteArray} {k:Nat} (h:k<s.size):s.data.toList[k]? = some s[k]:=by
 rw[List.getElem?_eq_getElem (by simpa using h)];rfl
theorem all_step {p:UInt8→Bool} {s:ByteArray} {k:Nat} {b:Bool} (h:k<s.size) (hb:b=(s.data.toList.drop k).all p):b=(p s[k]&&(s.data.toList.drop (k+1)).all p):=by
 rw[hb,List.drop_eq_getElem_cons (by simpa using h),List.all_cons];rfl
def WordRel (s:ByteArray) (b:Bool) (i:Value):Prop:=∃ k:Nat,k≤s.size∧i = .int .i64 k∧b=(s.data.toList.drop k).all wch
theorem ret_bool {a b:Bool} (h:a=b):Ending.returned (.bool a) = .returned (.bool b):=by rw[h]
theorem rword_ok (s:ByteArray) (b:Bool) (w:World) (h0:1≤s.size) (h1:s.size≤40) (c:UInt8) (hc:s.data.toList[0]? = some c) (hc0:97≤c.toNat) (hc1:c.toNat≤122) (hb:b=s.data.toList.all wch) :
  Calls Tryz.prog 108 #[.string s] w fun e w'=>e = .returned (.bool b)∧w=w':=by
 have hg:s[0]=c:=by have:=str_get (s:=s) (k:=0) (by omega);rw[hc]at this;exact(Option.some.inj this).symm
 have hg0:97≤(s[0]'(by omega)).toNat:=by rw[hg];exact hc0
 have hg1:(s[0]'(by omega)).toNat≤122:=by rw[hg];exact hc1
 obtain⟨hcH,hbH,hgH⟩:=hq2 hc (hq2 hb (Lib.hid hg));clear hc hb hg;go_enter Tryz.func108,Tryz.ntmps108;go_wp2
 go_loop [21] (fun i=>WordRel s b i) (fun i=>s.size-(intOf i).toNat)
 case atStart=>exact⟨0,Nat.zero_le _,rfl,hbH.out⟩
 case round =>
  obtain⟨k,hk,rfl,hr⟩:=hrel;have hrH:=Lib.hid hr;clear hr
  by_cases hlt:k<s.size
  ·have hs:=all_step hlt hrH.out;have R0:wch s[k]=true→WordRel s b (.int .i64 (k+1)):=fun h=>⟨k+1,by omega,by go_num,by rw[hs,h,Bool.true_and]⟩;have F0:wch s[k]=false→b=false:=fun h=>by rw[hs,h,Bool.false_and]
   have hkk:s[k].toNat<256:=s[k].toNat_lt;obtain⟨R0H,F0H,hsH⟩:=hq2 R0 (hq2 F0 (Lib.hid hs));clear R0 F0 hs
   by_cases e45:s[k].toNat=45
   ·have R:=R0H.out (by unfold wch;rw[e45];decide);have RH:=Lib.hid R;clear R;go_wp2;refine⟨?rel,?measure⟩
    case measure=>(simp[intOf];omega)
    case rel=>first | exact RH.out | exact⟨rfl,RH.out⟩
   ·by_cases e95:s[k].toNat=95
    ·have R:=R0H.out (by unfold wch;rw[e95];decide);have RH:=Lib.hid R;clear R;go_wp2;refine⟨?rel,?measure⟩
     case measure=>(simp[intOf];omega)
     case rel=>first | exact RH.out | exact⟨rfl,RH.out⟩
    ·have n45:((s[k].toNat:Int) != 45)=true:=by simp;omega
     have n95:((s[k].toNat:Int) != 95)=true:=by simp;omega
     go_wp2
     all_goals first
      | (go_ret;have hf:=F0H.out (decide_eq_false (by omega));exact⟨ret_bool hf.symm,rfl⟩)
      | (have R:=R0H.out (decide_eq_true (by omega));refine⟨?rel,?measure⟩;(case measure=>(simp[intOf];omega));(case rel=>exact R))
  ·have e:s.data.toList.drop k = []:=List.drop_eq_nil_of_le (by simp;omega);go_wp2;go_ret;refine⟨?_,rfl⟩;have:=hrH.out;rw[e]at this;exact ret_bool this.symm
theorem word_of {s:ByteArray} (h:1≤s.size):wordB s=(decide (97≤(s[0]'(by omega)).toNat∧(s[0]'(by omega)).toNat≤122)&&decide (s.size≤40)&&s.data.toList.all wch):=by
 unfold wordB;have h0:=str_get (s:=s) (k:=0) (by omega);have hl:s.data.toList.length=s.size:=by simp
 cases hd:s.data.toList with
 | nil=>rw[hd]at hl;simp at hl;omega
 | cons c r =>
  rw[hd]at h0 hl;simp only[List.getElem?_cons_zero,Option.some.injEq]at h0;simp only[List.length_cons]at hl;have e:decide (r.length<40)=decide (s.size≤40):=decide_eq_decide.2 (by omega);rw[← h0];show (decide (97≤c.toNat∧c.toNat≤122)&&decide (r.length<40)&&(c::r).all wch)=_;rw[e]
theorem word_empty {s:ByteArray} (h:¬ 1≤s.size):wordB s=false:=by
 unfold wordB;have hl:s.data.toList.length=s.size:=by simp
 cases hd:s.data.toList with
 | nil=>rfl
 | cons c r=>rw[hd]at hl;simp only[List.length_cons]at hl;omega
theorem rword_any (s:ByteArray) (b:Bool) (w:World) (hs:s.size≤maxLen) (hb:wordB s=b) :
  Calls Tryz.prog 108 #[.string s] w fun e w'=>e = .returned (.bool b)∧w=w':=by
 unfold maxLen at hs
 by_cases h0:1≤s.size
 ·by_cases h1:s.size≤40
  ·rw[word_of h0,decide_eq_true h1,Bool.and_true]at hb
   by_cases c0:97≤(s[0]'(by omega)).toNat
   ·by_cases c1:(s[0]'(by omega)).toNat≤122
    ·rw[decide_eq_true ⟨c0,c1⟩,Bool.true_and]at hb;exact rword_ok s b w h0 h1 _ (str_get (by omega)) c0 c1 hb.symm
    ·rw[decide_eq_false (fun h=>c1 h.2),Bool.false_and]at hb;subst hb;go_enter Tryz.func108,Tryz.ntmps108;go_wp2;go_ret;exact⟨rfl,rfl⟩
   ·rw[decide_eq_false (fun h=>c0 h.1),Bool.false_and]at hb;subst hb;go_enter Tryz.func108,Tryz.ntmps108;go_wp2;go_ret;exact⟨rfl,rfl⟩
  ·rw[word_of h0,decide_eq_false h1,Bool.and_false,Bool.false_and]at hb;subst hb;go_enter Tryz.func108,Tryz.ntmps108;go_wp2;go_ret;exact⟨rfl,rfl⟩
 ·rw[word_empty h0]at hb;subst hb;go_enter Tryz.func108,Tryz.ntmps108;go_wp2;go_ret;exact⟨rfl,rfl⟩
end Go.Proofs.YtbnkoefljcekbaaGreatDoor.C9
namespace Go.Proofs.YtbnkoefljcekbaaGreatDoor.C9
open Go.RowKit Go.Shelf
def wcut:List UInt8:=[97,98,99,100,101,102,103,104,105,106,107,108,109,110,111,112,113,114,115,116,117,118,119,120,121,122,48,49,50,51,52,53,54,55,56,57,95,45]
theorem wcut_wch (b:UInt8):wcut.contains b=wch b:=by
 have:=byte_all (p:=fun b=>wcut.contains b==wch b) (by decide +kernel) b
 simpa using this
theorem wcut_all (l:List UInt8):l.all (wcut.contains ·)=l.all wch:=by
 congr 1
 funext b
 exact wcut_wch b
theorem trim_word (s:ByteArray) (w:World) (hs:s.size≤9223372036854775807) :
  Calls Tryz.prog 99 #[.string s,.string ⟨#[97,98,99,100,101,102,103,104,105,106,107,108,109,110,111,112,113,114,115,116,117,118,119,120,121,122,48,49,50,51,52,53,54,55,56,57,95,45]⟩] w fun e w' =>
   e = .returned (.string ⟨(Lib.trimS s.data.toList wcut).toArray⟩)∧Below w.heap.size w w' :=
 Any.strings_Trim_laid Tryz.lays160 (by kernel_rfl) s ⟨#[97,98,99,100,101,102,103,104,105,106,107,108,109,110,111,112,113,114,115,116,117,118,119,120,121,122,48,49,50,51,52,53,54,55,56,57,95,45]⟩ w hs (by decide) (ascii_of_all (by decide))
theorem trim_nil {s:ByteArray} {cs:List UInt8} (h:s.data.toList.all (cs.contains ·)=true):(⟨(Lib.trimS s.data.toList cs).toArray⟩:ByteArray)=⟨#[]⟩:=by
 rw[(trimS_nil _ _).2 h]
theorem trim_some {s:ByteArray} {cs:List UInt8} (h:s.data.toList.all (cs.contains ·)=false):∃ c r,(⟨(Lib.trimS s.data.toList cs).toArray⟩:ByteArray)=⟨(c::r).toArray⟩:=by
 cases hd:Lib.trimS s.data.toList cs with
 | nil=>rw[trimS_nil]at hd;rw[hd]at h;cases h
 | cons c r=>exact⟨c,r,rfl⟩
theorem word_any (s:ByteArray) (b:Bool) (w:World) (hs:s.size≤maxLen) (hb:wordB s=b) :
  Calls Tryz.prog 58 #[.string s] w fun e w'=>e = .returned (.bool b)∧Below w.heap.size w w':=by
 unfold maxLen at hs
 by_cases h0:1≤s.size
 ·by_cases h1:s.size≤40
  ·rw[word_of h0,decide_eq_true h1,Bool.and_true]at hb
   by_cases c0:97≤(s[0]'(by omega)).toNat
   ·by_cases c1:(s[0]'(by omega)).toNat≤122
    ·rw[decide_eq_true ⟨c0,c1⟩,Bool.true_and,← wcut_all]at hb
     cases b
     ·obtain⟨c,r,hcr⟩:=trim_some hb;obtain⟨hbH,hcrH⟩:=hq2 hb (Lib.hid hcr);clear hb hcr;go_enter Tryz.func58,Tryz.ntmps58;go_wp2_with fail;refine(trim_word s _ hs).mono ?_;rw[hcrH.out];rintro e w1 ⟨rfl,hb1⟩;have hb1H:=Lib.hid hb1;clear hb1;go_wp2;go_ret;exact⟨rfl,hb1H.out⟩
     ·have hcr:=trim_nil hb;obtain⟨hbH,hcrH⟩:=hq2 hb (Lib.hid hcr);clear hb hcr;go_enter Tryz.func58,Tryz.ntmps58;go_wp2_with fail;refine(trim_word s _ hs).mono ?_;rw[hcrH.out];rintro e w1 ⟨rfl,hb1⟩;have hb1H:=Lib.hid hb1;clear hb1;go_wp2;go_ret;exact⟨rfl,hb1H.out⟩
    ·rw[decide_eq_false (fun h=>c1 h.2),Bool.false_and]at hb;subst hb;go_enter Tryz.func58,Tryz.ntmps58;go_wp2;go_ret;exact⟨rfl,Below.refl _ _⟩
   ·rw[decide_eq_false (fun h=>c0 h.1),Bool.false_and]at hb;subst hb;go_enter Tryz.func58,Tryz.ntmps58;go_wp2;go_ret;exact⟨rfl,Below.refl _ _⟩
  ·rw[word_of h0,decide_eq_false h1,Bool.and_false,Bool.false_and]at hb;subst hb;go_enter Tryz.func58,Tryz.ntmps58;go_wp2;go_ret;exact⟨rfl,Below.refl _ _⟩
 ·rw[word_empty h0]at hb;subst hb;go_enter Tryz.func58,Tryz.ntmps58;go_wp2;go_ret;exact⟨rfl,Below.refl _ _⟩
end Go.Proofs.YtbnkoefljcekbaaGreatDoor.C9
namespace Go.Proofs.YtbnkoefljcekbaaGreatDoor.C9
open Go.RowKit
theorem bel_drewN {B:Nat} {a w:World} (h:Below B a w) (n:Nat):Below B a (w.drewN n):=h.trans ⟨rfl,rfl,rfl,Nat.le_refl _,fun _ _=>rfl⟩
def inR (lo hi n:Int):Bool:=decide (lo≤n)&&decide (n≤hi)
theorem inR_true {lo hi n:Int} (h:inR lo hi n=true):lo≤n∧n≤hi:=by simpa[inR]using h
theorem within_p (n lo hi:Int) (w:World) :
  Calls Tryz.prog 43 #[.int .i64 n,.int .i64 lo,.int .i64 hi] w fun e w'=>e = .returned (.bool (inR lo hi n))∧w'=w:=by
 unfold inR
 by_cases h1:lo≤n
 ·by_cases h2:n≤hi
  ·go_enter Tryz.func43,Tryz.ntmps43;go_wp2;go_ret
   first | (simp;done) | (simp;omega) | (exact⟨by simp;omega,rfl⟩)
  ·go_enter Tryz.func43,Tryz.ntmps43;go_wp2;go_ret
   first | (simp;done) | (simp;omega) | (exact⟨by simp;omega,rfl⟩)
 ·go_enter Tryz.func43,Tryz.ntmps43;go_wp2;go_ret
  first | (simp;done) | (simp;omega) | (exact⟨by simp;omega,rfl⟩)
theorem within_r (n lo hi:Int) (w:World) :
  Calls Tryz.prog 47 #[.int .i64 n,.int .i64 lo,.int .i64 hi] w fun e w'=>e = .returned (.bool (inR lo hi n))∧w'=w:=by
 unfold inR
 by_cases h1:lo≤n
 ·by_cases h2:n≤hi
  ·go_enter Tryz.func47,Tryz.ntmps47;go_wp2;go_ret
   first | (simp;done) | (simp;omega) | (exact⟨by simp;omega,rfl⟩)
  ·go_enter Tryz.func47,Tryz.ntmps47;go_wp2;go_ret
   first | (simp;done) | (simp;omega) | (exact⟨by simp;omega,rfl⟩)
 ·go_enter Tryz.func47,Tryz.ntmps47;go_wp2;go_ret
  first | (simp;done) | (simp;omega) | (exact⟨by simp;omega,rfl⟩)
def pairsErr:Option ByteArray→List Pair→Int
 | _,[]=>0
 | pr,p::r=>if wordB p.name=true then (if wordB p.value=true then (if (pr.map (sle p.name ·))=some true then 8 else pairsErr (some p.name) r) else 1) else 5
def prevName (l:List Pair) (k:Nat):Option ByteArray:=if k=0 then none else (l[k-1]?).map (·.name)
def pairsF (l:List Pair):Int:=if l.length≤30 then pairsErr none l else 2
def PairsRel (l:List Pair) (c:Int) (w0:World) (i:Value) (wr:World):Prop :=
 ∃ k:Nat,k≤l.length∧i = .int .i64 k∧pairsErr (prevName l k) (l.drop k)=c∧Below w0.heap.size w0 wr
theorem pairs_ok (A:Option Addr) (len cap:Nat) (l:List Pair) (w:World) (hlen:len≤30) (hl:SlAt RPair w A len l) (c:Int) (hF:pairsErr none l=c) :
  Calls Tryz.prog 135 #[.slice A len cap] w fun e w'=>e = .returned (.int .i64 c)∧Below w.heap.size w w':=by
 have hll:=hl.1;obtain⟨hllH,hFH,hlH⟩:=hq2 hll (hq2 hF (Lib.hid hl));clear hll hF hl;go_enter Tryz.func135,Tryz.ntmps135;go_wp2
 go_loopw [10] (fun i wr=>PairsRel l c w i wr) (fun i _=>len-(intOf i).toNat)
 case atStart=>exact⟨0,Nat.zero_le _,rfl,hFH.out,Below.refl _ _⟩
 case round =>
  obtain⟨k,hk,rfl,hck,hb⟩:=hrel;have hkl:k≤len:=by have:=hllH.out;omega
  have hbs:=hb.size
  by_cases hlt:k<len
  ·obtain⟨b,off,hA,_⟩:=hlH.out.2.1 (by omega);subst hA;obtain⟨x,hx⟩:∃ x,l[k]? = some x:=⟨l[k]'(by have:=hllH.out;omega),List.getElem?_eq_getElem _⟩;obtain⟨c0,c1⟩:=cells_Pair (hlH.out.below hb) hx;have hok:=hlH.out.2.2 x (List.mem_of_getElem? hx);rw[drop_cons hx]at hck;obtain⟨nm,vl⟩:=x;simp only at c0 c1;obtain⟨b1,hb1⟩:∃ b,wordB nm=b:=⟨_,rfl⟩;obtain⟨b2,hb2⟩:∃ b,wordB vl=b:=⟨_,rfl⟩;have hba:=hb.alloc hbs (.cells #[.string nm,.string vl] 120);have hbas:=hba.size;obtain⟨hxH,hckH,hbH,hbaH,hokH,hb1H,hb2H⟩:=hq2 hx (hq2 hck (hqb hb hba hok hb1 (Lib.hid hb2)));clear hx hck hb hba hok hb1 hb2;go_wp2_with fail;refine(word_any nm b1 _ hokH.out.1 hb1H.out).mono ?_;rintro e w1 ⟨rfl,hw1⟩;have q0:w1.cell? ⟨wr.heap.size,0,none⟩=some (.string nm):=(hw1.cell (by simp)).trans (cell_new _ _ _ 0);have q1:w1.cell? ⟨wr.heap.size,1,none⟩=some (.string vl):=(hw1.cell (by simp)).trans (cell_new _ _ _ 1);have hbw1:=hbaH.out.trans (hw1.mono hbas);have hz1:wr.heap.size<w1.heap.size:=by have:=hw1.size;simp at this;omega
   obtain⟨hw1H,hbw1H⟩:=hq2 hw1 (Lib.hid hbw1);clear hw1 hbw1
   cases b1
   ·go_wp2;go_ret;refine⟨?_,hbw1H.out⟩;have:=hckH.out;rw[pairsErr,if_neg (by rw[hb1H.out];decide)]at this;exact ret1_int this
   ·go_wp2_with fail;refine(word_any vl b2 _ hokH.out.2 hb2H.out).mono ?_;rintro e w2 ⟨rfl,hw2⟩;have p0:w2.cell? ⟨wr.heap.size,0,none⟩=some (.string nm):=(hw2.cell (by omega)).trans q0;have hbw2:=hbw1H.out.trans (hw2.mono hbw1H.out.size);clear q0 q1
    cases b2
    ·obtain⟨hw2H,hbw2H⟩:=hq2 hw2 (Lib.hid hbw2);clear hw2 hbw2;go_wp2;go_ret;refine⟨?_,hbw2H.out⟩;have:=hckH.out;rw[pairsErr,if_pos hb1H.out,if_neg (by rw[hb2H.out];decide)]at this;exact ret1_int this
    ·by_cases hk0:k=0
     ·subst hk0;have R:∀ nq,PairsRel l c w (.int .i64 1) (w2.drewN nq):=by
       refine fun nq=>⟨1,by have:=hllH.out;omega,by go_num,?_,bel_drewN hbw2 nq⟩;have:=hckH.out;rw[pairsErr,if_pos hb1H.out,if_pos hb2H.out,prevName,if_pos rfl,Option.map_none,if_neg (by decide)]at this;rw[prevName,if_neg (by decide),show l[1-1]? = l[0]? from rfl,hxH.out];exact this
      obtain⟨hw2H,hbw2H,RH⟩:=hq2 hw2 (hq2 hbw2 (Lib.hid R));clear hw2 hbw2 R;go_wp2_with fail
      go_quiet (fail)
      go_wp2;refine⟨?rel,?measure⟩
      case measure=>(simp[intOf];omega)
      case rel=>first | exact(RH.out _) | exact⟨rfl,(RH.out _)⟩
     ·obtain⟨j,rfl⟩:∃ j,k=j+1:=⟨k-1,by omega⟩;obtain⟨y,hy⟩:∃ y,l[j]? = some y:=⟨l[j]'(by have:=hllH.out;omega),List.getElem?_eq_getElem _⟩;obtain⟨d0,_⟩:=cells_Pair (hlH.out.below hbw2) hy;obtain⟨yn,yv⟩:=y;simp only at d0;have hpr:prevName l (j+1)=some yn:=by rw[prevName,if_neg (by omega),show j+1-1=j from rfl,hy];rfl
      have hck:=hckH.out;rw[hpr,pairsErr,if_pos hb1H.out,if_pos hb2H.out,Option.map_some]at hck
      cases hle:sle nm yn
      ·have hle':(Op.bytesLess nm.toList yn.toList||nm.toList==yn.toList)=false:=hle;rw[hle,if_neg (by decide)]at hck;have R:∀ nq,PairsRel l c w (.int .i64 (j+1+1)) (w2.drewN nq):=by
        refine fun nq=>⟨j+1+1,by have:=hllH.out;omega,by go_num,?_,bel_drewN hbw2 nq⟩;rw[prevName,if_neg (by omega),show j+1+1-1=j+1 from rfl,hxH.out];exact hck
       obtain⟨hw2H,hbw2H,hleH,hckH,hprH,hyH,RH⟩:=hq2 hw2 (hq2 hbw2 (hqb hle hck hpr hy (Lib.hid R)));clear hw2 hbw2 hle hck hpr hy R;go_wp2_with fail
       go_quiet (fail)
       go_wp2;refine⟨?rel,?measure⟩
       case measure=>(simp[intOf];omega)
       case rel=>first | exact(RH.out _) | exact⟨rfl,(RH.out _)⟩
      ·have hle':(Op.bytesLess nm.toList yn.toList||nm.toList==yn.toList)=true:=hle;rw[hle,if_pos rfl]at hck;obtain⟨hw2H,hbw2H,hleH,hckH,hprH,hyH⟩:=hq2 hw2 (hqb hbw2 hle hck hpr (Lib.hid hy));clear hw2 hbw2 hle hck hpr hy;go_wp2_with fail
       go_quiet (fail)
       go_wp2;go_ret;exact⟨ret1_int hckH.out,bel_drewN hbw2H.out _⟩
  ·have e:l.drop k = []:=List.drop_eq_nil_of_le (by have:=hllH.out;omega);rw[e]at hck;have hc0:0=c:=by rw[← hck];unfold pairsErr;rfl
   obtain⟨hckH,hbH,eH,hc0H⟩:=hq2 hck (hq2 hb (hq2 e (Lib.hid hc0)));clear hck hb e hc0;go_wp2;go_ret;exact⟨ret1_int hc0H.out,hbH.out⟩
theorem pairs_any (A:Option Addr) (len cap:Nat) (l:List Pair) (w:World) (hl:SlAt RPair w A len l) (c:Int) (hF:pairsF l=c) :
  Calls Tryz.prog 135 #[.slice A len cap] w fun e w'=>e = .returned (.int .i64 c)∧Below w.heap.size w w':=by
 unfold pairsF at hF;rw[hl.1]at hF
 by_cases h:len≤30
 ·rw[if_pos h]at hF;exact pairs_ok A len cap l w h hl c hF
 ·rw[if_neg h]at hF;subst hF;clear hl;go_enter Tryz.func135,Tryz.ntmps135;go_wp2;go_ret;exact⟨rfl,Below.refl _ _⟩
def afterErr:Option ByteArray→List ByteArray→Int
 | _,[]=>0
 | p,s::r=>if wordB s=true then (if p.map (sle s ·)=some true then 8 else afterErr (some s) r) else 5
def prevS (l:List ByteArray) (k:Nat):Option ByteArray:=if k=0 then none else l[k-1]?
def workF (x:Work):Int:=if wordB x.id_=true then (if pairsF x.needs.l=0 then (if inR 1 1000000 x.size=true then afterErr none x.after.l else 1) else pairsF x.needs.l) else 5
def worksErr:Option ByteArray→List Work→Int
 | _,[]=>0
 | p,x::r=>if workF x=0 then (if p.map (sle x.id_ ·)=some true then 8 else worksErr (some x.id_) r) else workF x
def prevId (l:List Work) (k:Nat):Option ByteArray:=if k=0 then none else (l[k-1]?).map (·.id_)
def hasId (l:List Work) (s:ByteArray):Bool:=l.any (fun x=>decide (x.id_=s))
def ixOf (l:List Work) (s:ByteArray):Nat:=l.findIdx (fun x=>decide (x.id_=s))
def gOf (l:List Work) (i:Nat):List Nat:=match l[i]? with | some x=>x.after.l.map (ixOf l) | none=>[]
def allThere (l:List Work) (k:Nat):Bool:=(l.take k).all (fun x=>x.after.l.all (hasId l))
noncomputable def loopB (l:List Work):Bool:=open Classical in decide (Cyc (gOf l) l.length)
noncomputable def worksF (l:List Work):Int:=if l.length≤200 then (if worksErr none l=0 then (if allThere l l.length=true then (if loopB l=true then 17 else 0) else 9) else worksErr none l) else 2
theorem ltS_of_sle {a b:ByteArray} (h:sle b a=false):cmpS a b = -1:=by
 rw[sle_cmp,decide_eq_false_iff_not]at h;have:=cmpS_range b a;rw[cmpS_swap b a];omega
theorem works_rise:∀ (l:List Work) (p:Option ByteArray),worksErr p l=0→(l.Pairwise fun a b=>cmpS a.id_ b.id_ = -1)∧∀ q,p=some q→∀ a∈l,cmpS q a.id_ = -1
 | [],p,_=>⟨List.Pairwise.nil,fun q _ a ha=>by cases ha⟩
 | s::r,p,h=>by
  rw[worksErr]at h
  by_cases hb:workF s=0
  ·rw[if_pos hb]at h
   by_cases hp:p.map (sle s.id_ ·)=some true
   ·rw[if_pos hp]at h;cases h
   ·rw[if_neg hp]at h;obtain⟨h1,h2⟩:=works_rise r _ h;refine⟨List.pairwise_cons.2 ⟨h2 s.id_ rfl,h1⟩,fun q hq a ha=>?_⟩;subst hq;have hs:cmpS q s.id_ = -1:=by
     cases hs:sle s.id_ q
     ·exact ltS_of_sle hs
     ·rw[Option.map_some,hs]at hp;exact absurd rfl hp
    rcases List.mem_cons.1 ha with rfl | ha
    ·exact hs
    ·exact cmpS_trans hs (h2 s.id_ rfl a ha)
  ·rw[if_neg hb]at h;exact absurd h hb
theorem works_each:∀ (l:List Work) (p:Option ByteArray),worksErr p l=0→∀ x∈l,workF x=0
 | [],p,_=>fun x hx=>by cases hx
 | s::r,p,h=>by
  rw[worksErr]at h
  by_cases hb:workF s=0
  ·rw[if_pos hb]at h
   by_cases hp:p.map (sle s.id_ ·)=some true
   ·rw[if_pos hp]at h;cases h
   ·rw[if_neg hp]at h;intro x hx
    rcases List.mem_cons.1 hx with rfl | hx
    ·exact hb
    ·exact works_each r _ h x hx
  ·rw[if_neg hb]at h;exact absurd h hb
theorem ixOf_get {l:List Work} {s:ByteArray} (h:hasId l s=true):∃ x,l[ixOf l s]? = some x∧x.id_=s:=by
 have hlt:ixOf l s<l.length:=by
  rw[hasId,List.any_eq_true]at h;exact List.findIdx_lt_length_of_exists h
 refine⟨l[ixOf l s],List.getElem?_eq_getElem hlt,?_⟩;have:=List.findIdx_getElem (w:=hlt);exact of_decide_eq_true this
theorem ixOf_lt {l:List Work} {s:ByteArray} (h:hasId l s=true):ixOf l s<l.length:=by
 obtain⟨x,hx,_⟩:=ixOf_get h;exact(List.getElem?_eq_some_iff.1 hx).1
theorem ixOf_eq {l:List Work} (hr:l.Pairwise fun a b=>cmpS a.id_ b.id_ = -1) {k:Nat} {x:Work} (hx:l[k]? = some x):ixOf l x.id_=k∧hasId l x.id_=true:=by
 have hin:hasId l x.id_=true:=by
  rw[hasId,List.any_eq_true];exact⟨x,List.mem_of_getElem? hx,decide_eq_true rfl⟩
 refine⟨?_,hin⟩;obtain⟨y,hy,hyx⟩:=ixOf_get hin;obtain⟨h1,e1⟩:=List.getElem?_eq_some_iff.1 hx;obtain⟨h2,e2⟩:=List.getElem?_eq_some_iff.1 hy;have hp:=List.pairwise_iff_getElem.1 hr
 rcases Nat.lt_trichotomy (ixOf l x.id_) k with h | h | h
 ·have:=hp _ _ h2 h1 h;rw[e1,e2,hyx,(cmpS_zero _ _).2 rfl]at this
  cases this
 ·exact h
 ·have:=hp _ _ h1 h2 h;rw[e1,e2,hyx,(cmpS_zero _ _).2 rfl]at this
  cases this
theorem gOf_get {l:List Work} {i:Nat} {x:Work} (hx:l[i]? = some x):gOf l i=x.after.l.map (ixOf l):=by rw[gOf,hx]
theorem allThere_get {l:List Work} (h:allThere l l.length=true) {i:Nat} {x:Work} (hx:l[i]? = some x) {s:ByteArray} (hs:s∈x.after.l):hasId l s=true:=by
 rw[allThere,List.take_length,List.all_eq_true]at h;have:=h x (List.mem_of_getElem? hx);rw[List.all_eq_true]at this;exact this s hs
theorem gOf_lt {l:List Work} (h:allThere l l.length=true):∀ i,i<l.length→∀ k∈gOf l i,k<l.length:=by
 intro i hi k hk;rw[gOf_get (List.getElem?_eq_getElem hi)]at hk;obtain⟨s,hs,rfl⟩:=List.mem_map.1 hk;exact ixOf_lt (allThere_get h (List.getElem?_eq_getElem hi) hs)
theorem allThere_snoc {l:List Work} {k:Nat} {x:Work} (hx:l[k]? = some x):allThere l (k+1)=(allThere l k&&x.after.l.all (hasId l)):=by
 rw[allThere,List.take_add_one,hx];simp[allThere,List.all_append]
theorem allThere_le {l:List Work} {j:Nat} (h:allThere l j=false):∀ k,j≤k→allThere l k=false:=by
 intro k hk;rw[allThere,List.all_eq_false]at h ⊢;obtain⟨x,hx,hb⟩:=h;exact⟨x,(List.take_subset_take_left l hk) hx,hb⟩
theorem moment_p (n:Int) (w:World) :
  Calls Tryz.prog 39 #[.int .i64 n] w fun e w'=>e = .returned (.bool (inR 0 1000000000 n))∧w'=w:=by
 go_enter Tryz.func39,Tryz.ntmps39;go_wp2_with (go_at_call 43;refine(within_p _ _ _ _).mono ?_;rintro e wz ⟨rfl,rfl⟩);go_ret;exact⟨rfl,rfl⟩
end Go.Proofs.YtbnkoefljcekbaaGreatDoor.C9