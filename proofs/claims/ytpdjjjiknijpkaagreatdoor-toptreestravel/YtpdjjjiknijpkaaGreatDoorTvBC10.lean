/-
 Several texts of mine as one, without what is not wanted here: XFiO, XPart, XPath, XFlX, XCkF, XKp.
-/
import Derived.Test.YtpdjjjiknijpkaaGreatDoorTvAC10
import Derived.Test.YtpdjjjiknijpkaaGreatDoorTvGc
set_option linter.unusedVariables false
set_option linter.unusedSimpArgs false
set_option maxRecDepth 100000
set_option maxHeartbeats 8000000
namespace Go.Proofs.YtpdjjjiknijpkaaGreatDoor.C10
open Go.ChangeShapes Go.WideShapes Go.Deep Go.RowKit Go.Lib
theorem digB_digT (l:List UInt8):digB (digF l)=true:=by
 have hx:∀ k,k<16→hexcut.contains (hexN k)=true:=by decide
 unfold digB;rw[decide_eq_true (digF_size l),Bool.true_and,digF_data,List.all_eq_true];intro c hc;unfold hex16 at hc;obtain⟨j,_,rfl⟩:=List.mem_map.1 hc;exact hx _ (Nat.mod_lt _ (by decide))
structure Store (w:World) (A:Option Addr) (n:Nat) (O:List ObT):Prop where
 sl:SlAt ROb w A n O
 ord:O.Pairwise fun a b=>cmpS a.dig b.dig = -1
 n4:n≤4000
 dig:∀ x∈O,x.dig=digF x.bytes.l
 big:∀ x∈O,x.bytes.l.length≤2000000
theorem Store.below {w w':World} {A:Option Addr} {n:Nat} {O:List ObT} (h:Store w A n O) (hb:Below w.heap.size w w'):Store w' A n O:=⟨h.sl.below hb,h.ord,h.n4,h.dig,h.big⟩
def FiAns (O:List ObT) (s:ByteArray) (w:World) (e:Ending) (w':World):Prop :=
 Below w.heap.size w w'∧((∃ x∈O,x.dig=s∧e = .returned (.tuple #[.slice x.bytes.A x.bytes.n x.bytes.cap,.bool true]))∨((∀ x∈O,x.dig≠s)∧e = .returned (.tuple #[.slice none 0 0,.bool false])))
theorem find_ob (A:Option Addr) (n c:Nat) (O:List ObT) (s:ByteArray) (w:World) (h:Store w A n O) :
  Calls Tryz.prog 22 #[.slice A n c,.string s] w (FiAns O s w):=by
 obtain⟨Z,hZ⟩:∃ Z,FiAns O s w=Z:=⟨_,rfl⟩;have hZ':∀ e W,FiAns O s w e W→Z e W:=fun e W h=>by rw[← hZ];exact h
 rw[hZ];clear hZ;have hn4:=h.n4;obtain⟨hZ'H,hH⟩:=hq2 hZ' (Lib.hid h);clear hZ' h;go_enter Tryz.func22,Tryz.ntmps22;go_wp2_with fail;refine(find_bsf A n c O s w (by omega) (ob_v hH.out.sl) hH.out.ord).mono ?_;rintro e w1 ⟨i,f,rfl,hb1,hat⟩
 cases f with
 | false =>
  have R:=hZ'H.out (.returned (.tuple #[.slice none 0 0,.bool false])) w1 ⟨hb1,.inr ⟨hat.no rfl,rfl⟩⟩;obtain⟨hb1H,hatH,RH⟩:=hq2 hb1 (hq2 hat (Lib.hid R));clear hb1 hat R;go_wp2_with fail;exact RH.out
 | true =>
  obtain⟨x,hx,hxs⟩:=hat.yes rfl;have hi:=(List.getElem?_eq_some_iff.1 hx).1;have hOn:O.length=n:=hH.out.sl.1;obtain⟨b,off,hA,_⟩:=hH.out.sl.2.1 (by omega);subst hA;obtain⟨c0,c1⟩:=cells_ObT ((ob_v hH.out.sl).below hb1) hx;have R:=hZ'H.out (.returned (.tuple #[.slice x.bytes.A x.bytes.n x.bytes.cap,.bool true])) w1 ⟨hb1,.inl ⟨x,List.mem_of_getElem? hx,hxs,rfl⟩⟩;obtain⟨hb1H,hatH,hxH,hxsH,RH⟩:=hqb hb1 hat hx hxs (Lib.hid R);clear hb1 hat hx hxs R;go_wp2_with fail;exact RH.out
def Chk0 (w:World) (e:Ending) (w':World):Prop:=e = .returned (.int .i64 0)∧Below w.heap.size w w'
def CoRel (n:Nat) (w:World) (i:Value) (wr:World):Prop:=∃ k:Nat,k≤n∧i = .int .i64 k∧Below w.heap.size w wr
theorem checkObjects_any (A:Option Addr) (n c:Nat) (O:List ObT) (w:World) (h:Store w A n O) :
  Calls Tryz.prog 53 #[.slice A n c] w (Chk0 w):=by
 obtain⟨Z,hZ⟩:∃ Z,Chk0 w=Z:=⟨_,rfl⟩;have hZ':∀ e W,Chk0 w e W→Z e W:=fun e W h=>by rw[← hZ];exact h
 rw[hZ];clear hZ;have hn4:=h.n4;have hOn:O.length=n:=h.sl.1;have i0:¬ (4000:Int)<(n:Int):=by omega
 have hst:CoRel n w (.int .i64 0) w:=⟨0,Nat.zero_le _,rfl,Below.refl _ _⟩;obtain⟨hZ'H,hH,hstH⟩:=hq2 hZ' (hq2 h (Lib.hid hst));clear hZ' h hst;go_enter Tryz.func53,Tryz.ntmps53;go_wp2_with fail
 go_loopw [10] (fun i wr=>CoRel n w i wr) (fun i _=>n-(intOf i).toNat)
 case atStart=>exact hstH.out
 case round =>
  clear hstH;obtain⟨k,hk,rfl,hb⟩:=hrel
  by_cases hlt:k<n
  ·have hsr:=hH.out.below hb;obtain⟨x,hx⟩:∃ x,O[k]? = some x:=⟨O[k]'(by omega),List.getElem?_eq_getElem _⟩;obtain⟨bq,oq,hA,_⟩:=hsr.sl.2.1 (by omega);subst hA;obtain⟨c0,c1⟩:=cells_ObT (ob_v hsr.sl) hx;have hxm:=List.mem_of_getElem? hx;have hok:=hsr.sl.2.2 x hxm;have hdg:=hsr.dig x hxm;have hbg:=hsr.big x hxm;obtain⟨nb,hnb⟩:∃ b,wr.heap.size=b:=⟨_,rfl⟩;obtain⟨W1,hW1⟩:∃ W,wr.alloc (.cells #[.string x.dig,.slice x.bytes.A x.bytes.n x.bytes.cap] 41)=W:=⟨_,rfl⟩;have hbw1:Below wr.heap.size wr W1:=by rw[← hW1];exact(Below.refl _ _).alloc (Nat.le_refl _) _
   have hzb:Blk W1 wr.heap.size [.string x.dig,.slice x.bytes.A x.bytes.n x.bytes.cap]:=by rw[← hW1];exact blk_new wr _ _
   rw[hnb]at hzb;obtain⟨b0,-⟩:=hzb 0 _ rfl;obtain⟨b1,-⟩:=hzb 1 _ rfl;have hb1:=hb.trans (hbw1.mono hb.size);have hok1:(RSl RU8).ok W1 x.bytes:=(RSl RU8).mono _ _ _ hbw1 hok;obtain⟨xd,⟨xA,xn,xc,xl⟩⟩:=x;simp only at c0 c1 b0 b1 hdg hbg hok1;have hxn:xn≤2000000:=by have h1:xl.length=xn:=hok1.1.1;omega
   have ib:¬ (2000000:Int)<(xn:Int):=by omega
   have hbd1:Below W1.heap.size W1 W1.drew:=(Below.refl _ _).drew;obtain⟨hbH,hsrH,hxH,hxmH,hokH,hbw1H,hzbH,hb1H,hok1H,hbd1H,hdgH⟩:=hq2 hb (hq2 hsr (hqc hx hxm hok hbw1 hzb hb1 hok1 hbd1 (Lib.hid hdg)));clear hb hsr hx hxm hok hbw1 hzb hb1 hok1 hbd1 hdg;go_wp2_with fail;refine startR (R:=Rk (fun _=>True) (fun V=>V.cell? ⟨nb,0,none⟩=some (.string xd)∧V.cell? ⟨nb,1,none⟩=some (.slice xA xn xc)) 99 99) (by kernel_rfl) ?_;have hC:W1.drew.cell? ⟨nb,0,none⟩=some (.string xd)∧W1.drew.cell? ⟨nb,1,none⟩=some (.slice xA xn xc):=⟨b0,b1⟩;refine takeC (i:=0) (d:=some 16) (v:=?_) rfl rfl (by kernel_rfl) (by kernel_rfl) (by kernel_rfl) (by kernel_rfl) (fun _ _ _ h=>h) (Or.inl ⟨by rfl,?_⟩) hC ?_
   rotate_left
   ·(intro w hSw;(try dsimp only at hSw);go_simp;(try with_reducible rfl))
   (try simp only[Act.put,List.setIfInBounds_toArray,List.set_cons_zero,List.set_cons_succ])
   refine takeC (i:=1) (d:=some 17) (v:=?_) rfl rfl (by kernel_rfl) (by kernel_rfl) (by kernel_rfl) (by kernel_rfl) (fun _ _ _ h=>h) (Or.inl ⟨by rfl,?_⟩) hC ?_
   rotate_left
   ·(intro w hSw;(try dsimp only at hSw);go_simp;(try with_reducible rfl))
   (try simp only[Act.put,List.setIfInBounds_toArray,List.set_cons_zero,List.set_cons_succ])
   refine takeC (i:=2) (d:=some 18) (v:=?_) rfl rfl (by kernel_rfl) (by kernel_rfl) (by kernel_rfl) (by kernel_rfl) (fun _ _ _ h=>h) (Or.inl ⟨by rfl,?_⟩) hC ?_
   rotate_left
   ·(intro w hSw;(try dsimp only at hSw);go_simp;(try with_reducible rfl))
   (try simp only[Act.put,List.setIfInBounds_toArray,List.set_cons_zero,List.set_cons_succ])
   refine takeC (i:=3) (d:=some 19) (v:=?_) rfl rfl (by kernel_rfl) (by kernel_rfl) (by kernel_rfl) (by kernel_rfl) (fun _ _ _ h=>h) (Or.inl ⟨by rfl,?_⟩) hC ?_
   rotate_left
   ·(intro w hSw;(try dsimp only at hSw);go_simp;(try with_reducible rfl))
   (try simp only[Act.put,List.setIfInBounds_toArray,List.set_cons_zero,List.set_cons_succ])
   refine oneR (i:=4) (by kernel_rfl) rfl (fun K hK=>?_);go_simp;go_at_call 18;refine(digest_any xA xn xc xl W1.drew ((hok1H.out.1).below hbd1H.out) (Nat.le_trans hxn (by decide))).mono ?_;rintro e W2 ⟨rfl,hb2⟩;rw[← hdgH.out];have hb12:Below W1.heap.size W1 W2:=(Below.refl W1.heap.size W1).drew.trans hb2;have hC2:W2.cell? ⟨nb,0,none⟩=some (.string xd)∧W2.cell? ⟨nb,1,none⟩=some (.slice xA xn xc):=⟨keepC hb12 b0,keepC hb12 b1⟩;have hb2w:=hb1H.out.trans (hb12.mono hb1H.out.size);clear hC;have hC:=hC2;obtain⟨hb2H,hb12H,hb2wH⟩:=hq2 hb2 (hq2 hb12 (Lib.hid hb2w));clear hb2 hb12 hb2w;refine hK.out _ _ ⟨fun _ _ _=>trivial,fun _ _=>hC2⟩ ?_;clear hK K
   (try simp only[Act.put,List.setIfInBounds_toArray,List.set_cons_zero,List.set_cons_succ])
   refine takeC (i:=5) (d:=some 21) (v:=?_) rfl rfl (by kernel_rfl) (by kernel_rfl) (by kernel_rfl) (by kernel_rfl) (fun _ _ _ h=>h) (Or.inl ⟨by rfl,?_⟩) hC ?_
   rotate_left
   ·(intro w hSw;(try dsimp only at hSw);go_simp;(try with_reducible rfl))
   (try simp only[Act.put,List.setIfInBounds_toArray,List.set_cons_zero,List.set_cons_succ])
   refine oneR (i:=6) (by kernel_rfl) rfl (fun K hK=>?_);go_simp;refine hK.out _ _ ⟨fun _ _ _=>trivial,fun _ h=>h⟩ ?_;clear hK K
   (try simp only[Act.put,List.setIfInBounds_toArray,List.set_cons_zero,List.set_cons_succ])
   refine doneR (by kernel_rfl) ?_ _;clear hC;obtain⟨e0,e1⟩:=hC2;have R:∀ q,CoRel n w (.int .i64 ((k:Int)+1)) (W2.drewN q):=fun q=>⟨k+1,by omega,by go_num,bel_drewN hb2wH.out q⟩;clear hW1 c0 c1 b0 b1
   by_cases hk0:0<k
   ·have e5:decide (0<k)=true:=decide_eq_true hk0;obtain⟨z,hz9⟩:∃ z,O[k-1]? = some z:=⟨O[k-1]'(by omega),List.getElem?_eq_getElem _⟩;obtain⟨f0,f1⟩:=cells_ObT ((ob_v hH.out.sl).below hb2wH.out) hz9;have hcmp:cmpS z.dig xd = -1:=by
     obtain⟨h1,e1⟩:=List.getElem?_eq_some_iff.1 hz9;obtain⟨h2,e2⟩:=List.getElem?_eq_some_iff.1 hxH.out;have:=List.pairwise_iff_getElem.1 hH.out.ord (k-1) k h1 h2 (by omega);rw[e1,e2]at this;exact this
    have hle:sle xd z.dig=false:=by
     rw[sle_cmp,decide_eq_false_iff_not,cmpS_swap,hcmp];decide
    obtain⟨zd,hzd⟩:∃ zd,z.dig=zd:=⟨_,rfl⟩;rw[hzd]at f0 hle;have hle':(Op.bytesLess xd.toList zd.toList||xd.toList==zd.toList)=false:=hle;have j0:(0:Int)≤(k:Int)-1:=by omega
    have j1:(k:Int)-1<(n:Int):=by omega
    have j2:((k:Int)-1).toNat=k-1:=by omega
    clear hle hcmp f1;obtain⟨hz9H,hzdH,RH⟩:=hq2 hz9 (hq2 hzd (Lib.hid R));clear hz9 hzd R;go_wp2_with fail
    go_quiet (fail)
    go_wp2_with fail;exact⟨RH.out _,by simp[intOf];omega⟩
   ·have e5:decide (0<k)=false:=decide_eq_false hk0;have RH:=Lib.hid R;clear R;go_wp2_with fail
    go_quiet (fail)
    go_wp2_with fail;exact⟨RH.out _,by simp[intOf];omega⟩
  ·obtain rfl:k=n:=by omega
   have R:=hZ'H.out (.returned (.int .i64 0)) wr ⟨rfl,hb⟩;obtain⟨hbH,RH⟩:=hq2 hb (Lib.hid R);clear hb R;go_wp2_with fail;exact RH.out
theorem checkRoot_any (A:Option Addr) (n c:Nat) (O:List ObT) (s:ByteArray) (w:World) (h:Store w A n O) (hs:digB s=true) :
  Calls Tryz.prog 21 #[.string s,.slice A n c] w (Chk0 w):=by
 have hH:=Lib.hid h;clear h;go_enter Tryz.func21,Tryz.ntmps21;go_wp2_with fail;refine(checkObjects_any A n c O w hH.out).mono ?_;rintro e w1 ⟨rfl,hb1⟩;have hb1H:=Lib.hid hb1;clear hb1;go_wp2_with fail;refine(dig_any s w1 true hs).mono ?_;rintro e w2 ⟨rfl,hb2⟩;have R:Chk0 w (.returned (.int .i64 0)) w2:=⟨rfl,hb1H.out.trans (hb2.mono hb1H.out.size)⟩;obtain⟨hb2H,RH⟩:=hq2 hb2 (Lib.hid R);clear hb2 R;go_wp2_with fail;go_ret;exact RH.out
end Go.Proofs.YtpdjjjiknijpkaaGreatDoor.C10
namespace Go.Proofs.YtpdjjjiknijpkaaGreatDoor.C10
open Go.RowKit
def pch (b:UInt8):Bool:=decide ((97≤b.toNat∧b.toNat≤122)∨(65≤b.toNat∧b.toNat≤90)∨(48≤b.toNat∧b.toNat≤57)∨b.toNat=46∨b.toNat=95∨b.toNat=45∨b.toNat=43)
def partL (l:List UInt8):Bool:=l.all pch && !(l == []) && !(l == [46]) && !(l == [46,46])
def partB (s:ByteArray):Bool:=partL s.data.toList
theorem idx_ge (x:UInt8):decide (Lib.indexByte [46,95,45,43] x ≥ 0)=decide (x.toNat=46∨x.toNat=95∨x.toNat=45∨x.toNat=43):=by
 have:=byte_all (p:=fun x=>decide (Lib.indexByte [46,95,45,43] x ≥ 0)==decide (x.toNat=46∨x.toNat=95∨x.toNat=45∨x.toNat=43)) (by decide +kernel) x
 simpa using this
theorem idx_byte (x:UInt8) (w:World):Calls Tryz.prog 145 #[.string ⟨#[46,95,45,43]⟩,.int .u8 x.toNat] w fun e w'=>e = .returned (.int .i64 (Lib.indexByte [46,95,45,43] x))∧w'=w:=by
 have:=Tryz.strings_IndexByte ⟨#[46,95,45,43]⟩ x.toNat w
 rwa [show ((x.toNat:Int).toNat.toUInt8)=x by simp,show (⟨#[46,95,45,43]⟩:ByteArray).data.toList = [46,95,45,43] from rfl]at this
def PartRel (s:ByteArray) (b:Bool) (i:Value):Prop:=∃ k:Nat,k≤s.size∧i = .int .i64 k∧b=(s.data.toList.drop k).all pch
theorem inPart_any (x:UInt8) (w:World) (b:Bool) (hb:pch x=b) :
  Calls Tryz.prog 110 #[.int .u8 x.toNat] w fun e w'=>e = .returned (.bool b)∧w'=w:=by
 have hx:x.toNat<256:=x.toNat_lt;have hid:=idx_ge x;unfold pch at hb;obtain⟨c,hc⟩:∃ c,Lib.indexByte [46,95,45,43] x=c:=⟨_,rfl⟩;have hidx:=idx_byte x;rw[hc]at hid hidx;replace hid:(0≤c)↔(x.toNat=46∨x.toNat=95∨x.toNat=45∨x.toNat=43):=decide_eq_decide.1 hid;obtain⟨hcH,hidxH⟩:=hq2 hc (Lib.hid hidx);clear hc hidx;go_enter Tryz.func110,Tryz.ntmps110;go_wp2_with (go_at_call 145;refine(hidxH.out _).mono ?_;rintro e wz ⟨rfl,rfl⟩)
 all_goals first
  | (exfalso;omega)
  | (go_ret;refine⟨ret_bool ?_,rfl⟩;rw[← hb,Bool.eq_iff_iff];simp only[Bool.or_eq_true,decide_eq_true_iff];first | omega | (simp;omega))
theorem part_loop {s:ByteArray} {k:Nat} {b:Bool} (h:k<s.size) (hb:b=(s.data.toList.drop k).all pch):b=(pch s[k]&&(s.data.toList.drop (k+1)).all pch):=all_step h hb
theorem isPart_any (s:ByteArray) (w:World) (hs:s.size≤9223372036854775807) (b:Bool) (hb:partB s=b) :
  Calls Tryz.prog 69 #[.string s] w fun e w'=>e = .returned (.bool b)∧w=w':=by
 obtain⟨a,ha⟩:∃ a,a=s.data.toList.all pch:=⟨_,rfl⟩;unfold partB partL at hb;rw[← ha,← Lib.toList_data s]at hb;obtain⟨haH,hbH⟩:=hq2 ha (Lib.hid hb);clear ha hb;go_enter Tryz.func69,Tryz.ntmps69;go_wp2
 go_loop [6] (fun i=>PartRel s a i) (fun i=>s.size-(intOf i).toNat)
 case atStart=>exact⟨0,Nat.zero_le _,rfl,haH.out⟩
 case round =>
  obtain⟨k,hk,rfl,hr⟩:=hrel;have hrH:=Lib.hid hr;clear hr
  by_cases hlt:k<s.size
  ·have hs:=part_loop hlt hrH.out
   cases hp:pch s[k]
   ·rw[hp,Bool.false_and]at hs;have hb:=hbH.out;rw[hs,Bool.false_and,Bool.false_and,Bool.false_and]at hb;subst hb;clear hs;have hpH:=Lib.hid hp;clear hp;go_wp2_with (go_at_call 110;refine(inPart_any _ _ _ (by exact hpH.out)).mono ?_;rintro e wz ⟨rfl,rfl⟩);go_ret;exact⟨rfl,rfl⟩
   ·rw[hp,Bool.true_and]at hs;have R:PartRel s a (.int .i64 (k+1)):=⟨k+1,by omega,by go_num,hs⟩;clear hs;obtain⟨hpH,RH⟩:=hq2 hp (Lib.hid R);clear hp R;go_wp2_with (go_at_call 110;refine(inPart_any _ _ _ (by exact hpH.out)).mono ?_;rintro e wz ⟨rfl,rfl⟩);refine⟨?rel,?measure⟩
    case measure=>(simp[intOf];omega)
    case rel=>first | exact RH.out | exact⟨rfl,RH.out⟩
  ·have e:s.data.toList.drop k = []:=List.drop_eq_nil_of_le (by simp;omega);have ha2:a=true:=by have:=hrH.out;rw[e]at this;exact this
   clear hrH e;subst ha2;go_wp2
   all_goals (go_ret;refine⟨ret_bool ?_,rfl⟩;rw[← hbH.out];simp[*])
def parts (s:ByteArray):List ByteArray:=Lib.splitB ⟨#[47]⟩ 0 (Lib.countB s ⟨#[47]⟩) s
def pathB (s:ByteArray):Bool:=inR 1 200 s.size&&(parts s).all partB
theorem parts_size {s x:ByteArray} (h:x∈parts s):x.size≤s.size:=splitB_size _ _ _ _ h
theorem parts_len (s:ByteArray):(parts s).length=Lib.countB s ⟨#[47]⟩+1:=Lib.splitB_all _ (by decide) 0 _ s rfl
theorem split_any (s:ByteArray) (w:World) (hm:MaxLenAt w) (hs:s.size<4294967281) :
  Calls Tryz.prog 68 #[.string s,.string ⟨#[47]⟩] w fun e w'=>∃ (A:Option Addr) (n:Nat),e = .returned (.slice A n n)∧SlAt RStr w' A n (parts s)∧Below w.heap.size w w':=by
 obtain⟨m,hm⟩:=hm;refine(Tryz.strings_Split s ⟨#[47]⟩ m w hs hm (by decide)).mono ?_;rintro e w' ⟨rfl,rfl⟩;refine⟨_,_,rfl,⟨parts_len s,fun _=>⟨_,_,rfl,fun i x hx j v hv=>?_⟩,fun x hx=>?_⟩,(Below.refl _ _).alloc (Nat.le_refl _) _⟩
 ·match j,hv with
  | 0,hv =>
   simp only[RStr,List.getElem?_cons_zero,Option.some.injEq]at hv;subst hv;have:((parts s).map Value.string)[i]? = some (.string x):=by rw[List.getElem?_map,hx];rfl
   simp only[RStr,Nat.mul_one,Nat.zero_add,Nat.add_zero];rw[cell_new]
   simpa[parts]using this
  | n+1,hv=>simp[RStr]at hv
 ·have:=parts_size hx;show x.size≤maxLen;unfold maxLen;omega
theorem drop_all {α:Type} {p:α→Bool} {l:List α} {k:Nat} {x:α} (h:l[k]? = some x):(l.drop k).all p=(p x&&(l.drop (k+1)).all p):=by
 rw[drop_cons h,List.all_cons]
def PathRel (l:List ByteArray) (a:Bool) (i:Value):Prop:=∃ k:Nat,k≤l.length∧i = .int .i64 k∧(l.drop k).all partB=a
theorem isPath_any (s:ByteArray) (w:World) (hm:MaxLenAt w) (b:Bool) (hb:pathB s=b) :
  Calls Tryz.prog 38 #[.string s] w fun e w'=>e = .returned (.bool b)∧Below w.heap.size w w':=by
 unfold pathB inR at hb
 by_cases h0:1≤s.size
 ·by_cases h1:s.size≤200
  ·rw[decide_eq_true (by omega),decide_eq_true (by omega),Bool.true_and,Bool.true_and]at hb;obtain⟨hmH,hbH⟩:=hq2 hm (Lib.hid hb);clear hm hb;go_enter Tryz.func38,Tryz.ntmps38;go_wp2_with fail;refine(split_any s _ hmH.out (by omega)).mono ?_;rintro e w1 ⟨A,len,rfl,hl,hb1⟩;have hll:=hl.1;have hlen:len≤4294967281:=by rw[← hll,parts_len];have:=Lib.countB_le ⟨#[47]⟩ (by decide) _ s (Nat.le_refl _);omega
   have hsz:∀ x∈parts s,x.size≤9223372036854775807:=fun x hx=>by have:=parts_size hx;omega
   obtain⟨l,hpl⟩:∃ l,parts s=l:=⟨_,rfl⟩;rw[hpl]at hl hll hsz hbH;obtain⟨hlH,hb1H,hllH,hszH,hplH⟩:=hqb hl hb1 hll hsz (Lib.hid hpl);clear hl hb1 hll hsz hpl;go_wp2
   go_loop [16] (fun i=>PathRel l b i) (fun i=>len-(intOf i).toNat)
   case atStart=>exact⟨0,Nat.zero_le _,rfl,hbH.out⟩
   case round =>
    obtain⟨k,hk,rfl,hr⟩:=hrel;have hkl:k≤len:=by have:=hllH.out;omega
    by_cases hlt:k<len
    ·obtain⟨b0,off,hA,_⟩:=hlH.out.2.1 (by omega);subst hA;obtain⟨x,hx⟩:∃ x,l[k]? = some x:=⟨l[k]'(by have:=hllH.out;omega),List.getElem?_eq_getElem _⟩;have c0:=cell_Str hlH.out hx;have hkl2:k+1≤l.length:=by have:=hllH.out;omega
     have hxs:=hszH.out x (List.mem_of_getElem? hx);rw[drop_all hx]at hr;obtain⟨p,hp⟩:∃ p,partB x=p:=⟨_,rfl⟩;rw[hp]at hr;obtain⟨hxH,hpH⟩:=hq2 hx (Lib.hid hp);clear hx hp
     cases p
     ·rw[Bool.false_and]at hr;subst hr;go_wp2_with (go_at_call 69;refine(isPart_any x _ hxs _ (by exact hpH.out)).mono ?_;rintro e wz ⟨rfl,rfl⟩);go_ret;exact⟨rfl,hb1H.out⟩
     ·rw[Bool.true_and]at hr;have R:PathRel l b (.int .i64 (k+1)):=⟨k+1,hkl2,by go_num,hr⟩;obtain⟨RH,hrH⟩:=hq2 R (Lib.hid hr);clear R hr;go_wp2_with (go_at_call 69;refine(isPart_any x _ hxs _ (by exact hpH.out)).mono ?_;rintro e wz ⟨rfl,rfl⟩);refine⟨?rel,?measure⟩
      case measure=>(simp[intOf];omega)
      case rel=>first | exact RH.out | exact⟨rfl,RH.out⟩
    ·have e:l.drop k = []:=List.drop_eq_nil_of_le (by have:=hllH.out;omega);rw[e]at hr;subst hr;clear e;go_wp2;go_ret;exact⟨rfl,hb1H.out⟩
  ·rw[decide_eq_false (p:=(s.size:Int)≤200) (by omega),Bool.and_false,Bool.false_and]at hb;subst hb;go_enter Tryz.func38,Tryz.ntmps38;go_wp2;go_ret;exact⟨rfl,Below.refl _ _⟩
 ·rw[decide_eq_false (by omega),Bool.false_and,Bool.false_and]at hb;subst hb;go_enter Tryz.func38,Tryz.ntmps38;go_wp2;go_ret;exact⟨rfl,Below.refl _ _⟩
def clAt (h:ByteArray→Bool) (s:ByteArray) (k:Nat):Bool:=if hk:k<s.size then decide (s[k].toNat=47)&&h (s.extract 0 k) else false
def clashP (h:ByteArray→Bool) (s:ByteArray):Bool:=(List.range s.size).any (clAt h s)
def hasF (l:List File) (p:ByteArray):Bool:=l.any fun y=>decide (y.path=p)
def totF (l:List File):Nat:=(l.map (·.bytes.l.length)).sum
structure FilesX (l:List File):Prop where
 len:l.length≤1000
 row:∀ (k:Nat) y,l[k]? = some y→pathB y.path=true∧y.bytes.l.length≤100000
 ord:∀ (k:Nat) y z,l[k]? = some y→l[k+1]? = some z→sle z.path y.path=false
 cl:∀ (k:Nat) y,l[k]? = some y→clashP (hasF l) y.path=false
 tot:totF l≤2000000
end Go.Proofs.YtpdjjjiknijpkaaGreatDoor.C10
namespace Go.Proofs.YtpdjjjiknijpkaaGreatDoor.C10
open Go.ChangeShapes Go.WideShapes Go.Deep Go.RowKit Go.Lib Go.Maps
noncomputable def KB:KD Tryz.prog 9 ByteArray:=KStr Tryz.underlying9
def valB (b:Bool):Value:=.bool b
theorem injB:InjV valB:=fun _ _ h=>by injection h
theorem pathB_le {s:ByteArray} (h:pathB s=true):s.size≤200:=by
 unfold pathB at h;rw[Bool.and_eq_true]at h;have:=inR_true h.1;omega
theorem zeroB (w:World):(zeroValue 4).run Tryz.prog w = .ok (valB false) w:=by kernel_rfl
theorem any_range (f:Nat→Bool) (k:Nat):(List.range (k+1)).any f=((List.range k).any f||f k):=by
 rw[List.range_succ,List.any_append];simp
theorem clashes_any (s:ByteArray) (hs:s.size≤200) (b:Nat) (g:ByteArray→Option Bool) (h:ByteArray→Bool) (hg:∀ p,(g p).getD false=h p) (c:Nat) (w:World) (hmp:TMap KB valB w b g c) :
  Calls Tryz.prog 39 #[.map (some b),.string s] w fun e w'=>e = .returned (.bool (clashP h s))∧w'=w:=by
 obtain⟨q,hq⟩:∃ q,clashP h s=q:=⟨_,rfl⟩;rw[hq];have hmpH:=Lib.hid hmp;clear hmp;go_enter Tryz.func39,Tryz.ntmps39;go_wp2_with fail
 go_loopw [8] (fun i wr=>w=wr∧∃ k:Nat,k≤s.size∧i = .int .i64 k∧(List.range k).any (clAt h s)=false) (fun i _=>s.size-(intOf i).toNat)
 case atStart=>exact⟨rfl,0,Nat.zero_le _,rfl,rfl⟩
 case round =>
  obtain⟨rfl,k,hk,rfl,hno⟩:=hrel
  by_cases hlt:k<s.size
  ·have j0:(k:Int)≤(s.size:Int):=by omega
   have hez:(s.extract 0 k).size≤maxLen:=by rw[ByteArray.size_extract];unfold maxLen;omega
   obtain⟨v,hv⟩:∃ v,h (s.extract 0 k)=v:=⟨_,rfl⟩;have hlk:(Instr.lookup 66 (.map (some b)) (.string (s.extract 0 k)) false).run Tryz.prog w = .ok (.bool v) w:=by
    rw[← hv,← hg];exact(hmpH.out.look (t:=66) Tryz.underlying66 (z0:=false) (zeroB w) injB (x:=s.extract 0 k) hez).1
   have hcl:clAt h s k=(decide (s[k].toNat=47)&&v):=by unfold clAt;rw[dif_pos hlt,hv]
   by_cases h47:s[k].toNat=47
   ·have h47':((s[k].toNat:Int)==47)=true:=by rw[h47];rfl
    rw[h47]at hcl
    cases v
    ·have R:∃ k_1:Nat,k_1≤s.size∧Value.int .i64 ((k:Int)+1)=Value.int .i64 k_1∧(List.range k_1).any (clAt h s)=false:=⟨k+1,by omega,by go_num,by rw[any_range,hno,hcl];rfl⟩;clear hcl hno hv hq;have RH:=Lib.hid R;clear R;go_wp2_with fail;exact⟨⟨trivial,RH.out⟩,by simp[intOf];omega⟩
    ·have hq1:q=true:=by
      rw[← hq];unfold clashP;rw[List.any_eq_true];exact⟨k,List.mem_range.2 hlt,by rw[hcl];rfl⟩
     subst hq1;clear hcl hno hv hq;go_wp2_with fail;go_ret;exact⟨rfl,rfl⟩
   ·have h47':((s[k].toNat:Int)==47)=false:=by simp;omega
    have R:∃ k_1:Nat,k_1≤s.size∧Value.int .i64 ((k:Int)+1)=Value.int .i64 k_1∧(List.range k_1).any (clAt h s)=false:=⟨k+1,by omega,by go_num,by rw[any_range,hno,hcl,decide_eq_false h47];rfl⟩;clear hcl hno hv hq;have RH:=Lib.hid R;clear R;go_wp2_with fail;exact⟨⟨trivial,RH.out⟩,by simp[intOf];omega⟩
  ·obtain rfl:k=s.size:=by omega
   have hq1:q=false:=by rw[← hq];exact hno
   subst hq1;clear hq hno;go_wp2_with fail;go_ret;exact⟨rfl,rfl⟩
theorem totF_snoc (l:List File) (y:File):totF (l ++ [y])=totF l+y.bytes.l.length:=by unfold totF;simp
theorem hasF_snoc (l:List File) (y:File) (p:ByteArray):hasF (l ++ [y]) p=(hasF l p||decide (y.path=p)):=by unfold hasF;rw[List.any_append];simp
def CfAns (l:List File) (w:World) (e:Ending) (w':World):Prop:=∃ k:Int,e = .returned (.int .i64 k)∧Below w.heap.size w w'∧(k=0↔FilesX l)
def CfRel (l:List File) (w:World) (t i:Value) (wr:World):Prop :=
 ∃ (k tot c:Nat) (g:ByteArray→Option Bool),k≤l.length∧i = .int .i64 k∧t = .int .i64 tot∧tot=totF (l.take k)∧tot≤100000*k∧c≤k∧TMap KB valB wr w.heap.size g c∧Below w.heap.size w wr∧(∀ j y,j<k→l[j]? = some y→pathB y.path=true∧y.bytes.l.length≤100000) ∧
  (∀ j y z,j+1<k→l[j]? = some y→l[j+1]? = some z→sle z.path y.path=false)∧∀ p,(g p).getD false=hasF (l.take k) p
def CfRel2 (l:List File) (w:World) (i:Value) (wr:World):Prop :=
 ∃ (k c:Nat) (g:ByteArray→Option Bool),k≤l.length∧i = .int .i64 k∧TMap KB valB wr w.heap.size g c∧Below w.heap.size w wr∧(∀ p,(g p).getD false=hasF l p)∧∀ j y,j<k→l[j]? = some y→clashP (hasF l) y.path=false
theorem checkFiles_x (A:Option Addr) (m c:Nat) (l:List File) (w:World) (hm:MaxLenAt w) (hl:SlAt RFile w A m l) :
  Calls Tryz.prog 12 #[.slice A m c] w (CfAns l w):=by
 obtain⟨Z,hZ⟩:∃ Z,CfAns l w=Z:=⟨_,rfl⟩;have hZ':∀ e W,CfAns l w e W→Z e W:=fun e W h=>by rw[← hZ];exact h
 rw[hZ];clear hZ;have hln:=hl.1;have hmk:=@run_makeMap Tryz.prog;have R0:∀ (k:Int) W,k≠0→¬ FilesX l→Below w.heap.size w W→Z (.returned (.int .i64 k)) W:=fun k W hk hn h=>hZ' _ _ ⟨k,rfl,h,fun e=>absurd e hk,fun e=>absurd e hn⟩
 by_cases hm50:m≤1000
 ·have i5:¬ (1000:Int)<(m:Int):=by omega
  have hst:CfRel l w (.int .i64 0) (.int .i64 0) (w.alloc (.map #[] 0)):=⟨0,0,0,_,Nat.zero_le _,rfl,rfl,rfl,Nat.zero_le _,Nat.le_refl _,TMap.made w KB valB,(Below.refl _ _).alloc (Nat.le_refl _) _,(fun j v h=>absurd h (by omega)),(fun j v z h=>absurd h (by omega)),fun p=>rfl⟩;obtain⟨hZ'H,hmH,hlH,R0H,hstH⟩:=hqb hZ' hm hl R0 (Lib.hid hst);clear hZ' hm hl R0 hst;go_enter Tryz.func12,Tryz.ntmps12;go_wp2_with fail
  go_loopw [3,15] (fun t i wr=>CfRel l w t i wr) (fun _ i _=>m-(intOf i).toNat)
  case atStart=>exact hstH.out
  case round =>
   clear hstH;obtain⟨k,tot,cc,g,hk,rfl,rfl,hte,htot,hcc,hmp,hb,hall,hord,hgh⟩:=hrel
   by_cases hlt:k<m
   ·obtain⟨y,hy⟩:∃ y,l[k]? = some y:=⟨l[k]'(by omega),List.getElem?_eq_getElem _⟩;have hsl:=hlH.out.below hb;obtain⟨b1,o1,hA1,_⟩:=hsl.2.1 (by omega);subst hA1;obtain⟨d0,d1,d2⟩:=cells_File hsl hy;obtain⟨hyz,_,hyb⟩:=hsl.2.2 y (List.mem_of_getElem? hy);have hybl:y.bytes.l.length=y.bytes.n:=hyb.1.1;have hylen:y.bytes.n≤maxLen:=Nat.le_trans hyb.2.1 hyb.2.2.1;unfold maxLen at hylen;obtain⟨yp,yr,⟨yA,yn,yc,yl⟩⟩:=y;simp only at d0 d1 d2 hyz hybl hylen;have hyz:yp.size≤maxLen:=hyz;have hba:=(Below.refl wr.heap.size wr).alloc (Nat.le_refl _) (.cells #[.string yp,.bool yr,.slice yA yn yc] 95);have hzq:Blk (wr.alloc (.cells #[.string yp,.bool yr,.slice yA yn yc] 95)) wr.heap.size [.string yp,.bool yr,.slice yA yn yc]:=blk_new wr [.string yp,.bool yr,.slice yA yn yc] 95;obtain⟨pb,hpb⟩:∃ b,pathB yp=b:=⟨_,rfl⟩;have hwrs:=hb.size;have hb01:=hb.trans (hba.mono hwrs);have hmlt:=hmp.lt;have hpa:=isPath_any yp (wr.alloc (.cells #[.string yp,.bool yr,.slice yA yn yc] 95)) (hmH.out.below hb01) pb hpb;obtain⟨z0,_⟩:=hzq 0 _ rfl;have hmp1:=hmp.alloc (.cells #[.string yp,.bool yr,.slice yA yn yc] 95);obtain⟨hbH,hslH,hyH,hybH,hbaH,hzqH,hpaH,hb01H,hmpH,hmp1H,hteH⟩:=hq2 hb (hq2 hsl (hqc hy hyb hba hzq hpa hb01 hmp hmp1 (Lib.hid hte)));clear hb hsl hy hyb hba hzq hpa hb01 hmp hmp1 hte;go_wp2_with fail;refine hpaH.out.mono ?_;rintro e w2 ⟨rfl,hb2⟩;have hb02:=hb01H.out.trans (hb2.mono hb01H.out.size)
    cases pb
    ·have R:=R0H.out 3 w2 (by decide) (fun hx=>by have:=(hx.row k _ hyH.out).1;rw[hpb]at this;cases this) hb02;clear hall hord hgh;obtain⟨hb2H,hb02H,RH⟩:=hq2 hb2 (hq2 hb02 (Lib.hid R));clear hb2 hb02 R;go_wp2_with fail;exact RH.out
    ·have hz2:=blk_below hzqH.out (by simp) hb2;obtain⟨x0,_⟩:=hz2 0 _ rfl;obtain⟨x2,_⟩:=hz2 2 _ rfl;have hmp2:=hmp1H.out.below hb2 (by simp;omega);have hw2s:=hb02.size
     by_cases hn1:yn≤100000
     ·have i1:¬ (100000:Int)<(yn:Int):=by omega
      have R8:=fun q (h8:¬ FilesX l)=>R0H.out 8 (w2.drewN q) (by decide) h8 (bel_drewN hb02 q);have htk:l.take (k+1)=l.take k ++ [⟨yp,yr,⟨yA,yn,yc,yl⟩⟩]:=by rw[List.take_add_one,hyH.out];rfl
      have Rn:∀ W c',TMap KB valB W w.heap.size (upd g yp true) c'→c'≤k+1→Below w.heap.size w W→(0<k→∀ z,l[k-1]? = some z→sle yp z.path=false)→CfRel l w (.int .i64 ((tot:Int)+(yn:Int))) (.int .i64 ((k:Int)+1)) W:=fun W c' h1 h2 h3 h4=>⟨k+1,tot+yn,c',_,by omega,by go_num,by go_num,by rw[htk,totF_snoc,← hteH.out];show tot+yn=tot+yl.length;omega,by omega,h2,h1,h3,(fun j v hj hv2=>by
       rcases Nat.lt_or_ge j k with h | h
       ·exact hall j v h hv2
       ·obtain rfl:j=k:=by omega
        rw[hyH.out]at hv2;injection hv2 with hv2;subst hv2;exact⟨hpb,by show yl.length≤_;omega⟩),(fun j v z hj hv2 hz2=>by
       rcases Nat.lt_or_ge (j+1) k with h | h
       ·exact hord j v z h hv2 hz2
       ·obtain rfl:k=j+1:=by omega
        rw[hyH.out]at hz2;injection hz2 with hz2;subst hz2;exact h4 (by omega) v hv2),fun p=>by
       rw[htk,hasF_snoc,← hgh];unfold upd
       by_cases e:p=yp
       ·subst e;simp
       ·rw[if_neg e,decide_eq_false (fun e'=>e e'.symm),Bool.or_false]⟩
      clear hall hord hgh htk;have hmpq:=fun q=>hmp2.below (bel_drewN (Below.refl w2.heap.size w2) q) hmp2.lt;have hwlt:w.heap.size<w2.heap.size:=hmp2.lt;obtain⟨hb2H,hb02H,hz2H,hmp2H,R8H,RnH,hmpqH⟩:=hq2 hb2 (hq2 hb02 (hqb hz2 hmp2 R8 Rn (Lib.hid hmpq)));clear hb2 hb02 hz2 hmp2 R8 Rn hmpq
      by_cases hk0:0<k
      ·have e1:decide (0<k)=true:=decide_eq_true hk0;obtain⟨z,hz9⟩:∃ z,l[k-1]? = some z:=⟨l[k-1]'(by omega),List.getElem?_eq_getElem _⟩;obtain⟨f0,_⟩:=cells_File (hlH.out.below hb02H.out) hz9;have j0:(0:Int)≤(k:Int)-1:=by omega
       have j1:(k:Int)-1<(m:Int):=by omega
       have j2:((k:Int)-1).toNat=k-1:=by omega
       cases hle:sle yp z.path
       ·have hle':(Op.bytesLess yp.toList z.path.toList||yp.toList==z.path.toList)=false:=hle;have h4:∀ z,l[k-1]? = some z→sle yp z.path=false:=fun z' e=>by rw[hz9]at e;injection e with e;subst e;exact hle
        clear hz9 hle;have h4H:=Lib.hid h4;clear h4;go_wp2_with fail
        go_quiet (fail)
        go_wp2_with (at_mapUpdate;go_loud (refine wpList_tstore rfl (.tmp 49) (.tmp 51) (.const (.bool true)) 66 rfl Tryz.underlying66 injB rfl (hmpqH.out _) (by simp only[maxLen];omega) yp rfl hyz true rfl ?_);intro w6 hm6 hg6;have hm6H:=Lib.hid hm6;clear hm6;have hg6H:=Lib.hid hg6;clear hg6);exact⟨RnH.out _ _ hm6H.out (Nat.le_trans (ite_le_succ _ _) (by omega)) ((bel_drewN hb02H.out _).trans (grown_below hg6H.out (Nat.le_refl _) (by have:=hb02H.out.size;exact this))) (fun _=>h4H.out),by simp[intOf];omega⟩
       ·have hle':(Op.bytesLess yp.toList z.path.toList||yp.toList==z.path.toList)=true:=hle;have h8:¬ FilesX l:=fun hx=>by
         have:=hx.ord (k-1) z _ hz9 (by rw[show k-1+1=k by omega];exact hyH.out);rw[hle]at this;cases this
        clear hz9 hle;have h8H:=Lib.hid h8;clear h8;go_wp2_with fail
        go_quiet (fail)
        go_wp2_with fail;exact R8H.out _ h8H.out
      ·have e1:decide (0<k)=false:=decide_eq_false hk0;go_wp2_with fail
       go_quiet (fail)
       go_wp2_with (at_mapUpdate;go_loud (refine wpList_tstore rfl (.tmp 49) (.tmp 51) (.const (.bool true)) 66 rfl Tryz.underlying66 injB rfl (hmpqH.out _) (by simp only[maxLen];omega) yp rfl hyz true rfl ?_);intro w6 hm6 hg6;have hm6H:=Lib.hid hm6;clear hm6;have hg6H:=Lib.hid hg6;clear hg6);exact⟨RnH.out _ _ hm6H.out (Nat.le_trans (ite_le_succ _ _) (by omega)) ((bel_drewN hb02H.out _).trans (grown_below hg6H.out (Nat.le_refl _) (by have:=hb02H.out.size;exact this))) (fun h=>absurd h hk0),by simp[intOf];omega⟩
     ·have i1:(100000:Int)<(yn:Int):=by omega
      have R:=R0H.out 2 w2 (by decide) (fun hx=>by have:yl.length≤100000:=(hx.row k _ hyH.out).2;omega) hb02;clear hall hord hgh;obtain⟨hb2H,hb02H,hz2H,hmp2H,RH⟩:=hqb hb2 hb02 hz2 hmp2 (Lib.hid R);clear hb2 hb02 hz2 hmp2 R;go_wp2_with fail;exact RH.out
   ·obtain rfl:k=m:=by omega
    rw[List.take_of_length_le (by omega)]at hgh hte;have hrow:∀ (j:Nat) y,l[j]? = some y→pathB y.path=true∧y.bytes.l.length≤100000:=fun j y hj=>hall j y (by have:=(List.getElem?_eq_some_iff.1 hj).1;omega) hj;have hord2:∀ (j:Nat) y z,l[j]? = some y→l[j+1]? = some z→sle z.path y.path=false:=fun j y z h1 h2=>hord j y z (by have:=(List.getElem?_eq_some_iff.1 h2).1;omega) h1 h2;have hst2:CfRel2 l w (.int .i64 0) wr:=⟨0,cc,g,Nat.zero_le _,rfl,hmp,hb,hgh,fun j y h=>absurd h (by omega)⟩;clear hall hord hgh;obtain⟨hbH,hmpH,hrowH,hord2H,hst2H,hteH⟩:=hq2 hb (hqb hmp hrow hord2 hst2 (Lib.hid hte));clear hb hmp hrow hord2 hst2 hte;go_wp2_with fail
    go_loopw [55] (fun i wr=>CfRel2 l w i wr) (fun i _=>k-(intOf i).toNat)
    case atStart=>exact hst2H.out
    case round =>
     clear hst2H;obtain⟨k2,c2,g2,hk2,rfl,hmp2,hb2,hgh2,hcl2⟩:=hrel
     by_cases hlt2:k2<k
     ·obtain⟨y,hy⟩:∃ y,l[k2]? = some y:=⟨l[k2]'(by omega),List.getElem?_eq_getElem _⟩;have hsl:=hlH.out.below hb2;obtain⟨b1,o1,hA1,_⟩:=hsl.2.1 (by omega);subst hA1;obtain⟨d0,d1,d2⟩:=cells_File hsl hy;have hyp:=(hrowH.out k2 y hy).1;obtain⟨yp,yr,⟨yA,yn,yc,yl⟩⟩:=y;simp only at d0 d1 d2 hyp;have hps:=pathB_le hyp;have hba:=(Below.refl wr.heap.size wr).alloc (Nat.le_refl _) (.cells #[.string yp,.bool yr,.slice yA yn yc] 95);have hzq:Blk (wr.alloc (.cells #[.string yp,.bool yr,.slice yA yn yc] 95)) wr.heap.size [.string yp,.bool yr,.slice yA yn yc]:=blk_new wr [.string yp,.bool yr,.slice yA yn yc] 95;have hmp3:=hmp2.alloc (.cells #[.string yp,.bool yr,.slice yA yn yc] 95);have hwrs:=hb2.size;have hb03:=hb2.trans (hba.mono hwrs);obtain⟨z0,_⟩:=hzq 0 _ rfl;have hcl:=clashes_any yp hps w.heap.size g2 (hasF l) hgh2 c2 _ hmp3;obtain⟨q,hq⟩:∃ q,clashP (hasF l) yp=q:=⟨_,rfl⟩;rw[hq]at hcl;have R12:q=true→_:=fun e=>R0H.out 12 _ (by decide) (fun hx=>by have:=hx.cl k2 _ hy;rw[show clashP (hasF l) _=q from hq,e]at this;cases this) hb03;have Rn:q=false→CfRel2 l w (.int .i64 ((k2:Int)+1)) (wr.alloc (.cells #[.string yp,.bool yr,.slice yA yn yc] 95)):=fun e=>⟨k2+1,c2,g2,by omega,by go_num,hmp3,hb03,hgh2,fun j y' hj hy'=>by
       rcases Nat.lt_or_ge j k2 with h | h
       ·exact hcl2 j y' h hy'
       ·obtain rfl:j=k2:=by omega
        rw[hy]at hy';injection hy' with hy';subst hy';show clashP (hasF l) yp=false;rw[hq,e]⟩
      clear hgh2 hcl2;obtain⟨hb2H,hmp2H,hslH,hyH,hbaH,hzqH,hmp3H,hb03H,hclH,R12H,RnH,hqH⟩:=hq2 hb2 (hq2 hmp2 (hq2 hsl (hqc hy hba hzq hmp3 hb03 hcl R12 Rn (Lib.hid hq))));clear hb2 hmp2 hsl hy hba hzq hmp3 hb03 hcl R12 Rn hq;go_wp2_with fail;refine hclH.out.mono ?_;rintro e w2 ⟨rfl,rfl⟩
      cases q
      ·go_wp2_with fail;exact⟨RnH.out trivial,by simp[intOf];omega⟩
      ·go_wp2_with fail;exact R12H.out trivial
     ·have hcl3:∀ (j:Nat) y,l[j]? = some y→clashP (hasF l) y.path=false:=fun j y hj=>hcl2 j y (by have:=(List.getElem?_eq_some_iff.1 hj).1;omega) hj;have hte2:=hteH.out;clear hgh2 hcl2
      by_cases hbig:tot≤2000000
      ·have ib:¬ (2000000:Int)<(tot:Int):=by omega
       have Rk:=hZ'H.out (.returned (.int .i64 0)) wr ⟨0,rfl,hb2,fun _=>⟨by omega,hrowH.out,hord2H.out,hcl3,by omega⟩,fun _=>rfl⟩;obtain⟨hb2H,hmp2H,hcl3H,RkH⟩:=hq2 hb2 (hq2 hmp2 (hq2 hcl3 (Lib.hid Rk)));clear hb2 hmp2 hcl3 Rk;go_wp2_with fail;exact RkH.out
      ·have ib:(2000000:Int)<(tot:Int):=by omega
       have R2b:=R0H.out 2 wr (by decide) (fun hx=>by have:=hx.tot;omega) hb2;obtain⟨hb2H,hmp2H,hcl3H,R2bH⟩:=hq2 hb2 (hq2 hmp2 (hq2 hcl3 (Lib.hid R2b)));clear hb2 hmp2 hcl3 R2b;go_wp2_with fail;exact R2bH.out
 ·have i5:(1000:Int)<(m:Int):=by omega
  have R2:=R0 2 w (by decide) (fun hx=>by have:=hx.len;omega) (Below.refl _ _);obtain⟨hZ'H,hmH,hlH,R0H,R2H⟩:=hqb hZ' hm hl R0 (Lib.hid R2);clear hZ' hm hl R0 R2;go_enter Tryz.func12,Tryz.ntmps12;go_wp2_with fail;exact R2H.out
end Go.Proofs.YtpdjjjiknijpkaaGreatDoor.C10
namespace Go.Proofs.YtpdjjjiknijpkaaGreatDoor.C10
open Go.ChangeShapes Go.WideShapes Go.Deep Go.RowKit Go.Maps
structure Kp (S:Nat→Prop) (w w':World):Prop where
 os:w'.os=w.os
 tape:w'.tape=w.tape
 output:w'.output=w.output
 size:w.heap.size≤w'.heap.size
 block:∀ k,k<w.heap.size→¬ S k→w'.heap[k]? = w.heap[k]?
section
variable {S:Nat→Prop} {w w' w'':World}
theorem Kp.refl (S:Nat→Prop) (w:World):Kp S w w:=⟨rfl,rfl,rfl,Nat.le_refl _,fun _ _ _=>rfl⟩
theorem Kp.trans (h:Kp S w w') (k:Kp S w' w''):Kp S w w'' :=
 ⟨k.os.trans h.os,k.tape.trans h.tape,k.output.trans h.output,Nat.le_trans h.size k.size,fun i hi hs=>(k.block i (Nat.lt_of_lt_of_le hi h.size) hs).trans (h.block i hi hs)⟩
theorem Kp.mono {S':Nat→Prop} (h:Kp S w w') (hs:∀ k,k<w.heap.size→S k→S' k):Kp S' w w':=⟨h.os,h.tape,h.output,h.size,fun k hk hn=>h.block k hk fun e=>hn (hs k hk e)⟩
theorem Kp.old {S':Nat→Prop} (h:Kp S w w') (k:Kp S' w' w'') (hs:∀ i,i<w.heap.size→S' i→S i):Kp S w w'' :=
 ⟨k.os.trans h.os,k.tape.trans h.tape,k.output.trans h.output,Nat.le_trans h.size k.size,fun i hi hn=>(k.block i (Nat.lt_of_lt_of_le hi h.size) fun e=>hn (hs i hi e)).trans (h.block i hi hn)⟩
theorem Kp.of_below (h:Below w.heap.size w w'):Kp S w w':=⟨h.os,h.tape,h.output,h.size,fun k hk _=>h.block k hk⟩
theorem Kp.of_grown {row:Option Nat} (h:w.grownBy w' row) (hs:∀ k,row=some k→S k):Kp S w w':=⟨h.os,h.tape,h.output,h.size,fun k hk hn=>h.block k hk fun e=>hn (hs k e.symm)⟩
theorem Kp.drew (h:Kp S w w'):Kp S w w'.drew:=⟨h.os,h.tape,h.output,h.size,h.block⟩
theorem Kp.setCell (h:Kp S w w') {a:Addr} (ha:w.heap.size≤a.block∨S a.block) (u:Value):Kp S w (w'.setCell a u):=by
 have hg:=grown_setc w' a u;refine⟨hg.os.trans h.os,hg.tape.trans h.tape,hg.output.trans h.output,Nat.le_trans h.size hg.size,fun k hk hn=>(hg.block k (Nat.lt_of_lt_of_le hk h.size) fun e=>?_).trans (h.block k hk hn)⟩;injection e with e;subst e
 rcases ha with ha | ha
 ·omega
 ·exact hn ha
theorem Kp.below {B:Nat} (h:Kp S w w') (hB:B≤w.heap.size) (hs:∀ k,S k→B≤k):Below B w w':=⟨h.os,h.tape,h.output,h.size,fun k hk=>h.block k (Nat.lt_of_lt_of_le hk hB) fun e=>by have:=hs k e;omega⟩
theorem Kp.blk {b:Nat} {vs:List Value} (h:Kp S w w') (hb:Blk w b vs) (hv:vs≠[]) (hs:¬ S b):Blk w' b vs:=hb.keep (h.block b (hb.lt hv) hs)
theorem Kp.own {α:Type} {R:Rd α} {e:TypeId} {base:Nat} {v:Value} {l:List α} (h:Kp S w w') (ho:Own R e w base v l) (hs:∀ b,v.ownBlock=some b→¬ S b) (hok:∀ x,R.ok w x→R.ok w' x):Own R e w' base v l:=by
 rcases ho.1.2 with hn | ⟨g,cap,cur,rfl,hb,hgg,rest⟩
 ·exact⟨⟨ho.1.1,.inl hn⟩,fun x hx=>hok x (ho.2 x hx)⟩
 ·refine⟨⟨ho.1.1,.inr ⟨g,cap,cur,rfl,hb,?_,rest⟩⟩,fun x hx=>hok x (ho.2 x hx)⟩;rw[h.block g (Array.getElem?_eq_some_iff.1 hgg).1 (hs g rfl)];exact hgg
end
end Go.Proofs.YtpdjjjiknijpkaaGreatDoor.C10