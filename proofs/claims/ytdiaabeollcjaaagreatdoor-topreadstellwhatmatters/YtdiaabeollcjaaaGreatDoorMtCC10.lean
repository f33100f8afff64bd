/-
 Several texts of mine as one, without what is not wanted here: XChH, XKeyM.
-/
import Derived.Test.YtdiaabeollcjaaaGreatDoorMtBC10
import Derived.Test.YtdiaabeollcjaaaGreatDoorMtShelf
set_option linter.unusedVariables false
set_option linter.unusedSimpArgs false
set_option maxRecDepth 100000
set_option maxHeartbeats 8000000
namespace Go.Proofs.YtdiaabeollcjaaaGreatDoor.C10
open Go.ChangeShapes Go.WideShapes Go.Deep Go.RowKit
def okAt (F:ByteArray) (i:Nat) (x:ByteArray):Prop:=(F.data.toList[min i (F.size-1)]? = some 112→pathB x=true)∧(F.data.toList[min i (F.size-1)]? = some 110→NumW x)
def HasF (ws:List ByteArray) (F:ByteArray) (more:Bool):Prop:=F.size≤ws.length∧(F.size<ws.length→more=true)∧∀ i x,ws[i]? = some x→okAt F i x
def HfRel (ws:List ByteArray) (F:ByteArray) (w:World) (i:Value) (wr:World):Prop:=∃ k:Nat,k≤ws.length∧i = .int .i64 k∧Below w.heap.size w wr∧∀ j x,j<k→ws[j]? = some x→okAt F j x
theorem hasForm_any (A:Option Addr) (m c:Nat) (ws:List ByteArray) (w:World) (hm:MaxLenAt w) (hws:SlAt RStr w A m ws) (hm50:m≤50) (hz:∀ s∈ws,s.size≤300) (f F:ByteArray) (more:Bool) (hF1:1≤F.size) (hF9:F.size≤9)
  (hcut:Calls Tryz.prog 124 #[.string f,.string ⟨#[43]⟩] w fun e w'=>e = .returned (.tuple #[.string F,.bool more])∧w=w') :
  Calls Tryz.prog 79 #[.slice A m c,.string f] w (YesB (HasF ws F more) w):=by
 obtain⟨Z,hZ⟩:∃ Z,YesB (HasF ws F more) w=Z:=⟨_,rfl⟩;have hZ':∀ e W,YesB (HasF ws F more) w e W→Z e W:=fun e W h=>by rw[← hZ];exact h
 rw[hZ];clear hZ;have hln:=hws.1;have R0:∀ W,Below w.heap.size w W→Z (.returned (.bool false)) W:=fun W h=>hZ' _ _ ⟨false,rfl,h,fun h=>by cases h⟩;have R00:=R0 w (Below.refl _ _);obtain⟨hZ'H,hmH,hwsH,hzH,hcutH,R0H,R00H⟩:=hq2 hZ' (hq2 hm (hqb hws hz hcut R0 (Lib.hid R00)));clear hZ' hm hws hz hcut R0 R00;go_enter Tryz.func79,Tryz.ntmps79;go_wp2_with fail;refine hcutH.out.mono ?_;rintro e w1 ⟨rfl,rfl⟩
 by_cases hbad:m<F.size∨(F.size<m∧more=false)
 ·rcases hbad with h | ⟨h,rfl⟩
  ·have i1:(m:Int)<(F.size:Int):=by omega
   go_wp2_with fail
   all_goals exact R00H.out
  ·have i1:¬ (m:Int)<(F.size:Int):=by omega
   have i2:(F.size:Int)<(m:Int):=by omega
   go_wp2_with fail
   all_goals exact R00H.out
 ·have hle:F.size≤m:=by omega
  have hmo:F.size<m→more=true:=fun h=>by cases more with | true=>rfl | false=>exact absurd (.inr ⟨h,rfl⟩) hbad
  have i1:¬ (m:Int)<(F.size:Int):=by omega
  have hst:HfRel ws F w (.int .i64 0) w:=⟨0,Nat.zero_le _,rfl,Below.refl _ _,fun j x h=>absurd h (by omega)⟩;clear hbad;obtain⟨hstH,hmoH⟩:=hq2 hst (Lib.hid hmo);clear hst hmo
  by_cases i2:(F.size:Int)<(m:Int)
  ·have hmt:=hmoH.out (by omega);subst hmt;go_wp2_with fail;have d2:decide ((F.size:Int)<(m:Int))=true:=decide_eq_true i2;have d2n:decide (F.size<m)=true:=decide_eq_true (by omega);have d1:decide ((m:Int)<(F.size:Int))=false:=decide_eq_false (by omega);have d1n:decide (m<F.size)=false:=decide_eq_false (by omega)
   (try simp only[d1,d2,d1n,d2n,Bool.not_true,Bool.not_false,Bool.or_false,Bool.false_or,Bool.and_false,Bool.and_true])
   clear d1 d2 d1n d2n
   go_loopw [31] (fun i wr=>HfRel ws F w i wr) (fun i _=>m-(intOf i).toNat)
   case atStart=>exact hstH.out
   case round =>
    clear hstH;obtain⟨k,hk,rfl,hb,hall⟩:=hrel
    by_cases hlt:k<m
    ·obtain⟨x,hx⟩:∃ x,ws[k]? = some x:=⟨ws[k]'(by omega),List.getElem?_eq_getElem _⟩;have hwr:=hwsH.out.below hb;obtain⟨b1,o1,hA1,_⟩:=hwr.2.1 (by omega);subst hA1;have cy:=cell_Str hwr hx;have hxz:=hzH.out x (List.mem_of_getElem? hx);obtain⟨kk,hkk,hkk2,hkk3⟩:∃ kk:Nat,min (k:Int) ((F.size:Int)-1)=kk∧kk<F.size∧kk=min k (F.size-1):=⟨min k (F.size-1),by omega,by omega,rfl⟩;have hch:F.data.toList[min k (F.size-1)]? = some F[kk]:=by rw[← hkk3];exact str_get hkk2
     have hpa:=fun b (hb':pathB x=b)=>isPath_any x wr (hmH.out.below hb) b hb';have hnu:=number_any x (by omega) wr;have hkl:k+1≤ws.length:=by omega
     have hstep:∀ W,Below w.heap.size w W→okAt F k x→HfRel ws F w (.int .i64 (k+1)) W:=fun W hW ho=>⟨k+1,hkl,by go_num,hW,fun j y hj hy=>by
      rcases Nat.lt_or_ge j k with h | h
      ·exact hall j y h hy
      ·obtain rfl:j=k:=by omega
       rw[hx]at hy;injection hy with hy;subst hy;exact ho⟩
     have hwrs:=hb.size;clear hall hkk3;obtain⟨hbH,hwrH,hxH,hchH,hpaH,hnuH,hstepH⟩:=hq2 hb (hq2 hwr (hqb hx hch hpa hnu (Lib.hid hstep)));clear hb hwr hx hch hpa hnu hstep
     by_cases hp:F[kk].toNat=112
     ·obtain⟨pb,hpb⟩:∃ b,pathB x=b:=⟨_,rfl⟩;have hpb1:=hpaH.out pb hpb;have hp1:((F[kk].toNat:Int)==112)=true:=by simp;omega
      have hpb1H:=Lib.hid hpb1;clear hpb1;go_wp2_with fail;refine hpb1H.out.mono ?_;rintro e w2 ⟨rfl,hb2⟩;have hb02:=hbH.out.trans (hb2.mono hwrs)
      cases pb
      ·have R:=R0H.out w2 hb02;obtain⟨hb02H,RH⟩:=hq2 hb02 (Lib.hid R);clear hb02 R;go_wp2_with fail;exact RH.out
      ·have R:=hstepH.out w2 hb02 ⟨fun _=>hpb,fun h=>by rw[hchH.out]at h;injection h with h;rw[h]at hp;exact absurd hp (by decide)⟩;obtain⟨hb02H,RH⟩:=hq2 hb02 (Lib.hid R);clear hb02 R;go_wp2_with fail;refine⟨?rel,?measure⟩
       case measure=>(simp[intOf];omega)
       case rel=>first | exact RH.out | exact⟨rfl,RH.out⟩
     ·by_cases hn:F[kk].toNat=110
      ·have hp1:((F[kk].toNat:Int)==112)=false:=by simp;omega
       have hn1:((F[kk].toNat:Int)==110)=true:=by simp;omega
       go_wp2_with fail;refine hnuH.out.mono ?_;rintro e w2 ⟨pb,rfl,hb2,hpb⟩;have hb02:=hbH.out.trans (hb2.mono hwrs)
       cases pb
       ·have R:=R0H.out w2 hb02;obtain⟨hb02H,RH⟩:=hq2 hb02 (Lib.hid R);clear hb02 R;go_wp2_with fail;exact RH.out
       ·have R:=hstepH.out w2 hb02 ⟨fun h=>by rw[hchH.out]at h;injection h with h;rw[h]at hp;exact absurd rfl hp,fun _=>hpb rfl⟩;obtain⟨hb02H,RH⟩:=hq2 hb02 (Lib.hid R);clear hb02 R;go_wp2_with fail;refine⟨?rel,?measure⟩
        case measure=>(simp[intOf];omega)
        case rel=>first | exact RH.out | exact⟨rfl,RH.out⟩
      ·have hp1:((F[kk].toNat:Int)==112)=false:=by simp;omega
       have hn1:((F[kk].toNat:Int)==110)=false:=by simp;omega
       have R:=hstepH.out wr hbH.out ⟨fun h=>by rw[hchH.out]at h;injection h with h;rw[h]at hp;exact absurd rfl hp,fun h=>by rw[hchH.out]at h;injection h with h;rw[h]at hn;exact absurd rfl hn⟩;have RH:=Lib.hid R;clear R;go_wp2_with fail;refine⟨?rel,?measure⟩
       case measure=>(simp[intOf];omega)
       case rel=>first | exact RH.out | exact⟨rfl,RH.out⟩
    ·have R:=hZ'H.out (.returned (.bool true)) wr ⟨true,rfl,hb,fun _=>⟨by omega,fun h=>by first | rfl | exact hmoH.out (by omega),fun j y hy=>hall j y (by have:=(List.getElem?_eq_some_iff.1 hy).1;omega) hy⟩⟩;clear hall;obtain⟨hbH,RH⟩:=hq2 hb (Lib.hid R);clear hb R;go_wp2_with fail;exact RH.out
  ·go_wp2_with fail;have d2:decide ((F.size:Int)<(m:Int))=false:=decide_eq_false (by omega);have d2n:decide (F.size<m)=false:=decide_eq_false (by omega);have d1:decide ((m:Int)<(F.size:Int))=false:=decide_eq_false (by omega);have d1n:decide (m<F.size)=false:=decide_eq_false (by omega)
   (try simp only[d1,d2,d1n,d2n,Bool.not_true,Bool.not_false,Bool.or_false,Bool.false_or,Bool.and_false,Bool.and_true])
   clear d1 d2 d1n d2n
   go_loopw [31] (fun i wr=>HfRel ws F w i wr) (fun i _=>m-(intOf i).toNat)
   case atStart=>exact hstH.out
   case round =>
    clear hstH;obtain⟨k,hk,rfl,hb,hall⟩:=hrel
    by_cases hlt:k<m
    ·obtain⟨x,hx⟩:∃ x,ws[k]? = some x:=⟨ws[k]'(by omega),List.getElem?_eq_getElem _⟩;have hwr:=hwsH.out.below hb;obtain⟨b1,o1,hA1,_⟩:=hwr.2.1 (by omega);subst hA1;have cy:=cell_Str hwr hx;have hxz:=hzH.out x (List.mem_of_getElem? hx);obtain⟨kk,hkk,hkk2,hkk3⟩:∃ kk:Nat,min (k:Int) ((F.size:Int)-1)=kk∧kk<F.size∧kk=min k (F.size-1):=⟨min k (F.size-1),by omega,by omega,rfl⟩;have hch:F.data.toList[min k (F.size-1)]? = some F[kk]:=by rw[← hkk3];exact str_get hkk2
     have hpa:=fun b (hb':pathB x=b)=>isPath_any x wr (hmH.out.below hb) b hb';have hnu:=number_any x (by omega) wr;have hkl:k+1≤ws.length:=by omega
     have hstep:∀ W,Below w.heap.size w W→okAt F k x→HfRel ws F w (.int .i64 (k+1)) W:=fun W hW ho=>⟨k+1,hkl,by go_num,hW,fun j y hj hy=>by
      rcases Nat.lt_or_ge j k with h | h
      ·exact hall j y h hy
      ·obtain rfl:j=k:=by omega
       rw[hx]at hy;injection hy with hy;subst hy;exact ho⟩
     have hwrs:=hb.size;clear hall hkk3;obtain⟨hbH,hwrH,hxH,hchH,hpaH,hnuH,hstepH⟩:=hq2 hb (hq2 hwr (hqb hx hch hpa hnu (Lib.hid hstep)));clear hb hwr hx hch hpa hnu hstep
     by_cases hp:F[kk].toNat=112
     ·obtain⟨pb,hpb⟩:∃ b,pathB x=b:=⟨_,rfl⟩;have hpb1:=hpaH.out pb hpb;have hp1:((F[kk].toNat:Int)==112)=true:=by simp;omega
      have hpb1H:=Lib.hid hpb1;clear hpb1;go_wp2_with fail;refine hpb1H.out.mono ?_;rintro e w2 ⟨rfl,hb2⟩;have hb02:=hbH.out.trans (hb2.mono hwrs)
      cases pb
      ·have R:=R0H.out w2 hb02;obtain⟨hb02H,RH⟩:=hq2 hb02 (Lib.hid R);clear hb02 R;go_wp2_with fail;exact RH.out
      ·have R:=hstepH.out w2 hb02 ⟨fun _=>hpb,fun h=>by rw[hchH.out]at h;injection h with h;rw[h]at hp;exact absurd hp (by decide)⟩;obtain⟨hb02H,RH⟩:=hq2 hb02 (Lib.hid R);clear hb02 R;go_wp2_with fail;refine⟨?rel,?measure⟩
       case measure=>(simp[intOf];omega)
       case rel=>first | exact RH.out | exact⟨rfl,RH.out⟩
     ·by_cases hn:F[kk].toNat=110
      ·have hp1:((F[kk].toNat:Int)==112)=false:=by simp;omega
       have hn1:((F[kk].toNat:Int)==110)=true:=by simp;omega
       go_wp2_with fail;refine hnuH.out.mono ?_;rintro e w2 ⟨pb,rfl,hb2,hpb⟩;have hb02:=hbH.out.trans (hb2.mono hwrs)
       cases pb
       ·have R:=R0H.out w2 hb02;obtain⟨hb02H,RH⟩:=hq2 hb02 (Lib.hid R);clear hb02 R;go_wp2_with fail;exact RH.out
       ·have R:=hstepH.out w2 hb02 ⟨fun h=>by rw[hchH.out]at h;injection h with h;rw[h]at hp;exact absurd rfl hp,fun _=>hpb rfl⟩;obtain⟨hb02H,RH⟩:=hq2 hb02 (Lib.hid R);clear hb02 R;go_wp2_with fail;refine⟨?rel,?measure⟩
        case measure=>(simp[intOf];omega)
        case rel=>first | exact RH.out | exact⟨rfl,RH.out⟩
      ·have hp1:((F[kk].toNat:Int)==112)=false:=by simp;omega
       have hn1:((F[kk].toNat:Int)==110)=false:=by simp;omega
       have R:=hstepH.out wr hbH.out ⟨fun h=>by rw[hchH.out]at h;injection h with h;rw[h]at hp;exact absurd rfl hp,fun h=>by rw[hchH.out]at h;injection h with h;rw[h]at hn;exact absurd rfl hn⟩;have RH:=Lib.hid R;clear R;go_wp2_with fail;refine⟨?rel,?measure⟩
       case measure=>(simp[intOf];omega)
       case rel=>first | exact RH.out | exact⟨rfl,RH.out⟩
    ·have R:=hZ'H.out (.returned (.bool true)) wr ⟨true,rfl,hb,fun _=>⟨by omega,fun h=>by first | rfl | exact hmoH.out (by omega),fun j y hy=>hall j y (by have:=(List.getElem?_eq_some_iff.1 hy).1;omega) hy⟩⟩;clear hall;obtain⟨hbH,RH⟩:=hq2 hb (Lib.hid R);clear hb R;go_wp2_with fail;exact RH.out
end Go.Proofs.YtdiaabeollcjaaaGreatDoor.C10
namespace Go.Proofs.YtdiaabeollcjaaaGreatDoor.C10
open Go.ChangeShapes Go.WideShapes Go.Deep Go.RowKit Go.Sort Go.Maps Go.Shelf
noncomputable def KB:KD Tryz.prog 9 ByteArray:=KStr Tryz.underlying9
def valB (b:Bool):Value:=.bool b
theorem injB:InjV valB:=fun _ _ h=>by injection h
theorem sorts_b (m:Nat):AnyZ.SortsIn Tryz.prog Tryz.sorted16_ren Fence.wide m :=
 ⟨fun blk off cap ss W hH hblk hsz=>callsIn_wide.2 (AnyM.slices_Sort_string Tryz.sort35 blk off cap ss W hH hblk hsz),
 fun p cap W=>callsIn_wide.2 (AnyM.slices_Sort_string_none Tryz.sort35 p cap W)⟩
theorem keys_b (mb:Option Nat) (W:World):Calls Tryz.prog 40 #[.map mb] W fun e w'=>e = .returned (.func (.func 69) #[] #[.pointer (some ⟨W.heap.size,0,none⟩)])∧w'=W.alloc (.cells #[.map mb] 74) :=
 callsIn_wide.1 (AnyZ.keys_in Tryz.keys40 Fence.wide 5 trivial rfl mb W)
theorem sorted0_b {H:Type} (b nn:Nat) (D0:DataW H) (R:Value→Option (DataW H × List MemPlace)) (w:World) (hown:w.ownsMap Tryz.prog 9 R b nn D0) (hmax:Maps.size D0≤maxLen) (hbytes:Maps.size D0*16≤140737488355328) :
  CallsIn Fence.wide 5 Tryz.prog 16 #[.func (.func 69) #[] #[.pointer (some ⟨w.heap.size,0,none⟩)]] (w.alloc (.cells #[.map (some b)] 74)) fun e w'=>∃ (v:Value) (ss:List (List UInt8)),e = .returned v∧ss.Perm (strKeys D0) ∧
   w'.ownsRow (w.alloc (.cells #[.map (some b)] 74)).heap.size 9 1 v ss.length ((ss.mergeSort (fun x y=>decide (x≤y))).map encStr)∧(v = .slice none 0 0↔ss = [])∧Below (w.alloc (.cells #[.map (some b)] 74)).heap.size (w.alloc (.cells #[.map (some b)] 74)) w':=by
 have hbl:=hown.lt;have hseq:SeqGives Fence.wide 2 Tryz.prog 69 #[.pointer (some ⟨w.heap.size,0,none⟩)] encStr (fun ss=>ss.Perm (strKeys D0)) (Maps.size D0) (w.alloc (.cells #[.map (some b)] 74)) :=
  AnyZ.keys_gives (ρ:=Tryz.keys40_ren) { Tryz.keys40 with } Fence.wide _ trivial rfl (by omega) w.heap.size b nn D0 _ (by simp) (by simp) (by
   obtain⟨es,clock,hb,Ft,hs,hD⟩:=hown;exact⟨es,clock,(Below.heap_alloc _ _ b hbl).trans hb,Ft,hs,hD⟩)
 exact AnyZ.sorted_in Tryz.sorted16 Fence.wide 5 trivial trivial trivial trivial rfl (by omega) (sorts_b _) (enters_of Tryz.func35 (by kernel_rfl) rfl) 69 #[.pointer (some ⟨w.heap.size,0,none⟩)] trivial (enters_of Tryz.func69 (by kernel_rfl) rfl) _ _ hmax hbytes _ hseq
theorem sorted_b {f:ByteArray→Option Bool} (b c:Nat) (w:World) (h:TMap KB valB w b f c) (hc:c≤1000000) :
  Calls Tryz.prog 16 #[.func (.func 69) #[] #[.pointer (some ⟨w.heap.size,0,none⟩)]] (w.alloc (.cells #[.map (some b)] 74)) fun e w' =>
   ∃ A n cap L,e = .returned (.slice A n cap)∧Own RStr 9 w' w.heap.size (.slice A n cap) L∧Rising L∧(∀ s,s.size≤maxLen→(s∈L↔(f s).isSome=true))∧L.length=c∧Below w.heap.size w w':=by
 obtain⟨D,hown,hs,hv⟩:=h;refine(callsIn_wide.1 (sorted0_b b c D (rdV valB) w hown (by rw[hs];unfold maxLen;omega) (by rw[hs];omega))).mono ?_;rintro e w' ⟨v,ss,rfl,hp,hrow,_,hb⟩;obtain⟨hnd,hmem⟩:=strKeys_spec hown KB.keyed Tryz.underlying9;have hle:=strKeys_le hown Tryz.underlying9;have hss:ss.Nodup:=hp.nodup_iff.2 hnd;have hown2:Own RStr 9 w' (w.alloc (.cells #[.map (some b)] 74)).heap.size v (und (ss.mergeSort (fun x y=>decide (x≤y)))):=own_und hrow (by simp) (fun x hx=>hle x (hp.mem_iff.1 (List.mem_mergeSort.1 hx)));obtain⟨A,cap,rfl⟩:=hown2.form;have hlen:(und (ss.mergeSort (fun x y=>decide (x≤y)))).length=c:=by
  have h1:ss.length=(strKeys D).length:=hp.length_eq;have h2:(strKeys D).length=Maps.size D:=by
   obtain⟨es,hD,_⟩:=hown.entries KB.keyed;subst hD;simp[strKeys,Maps.size]
  simp[und];omega
 refine⟨A,_,cap,_,rfl,⟨ownsRow_base_a hown2.1 (by simp),hown2.2⟩,rising_sorted hss,fun s hs2=>?_,hlen,((Below.refl _ w).alloc (Nat.le_refl _) _).trans (hb.mono (by simp))⟩;rw[mem_und,List.mem_mergeSort,hp.mem_iff,hmem];have:=(hv s hs2).1;rw[← this];exact Iff.rfl
theorem keys_f (mb:Option Nat) (W:World):Calls Tryz.prog 18 #[.map mb] W fun e w'=>e = .returned (.func (.func 37) #[] #[.pointer (some ⟨W.heap.size,0,none⟩)])∧w'=W.alloc (.cells #[.map mb] 52) :=
 callsIn_wide.1 (AnyZ.keys_in Tryz.keys18 Fence.wide 5 trivial rfl mb W)
theorem sorted0_f {H:Type} (b nn:Nat) (D0:DataW H) (R:Value→Option (DataW H × List MemPlace)) (w:World) (hown:w.ownsMap Tryz.prog 9 R b nn D0) (hmax:Maps.size D0≤maxLen) (hbytes:Maps.size D0*16≤140737488355328) :
  CallsIn Fence.wide 5 Tryz.prog 16 #[.func (.func 37) #[] #[.pointer (some ⟨w.heap.size,0,none⟩)]] (w.alloc (.cells #[.map (some b)] 52)) fun e w'=>∃ (v:Value) (ss:List (List UInt8)),e = .returned v∧ss.Perm (strKeys D0) ∧
   w'.ownsRow (w.alloc (.cells #[.map (some b)] 52)).heap.size 9 1 v ss.length ((ss.mergeSort (fun x y=>decide (x≤y))).map encStr)∧(v = .slice none 0 0↔ss = [])∧Below (w.alloc (.cells #[.map (some b)] 52)).heap.size (w.alloc (.cells #[.map (some b)] 52)) w':=by
 have hbl:=hown.lt;have hseq:SeqGives Fence.wide 2 Tryz.prog 37 #[.pointer (some ⟨w.heap.size,0,none⟩)] encStr (fun ss=>ss.Perm (strKeys D0)) (Maps.size D0) (w.alloc (.cells #[.map (some b)] 52)) :=
  AnyZ.keys_gives (ρ:=Tryz.keys18_ren) { Tryz.keys18 with } Fence.wide _ trivial rfl (by omega) w.heap.size b nn D0 _ (by simp) (by simp) (by
   obtain⟨es,clock,hb,Ft,hs,hD⟩:=hown;exact⟨es,clock,(Below.heap_alloc _ _ b hbl).trans hb,Ft,hs,hD⟩)
 exact AnyZ.sorted_in Tryz.sorted16 Fence.wide 5 trivial trivial trivial trivial rfl (by omega) (sorts_b _) (enters_of Tryz.func35 (by kernel_rfl) rfl) 37 #[.pointer (some ⟨w.heap.size,0,none⟩)] trivial (enters_of Tryz.func37 (by kernel_rfl) rfl) _ _ hmax hbytes _ hseq
theorem sorted_f {f:ByteArray→Option FV} (b c:Nat) (w:World) (h:TMap KS valF w b f c) (hc:c≤1000000) :
  Calls Tryz.prog 16 #[.func (.func 37) #[] #[.pointer (some ⟨w.heap.size,0,none⟩)]] (w.alloc (.cells #[.map (some b)] 52)) fun e w' =>
   ∃ A n cap L,e = .returned (.slice A n cap)∧Own RStr 9 w' w.heap.size (.slice A n cap) L∧Rising L∧(∀ s,s.size≤maxLen→(s∈L↔(f s).isSome=true))∧L.length=c∧Below w.heap.size w w':=by
 obtain⟨D,hown,hs,hv⟩:=h;refine(callsIn_wide.1 (sorted0_f b c D (rdV valF) w hown (by rw[hs];unfold maxLen;omega) (by rw[hs];omega))).mono ?_;rintro e w' ⟨v,ss,rfl,hp,hrow,_,hb⟩;obtain⟨hnd,hmem⟩:=strKeys_spec hown KS.keyed Tryz.underlying9;have hle:=strKeys_le hown Tryz.underlying9;have hss:ss.Nodup:=hp.nodup_iff.2 hnd;have hown2:Own RStr 9 w' (w.alloc (.cells #[.map (some b)] 52)).heap.size v (und (ss.mergeSort (fun x y=>decide (x≤y)))):=own_und hrow (by simp) (fun x hx=>hle x (hp.mem_iff.1 (List.mem_mergeSort.1 hx)));obtain⟨A,cap,rfl⟩:=hown2.form;have hlen:(und (ss.mergeSort (fun x y=>decide (x≤y)))).length=c:=by
  have h1:ss.length=(strKeys D).length:=hp.length_eq;have h2:(strKeys D).length=Maps.size D:=by
   obtain⟨es,hD,_⟩:=hown.entries KS.keyed;subst hD;simp[strKeys,Maps.size]
  simp[und];omega
 refine⟨A,_,cap,_,rfl,⟨ownsRow_base_a hown2.1 (by simp),hown2.2⟩,rising_sorted hss,fun s hs2=>?_,hlen,((Below.refl _ w).alloc (Nat.le_refl _) _).trans (hb.mono (by simp))⟩;rw[mem_und,List.mem_mergeSort,hp.mem_iff,hmem];have:=(hv s hs2).1;rw[← this];exact Iff.rfl
theorem keys_l (mb:Option Nat) (W:World):Calls Tryz.prog 17 #[.map mb] W fun e w'=>e = .returned (.func (.func 36) #[] #[.pointer (some ⟨W.heap.size,0,none⟩)])∧w'=W.alloc (.cells #[.map mb] 53) :=
 callsIn_wide.1 (AnyZ.keys_in Tryz.keys17 Fence.wide 5 trivial rfl mb W)
theorem sorted0_l {H:Type} (b nn:Nat) (D0:DataW H) (R:Value→Option (DataW H × List MemPlace)) (w:World) (hown:w.ownsMap Tryz.prog 9 R b nn D0) (hmax:Maps.size D0≤maxLen) (hbytes:Maps.size D0*16≤140737488355328) :
  CallsIn Fence.wide 5 Tryz.prog 16 #[.func (.func 36) #[] #[.pointer (some ⟨w.heap.size,0,none⟩)]] (w.alloc (.cells #[.map (some b)] 53)) fun e w'=>∃ (v:Value) (ss:List (List UInt8)),e = .returned v∧ss.Perm (strKeys D0) ∧
   w'.ownsRow (w.alloc (.cells #[.map (some b)] 53)).heap.size 9 1 v ss.length ((ss.mergeSort (fun x y=>decide (x≤y))).map encStr)∧(v = .slice none 0 0↔ss = [])∧Below (w.alloc (.cells #[.map (some b)] 53)).heap.size (w.alloc (.cells #[.map (some b)] 53)) w':=by
 have hbl:=hown.lt;have hseq:SeqGives Fence.wide 2 Tryz.prog 36 #[.pointer (some ⟨w.heap.size,0,none⟩)] encStr (fun ss=>ss.Perm (strKeys D0)) (Maps.size D0) (w.alloc (.cells #[.map (some b)] 53)) :=
  AnyZ.keys_gives (ρ:=Tryz.keys17_ren) { Tryz.keys17 with } Fence.wide _ trivial rfl (by omega) w.heap.size b nn D0 _ (by simp) (by simp) (by
   obtain⟨es,clock,hb,Ft,hs,hD⟩:=hown;exact⟨es,clock,(Below.heap_alloc _ _ b hbl).trans hb,Ft,hs,hD⟩)
 exact AnyZ.sorted_in Tryz.sorted16 Fence.wide 5 trivial trivial trivial trivial rfl (by omega) (sorts_b _) (enters_of Tryz.func35 (by kernel_rfl) rfl) 36 #[.pointer (some ⟨w.heap.size,0,none⟩)] trivial (enters_of Tryz.func36 (by kernel_rfl) rfl) _ _ hmax hbytes _ hseq
theorem sorted_l {f:ByteArray→Option Lk} (b c:Nat) (w:World) (h:TMap KS valL w b f c) (hc:c≤1000000) :
  Calls Tryz.prog 16 #[.func (.func 36) #[] #[.pointer (some ⟨w.heap.size,0,none⟩)]] (w.alloc (.cells #[.map (some b)] 53)) fun e w' =>
   ∃ A n cap L,e = .returned (.slice A n cap)∧Own RStr 9 w' w.heap.size (.slice A n cap) L∧Rising L∧(∀ s,s.size≤maxLen→(s∈L↔(f s).isSome=true))∧L.length=c∧Below w.heap.size w w':=by
 obtain⟨D,hown,hs,hv⟩:=h;refine(callsIn_wide.1 (sorted0_l b c D (rdV valL) w hown (by rw[hs];unfold maxLen;omega) (by rw[hs];omega))).mono ?_;rintro e w' ⟨v,ss,rfl,hp,hrow,_,hb⟩;obtain⟨hnd,hmem⟩:=strKeys_spec hown KS.keyed Tryz.underlying9;have hle:=strKeys_le hown Tryz.underlying9;have hss:ss.Nodup:=hp.nodup_iff.2 hnd;have hown2:Own RStr 9 w' (w.alloc (.cells #[.map (some b)] 53)).heap.size v (und (ss.mergeSort (fun x y=>decide (x≤y)))):=own_und hrow (by simp) (fun x hx=>hle x (hp.mem_iff.1 (List.mem_mergeSort.1 hx)));obtain⟨A,cap,rfl⟩:=hown2.form;have hlen:(und (ss.mergeSort (fun x y=>decide (x≤y)))).length=c:=by
  have h1:ss.length=(strKeys D).length:=hp.length_eq;have h2:(strKeys D).length=Maps.size D:=by
   obtain⟨es,hD,_⟩:=hown.entries KS.keyed;subst hD;simp[strKeys,Maps.size]
  simp[und];omega
 refine⟨A,_,cap,_,rfl,⟨ownsRow_base_a hown2.1 (by simp),hown2.2⟩,rising_sorted hss,fun s hs2=>?_,hlen,((Below.refl _ w).alloc (Nat.le_refl _) _).trans (hb.mono (by simp))⟩;rw[mem_und,List.mem_mergeSort,hp.mem_iff,hmem];have:=(hv s hs2).1;rw[← this];exact Iff.rfl
theorem nodup_lenD:∀ {l m:List (List UInt8)},l.Nodup→(∀ s∈l,s∈m)→l.length≤m.length
 | [],_,_,_=>Nat.zero_le _
 | x::r,m,hd,hs=>by
  obtain⟨a,b,rfl⟩:=List.append_of_mem (hs x List.mem_cons_self);have h2:=List.nodup_cons.1 hd;have:=nodup_lenD (m:=a++b) h2.2 fun s h=>by
   have:=hs s (List.mem_cons_of_mem _ h)
   rcases List.mem_append.1 this with h3 | h3
   ·exact List.mem_append.2 (.inl h3)
   ·rcases List.mem_cons.1 h3 with rfl | h3
    ·exact absurd h h2.1
    ·exact List.mem_append.2 (.inr h3)
  simp only[List.length_cons,List.length_append]at this ⊢;omega
theorem tmap_count {α:Type} {val:α→Value} {w:World} {b c:Nat} {f:ByteArray→Option α} (h:TMap KS val w b f c) (L:List ByteArray) (hL:∀ p,p.size≤maxLen→(f p).isSome=true→p∈L):c≤L.length:=by
 obtain⟨D,hown,hs,hv⟩:=h;obtain⟨hnd,hmem⟩:=strKeys_spec hown KS.keyed Tryz.underlying9;have hle:=strKeys_le hown Tryz.underlying9;have h2:(strKeys D).length=Maps.size D:=by
  obtain⟨es,hD,_⟩:=hown.entries KS.keyed;subst hD;simp[strKeys,Maps.size]
 have hsub:∀ x∈strKeys D,x∈L.map (·.data.toList):=fun x hx=>by
  have hz:=hle x hx;have hb:(bsOf x).size≤maxLen:=by have e:(bsOf x).size=x.length:=List.size_toArray;rw[e];exact hz
  have h1:=(hv (bsOf x) hb).1;have h3:=(hmem x).1 hx;refine List.mem_map.2 ⟨bsOf x,hL _ hb ?_,data_bsOf x⟩;rw[← h1];have e:KS.lit (bsOf x) = .string x:=by show Lit.string (bsOf x).data.toList=_;rw[data_bsOf]
  rw[e];exact h3
 have:=nodup_lenD hnd hsub;rw[List.length_map]at this;omega
end Go.Proofs.YtdiaabeollcjaaaGreatDoor.C10