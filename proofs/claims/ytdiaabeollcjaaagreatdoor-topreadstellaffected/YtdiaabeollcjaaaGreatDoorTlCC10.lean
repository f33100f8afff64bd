/-
 Several texts of mine as one, without what is not wanted here: XKeyM, XExF.
-/
import Derived.Test.YtdiaabeollcjaaaGreatDoorTlAC10
import Derived.Test.YtdiaabeollcjaaaGreatDoorTlShelf
import Derived.Test.YtdiaabeollcjaaaGreatDoorTlGc
set_option linter.unusedVariables false
set_option linter.unusedSimpArgs false
set_option maxRecDepth 100000
set_option maxHeartbeats 8000000
namespace Go.Proofs.YtdiaabeollcjaaaGreatDoor.C10
open Go.ChangeShapes Go.WideShapes Go.Deep Go.RowKit Go.Sort Go.Maps Go.Shelf
noncomputable def KB:KD Tryz.prog 9 ByteArray:=KStr Tryz.underlying9
def valB (b:Bool):Value:=.bool b
theorem injB:InjV valB:=fun _ _ h=>by injection h
theorem sorts_b (m:Nat):AnyZ.SortsIn Tryz.prog Tryz.sorted16_ren Fence.wide m :=
 ⟨fun blk off cap ss W hH hblk hsz=>callsIn_wide.2 (AnyM.slices_Sort_string Tryz.sort35 blk off cap ss W hH hblk hsz),
 fun p cap W=>callsIn_wide.2 (AnyM.slices_Sort_string_none Tryz.sort35 p cap W)⟩
theorem keys_b (mb:Option Nat) (W:World):Calls Tryz.prog 40 #[.map mb] W fun e w'=>e = .returned (.func (.func 69) #[] #[.pointer (some ⟨W.heap.size,0,none⟩)])∧w'=W.alloc (.cells #[.map mb] 74) :=
 callsIn_wide.1 (AnyZ.keys_in Tryz.keys40 Fence.wide 5 trivial rfl mb W)
theorem sorted0_b {H:Type} (b nn:Nat) (D0:DataW H) (R:Value→Option (DataW H × List MemPlace)) (w:World) (hown:w.ownsMap Tryz.prog 9 R b nn D0) (hmax:Maps.size D0≤maxLen) (hbytes:Maps.size D0*16≤140737488355328) :
  CallsIn Fence.wide 5 Tryz.prog 16 #[.func (.func 69) #[] #[.pointer (some ⟨w.heap.size,0,none⟩)]] (w.alloc (.cells #[.map (some b)] 74)) fun e w'=>∃ (v:Value) (ss:List (List UInt8)),e = .returned v∧ss.Perm (strKeys D0) ∧
   w'.ownsRow (w.alloc (.cells #[.map (some b)] 74)).heap.size 9 1 v ss.length ((ss.mergeSort (fun x y=>decide (x≤y))).map encStr)∧(v = .slice none 0 0↔ss = [])∧Below (w.alloc (.cells #[.map (some b)] 74)).heap.size (w.alloc (.cells #[.map (some b)] 74)) w':=by
 have hbl:=hown.lt;have hseq:SeqGives Fence.wide 2 Tryz.prog 69 #[.pointer (some ⟨w.heap.size,0,none⟩)] encStr (fun ss=>ss.Perm (strKeys D0)) (Maps.size D0) (w.alloc (.cells #[.map (some b)] 74)) :=
  AnyZ.keys_gives (ρ:=Tryz.keys40_ren) { Tryz.keys40 with } Fence.wide _ trivial rfl (by omega) w.heap.size b nn D0 _ (by simp) (by simp) (by
   obtain⟨es,clock,hb,Ft,hs,hD⟩:=hown;exact⟨es,clock,(Below.heap_alloc _ _ b hbl).trans hb,Ft,hs,hD⟩)
 exact AnyZ.sorted_in Tryz.sorted16 Fence.wide 5 trivial trivial trivial trivial rfl (by omega) (sorts_b _) (enters_of Tryz.func35 (by kernel_rfl) rfl) 69 #[.pointer (some ⟨w.heap.size,0,none⟩)] trivial (enters_of Tryz.func69 (by kernel_rfl) rfl) _ _ hmax hbytes _ hseq
theorem sorted_b {f:ByteArray→Option Bool} (b c:Nat) (w:World) (h:TMap KB valB w b f c) (hc:c≤1000000) :
  Calls Tryz.prog 16 #[.func (.func 69) #[] #[.pointer (some ⟨w.heap.size,0,none⟩)]] (w.alloc (.cells #[.map (some b)] 74)) fun e w' =>
   ∃ A n cap L,e = .returned (.slice A n cap)∧Own RStr 9 w' w.heap.size (.slice A n cap) L∧Rising L∧(∀ s,s.size≤maxLen→(s∈L↔(f s).isSome=true))∧L.length=c∧Below w.heap.size w w':=by
 obtain⟨D,hown,hs,hv⟩:=h;refine(callsIn_wide.1 (sorted0_b b c D (rdV valB) w hown (by rw[hs];unfold maxLen;omega) (by rw[hs];omega))).mono ?_;rintro e w' ⟨v,ss,rfl,hp,hrow,_,hb⟩;obtain⟨hnd,hmem⟩:=strKeys_spec hown KB.keyed Tryz.underlying9;have hle:=strKeys_le hown Tryz.underlying9;have hss:ss.Nodup:=hp.nodup_iff.2 hnd;have hown2:Own RStr 9 w' (w.alloc (.cells #[.map (some b)] 74)).heap.size v (und (ss.mergeSort (fun x y=>decide (x≤y)))):=own_und hrow (by simp) (fun x hx=>hle x (hp.mem_iff.1 (List.mem_mergeSort.1 hx)));obtain⟨A,cap,rfl⟩:=hown2.form;have hlen:(und (ss.mergeSort (fun x y=>decide (x≤y)))).length=c:=by
  have h1:ss.length=(strKeys D).length:=hp.length_eq;have h2:(strKeys D).length=Maps.size D:=by
   obtain⟨es,hD,_⟩:=hown.entries KB.keyed;subst hD;simp[strKeys,Maps.size]
  simp[und];omega
 refine⟨A,_,cap,_,rfl,⟨ownsRow_base_a hown2.1 (by simp),hown2.2⟩,rising_sorted hss,fun s hs2=>?_,hlen,((Below.refl _ w).alloc (Nat.le_refl _) _).trans (hb.mono (by simp))⟩;rw[mem_und,List.mem_mergeSort,hp.mem_iff,hmem];have:=(hv s hs2).1;rw[← this];exact Iff.rfl
theorem keys_f (mb:Option Nat) (W:World):Calls Tryz.prog 18 #[.map mb] W fun e w'=>e = .returned (.func (.func 37) #[] #[.pointer (some ⟨W.heap.size,0,none⟩)])∧w'=W.alloc (.cells #[.map mb] 52) :=
 callsIn_wide.1 (AnyZ.keys_in Tryz.keys18 Fence.wide 5 trivial rfl mb W)
theorem sorted0_f {H:Type} (b nn:Nat) (D0:DataW H) (R:Value→Option (DataW H × List MemPlace)) (w:World) (hown:w.ownsMap Tryz.prog 9 R b nn D0) (hmax:Maps.size D0≤maxLen) (hbytes:Maps.size D0*16≤140737488355328) :
  CallsIn Fence.wide 5 Tryz.prog 16 #[.func (.func 37) #[] #[.pointer (some ⟨w.heap.size,0,none⟩)]] (w.alloc (.cells #[.map (some b)] 52)) fun e w'=>∃ (v:Value) (ss:List (List UInt8)),e = .returned v∧ss.Perm (strKeys D0) ∧
   w'.ownsRow (w.alloc (.cells #[.map (some b)] 52)).heap.size 9 1 v ss.length ((ss.mergeSort (fun x y=>decide (x≤y))).map encStr)∧(v = .slice none 0 0↔ss = [])∧Below (w.alloc (.cells #[.map (some b)] 52)).heap.size (w.alloc (.cells #[.map (some b)] 52)) w':=by
 have hbl:=hown.lt;have hseq:SeqGives Fence.wide 2 Tryz.prog 37 #[.pointer (some ⟨w.heap.size,0,none⟩)] encStr (fun ss=>ss.Perm (strKeys D0)) (Maps.size D0) (w.alloc (.cells #[.map (some b)] 52)) :=
  AnyZ.keys_gives (ρ:=Tryz.keys18_ren) { Tryz.keys18 with } Fence.wide _ trivial rfl (by omega) w.heap.size b nn D0 _ (by simp) (by simp) (by
   obtain⟨es,clock,hb,Ft,hs,hD⟩:=hown;exact⟨es,clock,(Below.heap_alloc _ _ b hbl).trans hb,Ft,hs,hD⟩)
 exact AnyZ.sorted_in Tryz.sorted16 Fence.wide 5 trivial trivial trivial trivial rfl (by omega) (sorts_b _) (enters_of Tryz.func35 (by kernel_rfl) rfl) 37 #[.pointer (some ⟨w.heap.size,0,none⟩)] trivial (enters_of Tryz.func37 (by kernel_rfl) rfl) _ _ hmax hbytes _ hseq
theorem sorted_f {f:ByteArray→Option FV} (b c:Nat) (w:World) (h:TMap KS valF w b f c) (hc:c≤1000000) :
  Calls Tryz.prog 16 #[.func (.func 37) #[] #[.pointer (some ⟨w.heap.size,0,none⟩)]] (w.alloc (.cells #[.map (some b)] 52)) fun e w' =>
   ∃ A n cap L,e = .returned (.slice A n cap)∧Own RStr 9 w' w.heap.size (.slice A n cap) L∧Rising L∧(∀ s,s.size≤maxLen→(s∈L↔(f s).isSome=true))∧L.length=c∧Below w.heap.size w w':=by
 obtain⟨D,hown,hs,hv⟩:=h;refine(callsIn_wide.1 (sorted0_f b c D (rdV valF) w hown (by rw[hs];unfold maxLen;omega) (by rw[hs];omega))).mono ?_;rintro e w' ⟨v,ss,rfl,hp,hrow,_,hb⟩;obtain⟨hnd,hmem⟩:=strKeys_spec hown KS.keyed Tryz.underlying9;have hle:=strKeys_le hown Tryz.underlying9;have hss:ss.Nodup:=hp.nodup_iff.2 hnd;have hown2:Own RStr 9 w' (w.alloc (.cells #[.map (some b)] 52)).heap.size v (und (ss.mergeSort (fun x y=>decide (x≤y)))):=own_und hrow (by simp) (fun x hx=>hle x (hp.mem_iff.1 (List.mem_mergeSort.1 hx)));obtain⟨A,cap,rfl⟩:=hown2.form;have hlen:(und (ss.mergeSort (fun x y=>decide (x≤y)))).length=c:=by
  have h1:ss.length=(strKeys D).length:=hp.length_eq;have h2:(strKeys D).length=Maps.size D:=by
   obtain⟨es,hD,_⟩:=hown.entries KS.keyed;subst hD;simp[strKeys,Maps.size]
  simp[und];omega
 refine⟨A,_,cap,_,rfl,⟨ownsRow_base_a hown2.1 (by simp),hown2.2⟩,rising_sorted hss,fun s hs2=>?_,hlen,((Below.refl _ w).alloc (Nat.le_refl _) _).trans (hb.mono (by simp))⟩;rw[mem_und,List.mem_mergeSort,hp.mem_iff,hmem];have:=(hv s hs2).1;rw[← this];exact Iff.rfl
theorem keys_l (mb:Option Nat) (W:World):Calls Tryz.prog 17 #[.map mb] W fun e w'=>e = .returned (.func (.func 36) #[] #[.pointer (some ⟨W.heap.size,0,none⟩)])∧w'=W.alloc (.cells #[.map mb] 53) :=
 callsIn_wide.1 (AnyZ.keys_in Tryz.keys17 Fence.wide 5 trivial rfl mb W)
theorem sorted0_l {H:Type} (b nn:Nat) (D0:DataW H) (R:Value→Option (DataW H × List MemPlace)) (w:World) (hown:w.ownsMap Tryz.prog 9 R b nn D0) (hmax:Maps.size D0≤maxLen) (hbytes:Maps.size D0*16≤140737488355328) :
  CallsIn Fence.wide 5 Tryz.prog 16 #[.func (.func 36) #[] #[.pointer (some ⟨w.heap.size,0,none⟩)]] (w.alloc (.cells #[.map (some b)] 53)) fun e w'=>∃ (v:Value) (ss:List (List UInt8)),e = .returned v∧ss.Perm (strKeys D0) ∧
   w'.ownsRow (w.alloc (.cells #[.map (some b)] 53)).heap.size 9 1 v ss.length ((ss.mergeSort (fun x y=>decide (x≤y))).map encStr)∧(v = .slice none 0 0↔ss = [])∧Below (w.alloc (.cells #[.map (some b)] 53)).heap.size (w.alloc (.cells #[.map (some b)] 53)) w':=by
 have hbl:=hown.lt;have hseq:SeqGives Fence.wide 2 Tryz.prog 36 #[.pointer (some ⟨w.heap.size,0,none⟩)] encStr (fun ss=>ss.Perm (strKeys D0)) (Maps.size D0) (w.alloc (.cells #[.map (some b)] 53)) :=
  AnyZ.keys_gives (ρ:=Tryz.keys17_ren) { Tryz.keys17 with } Fence.wide _ trivial rfl (by omega) w.heap.size b nn D0 _ (by simp) (by simp) (by
   obtain⟨es,clock,hb,Ft,hs,hD⟩:=hown;exact⟨es,clock,(Below.heap_alloc _ _ b hbl).trans hb,Ft,hs,hD⟩)
 exact AnyZ.sorted_in Tryz.sorted16 Fence.wide 5 trivial trivial trivial trivial rfl (by omega) (sorts_b _) (enters_of Tryz.func35 (by kernel_rfl) rfl) 36 #[.pointer (some ⟨w.heap.size,0,none⟩)] trivial (enters_of Tryz.func36 (by kernel_rfl) rfl) _ _ hmax hbytes _ hseq
theorem sorted_l {f:ByteArray→Option Lk} (b c:Nat) (w:World) (h:TMap KS valL w b f c) (hc:c≤1000000) :
  Calls Tryz.prog 16 #[.func (.func 36) #[] #[.pointer (some ⟨w.heap.size,0,none⟩)]] (w.alloc (.cells #[.map (some b)] 53)) fun e w' =>
   ∃ A n cap L,e = .returned (.slice A n cap)∧Own RStr 9 w' w.heap.size (.slice A n cap) L∧Rising L∧(∀ s,s.size≤maxLen→(s∈L↔(f s).isSome=true))∧L.length=c∧Below w.heap.size w w':=by
 obtain⟨D,hown,hs,hv⟩:=h;refine(callsIn_wide.1 (sorted0_l b c D (rdV valL) w hown (by rw[hs];unfold maxLen;omega) (by rw[hs];omega))).mono ?_;rintro e w' ⟨v,ss,rfl,hp,hrow,_,hb⟩;obtain⟨hnd,hmem⟩:=strKeys_spec hown KS.keyed Tryz.underlying9;have hle:=strKeys_le hown Tryz.underlying9;have hss:ss.Nodup:=hp.nodup_iff.2 hnd;have hown2:Own RStr 9 w' (w.alloc (.cells #[.map (some b)] 53)).heap.size v (und (ss.mergeSort (fun x y=>decide (x≤y)))):=own_und hrow (by simp) (fun x hx=>hle x (hp.mem_iff.1 (List.mem_mergeSort.1 hx)));obtain⟨A,cap,rfl⟩:=hown2.form;have hlen:(und (ss.mergeSort (fun x y=>decide (x≤y)))).length=c:=by
  have h1:ss.length=(strKeys D).length:=hp.length_eq;have h2:(strKeys D).length=Maps.size D:=by
   obtain⟨es,hD,_⟩:=hown.entries KS.keyed;subst hD;simp[strKeys,Maps.size]
  simp[und];omega
 refine⟨A,_,cap,_,rfl,⟨ownsRow_base_a hown2.1 (by simp),hown2.2⟩,rising_sorted hss,fun s hs2=>?_,hlen,((Below.refl _ w).alloc (Nat.le_refl _) _).trans (hb.mono (by simp))⟩;rw[mem_und,List.mem_mergeSort,hp.mem_iff,hmem];have:=(hv s hs2).1;rw[← this];exact Iff.rfl
theorem nodup_lenD:∀ {l m:List (List UInt8)},l.Nodup→(∀ s∈l,s∈m)→l.length≤m.length
 | [],_,_,_=>Nat.zero_le _
 | x::r,m,hd,hs=>by
  obtain⟨a,b,rfl⟩:=List.append_of_mem (hs x List.mem_cons_self);have h2:=List.nodup_cons.1 hd;have:=nodup_lenD (m:=a++b) h2.2 fun s h=>by
   have:=hs s (List.mem_cons_of_mem _ h)
   rcases List.mem_append.1 this with h3 | h3
   ·exact List.mem_append.2 (.inl h3)
   ·rcases List.mem_cons.1 h3 with rfl | h3
    ·exact absurd h h2.1
    ·exact List.mem_append.2 (.inr h3)
  simp only[List.length_cons,List.length_append]at this ⊢;omega
theorem tmap_count {α:Type} {val:α→Value} {w:World} {b c:Nat} {f:ByteArray→Option α} (h:TMap KS val w b f c) (L:List ByteArray) (hL:∀ p,p.size≤maxLen→(f p).isSome=true→p∈L):c≤L.length:=by
 obtain⟨D,hown,hs,hv⟩:=h;obtain⟨hnd,hmem⟩:=strKeys_spec hown KS.keyed Tryz.underlying9;have hle:=strKeys_le hown Tryz.underlying9;have h2:(strKeys D).length=Maps.size D:=by
  obtain⟨es,hD,_⟩:=hown.entries KS.keyed;subst hD;simp[strKeys,Maps.size]
 have hsub:∀ x∈strKeys D,x∈L.map (·.data.toList):=fun x hx=>by
  have hz:=hle x hx;have hb:(bsOf x).size≤maxLen:=by have e:(bsOf x).size=x.length:=List.size_toArray;rw[e];exact hz
  have h1:=(hv (bsOf x) hb).1;have h3:=(hmem x).1 hx;refine List.mem_map.2 ⟨bsOf x,hL _ hb ?_,data_bsOf x⟩;rw[← h1];have e:KS.lit (bsOf x) = .string x:=by show Lit.string (bsOf x).data.toList=_;rw[data_bsOf]
  rw[e];exact h3
 have:=nodup_lenD hnd hsub;rw[List.length_map]at this;omega
end Go.Proofs.YtdiaabeollcjaaaGreatDoor.C10
namespace Go.Proofs.YtdiaabeollcjaaaGreatDoor.C10
open Go.ChangeShapes Go.WideShapes Go.Deep Go.RowKit Go.Maps
def FindAns (E:EP) (W0:World) (n T:Nat) (x:Action) (I:Inp) (p:ByteArray) (s:ES) (cl:Nat) (w:World) (e:Ending) (w':World):Prop :=
 ∃ v b cl',e = .returned (.tuple #[valF v,.bool b])∧(((findM E p I s).1=none∧b=false∧v=fv0)∨∃ y,(findM E p I s).1=some y∧b=true∧FileIn (TS n T) w' p v y)∧WA W0 n T x I (findM E p I s).2 cl' w'∧cl'≤cl+1∧Kp (WS n) w w'
theorem find_wr {E:EP} {I:Inp} {p:ByteArray} {s:ES} {y:PF} (h:s.wr p=some y):findM E p I s=(some y,s):=by unfold findM;rw[h]
theorem find_in {E:EP} {I:Inp} {p:ByteArray} {s:ES} (h:s.wr p=none) (h2:(s.lk p).isSome=true):findM E p I s=(I p,s):=by unfold findM;rw[h];dsimp only;rw[if_pos h2]
theorem find_new {E:EP} {I:Inp} {p:ByteArray} {s:ES} (h:s.wr p=none) (h2:(s.lk p).isSome=false):findM E p I s=(I p,{ s with lk:=updE s.lk p (lookP E p (I p)) }):=by
 unfold findM;rw[h];dsimp only;rw[if_neg (by rw[h2];decide)]
theorem lookF {W:World} {b c:Nat} {f:ByteArray→Option FV} (h:TMap KS valF W b f c) {p:ByteArray} (hp:p.size≤maxLen) (v:FV) (t:Bool) (hv:(t=true∧f p=some v)∨(t=false∧f p=none∧v=fv0)) :
  (Instr.lookup 52 (.map (some b)) (.string p) true).run Tryz.prog W = .ok (.tuple #[.agg #[.string v.path,.bool v.run,.slice v.A v.n v.cap],.bool t]) W ∧
  (Instr.lookup 52 (.map (some b)) (.string p) false).run Tryz.prog W = .ok (.agg #[.string v.path,.bool v.run,.slice v.A v.n v.cap]) W:=by
 have hh:=h.look (t:=52) Tryz.underlying52 (zeroF _) injF (x:=p) hp
 rcases hv with ⟨rfl,hv⟩ | ⟨rfl,hv,rfl⟩
 ·rw[hv]at hh;exact⟨hh.2,hh.1⟩
 ·rw[hv]at hh;exact⟨hh.2,hh.1⟩
theorem lookL {W:World} {b c:Nat} {f:ByteArray→Option Lk} (h:TMap KS valL W b f c) {p:ByteArray} (hp:p.size≤maxLen) (v:Lk) (t:Bool) (hv:(t=true∧f p=some v)∨(t=false∧f p=none∧v=lk0)) :
  (Instr.lookup 53 (.map (some b)) (.string p) true).run Tryz.prog W = .ok (.tuple #[.agg #[.string v.path,.string v.digest,.bool v.run],.bool t]) W ∧
  (Instr.lookup 53 (.map (some b)) (.string p) false).run Tryz.prog W = .ok (.agg #[.string v.path,.string v.digest,.bool v.run]) W:=by
 have hh:=h.look (t:=53) Tryz.underlying53 (zeroL _) injL (x:=p) hp
 rcases hv with ⟨rfl,hv⟩ | ⟨rfl,hv,rfl⟩
 ·rw[hv]at hh;exact⟨hh.2,hh.1⟩
 ·rw[hv]at hh;exact⟨hh.2,hh.1⟩
theorem find_any (E:EP) (hd:E.dg=digF) (W0:World) (n T:Nat) (x:Action) (I:Inp) (p:ByteArray) (hp:p.size≤maxLen) (s:ES) (cl:Nat) (hcl:cl≤1000000) (w:World) (hw:WA W0 n T x I s cl w) :
  Calls Tryz.prog 86 #[.pointer (some ⟨n+3,0,none⟩),.string p] w (FindAns E W0 n T x I p s cl w):=by
 obtain⟨Z,hZ⟩:∃ Z,FindAns E W0 n T x I p s cl w=Z:=⟨_,rfl⟩;have hZ':∀ e W,FindAns E W0 n T x I p s cl w e W→Z e W:=fun e W h=>by rw[← hZ];exact h
 rw[hZ];clear hZ;obtain⟨f,cf,hf,hf2⟩:=hw.fi;obtain⟨g,hg,hg2⟩:=hw.fo;have hbl:=hw.lt;have h1:=hw.below ((Below.refl _ _).alloc (Nat.le_refl _) (.cells #[.string ⟨#[]⟩,.bool false,.slice none 0 0] 58));have hg1:=hg.alloc (.cells #[.string ⟨#[]⟩,.bool false,.slice none 0 0] 58);obtain⟨_,_,_,_,q7,_,_,_⟩:=h1.cells;have B2:∀ o1 o2,Below w.heap.size w ((w.alloc o1).alloc o2):=fun o1 o2=>((Below.refl _ _).alloc (Nat.le_refl _) _).alloc (by simp) _
 rcases hg2 p with ⟨hg0,hs0⟩ | ⟨v,y,hgv,hsy,hfy⟩
 ·have hl1:=(lookF hg1 hp fv0 false (.inr ⟨rfl,hg0,rfl⟩)).1;simp only[fv0]at hl1;obtain⟨wB,hwB⟩:∃ Y,(w.alloc (.cells #[.string ⟨#[]⟩,.bool false,.slice none 0 0] 58)).alloc (.cells #[.string ⟨#[]⟩,.bool false,.slice none 0 0] 58)=Y:=⟨_,rfl⟩;have hbB:Below w.heap.size w wB:=by rw[← hwB];exact B2 _ _
  have hsB:wB.heap.size=w.heap.size+2:=by rw[← hwB];simp
  have h2:=hw.below hbB;obtain⟨_,_,_,q6,_,_,_,_⟩:=(hw.below (B2 (.cells #[.string ⟨#[]⟩,.bool false,.slice none 0 0] 58) (.cells #[.string ⟨#[]⟩,.bool false,.slice none 0 0] 58))).cells;obtain⟨v,t,hv,hv2⟩:∃ v t,((t=true∧f p=some v)∨(t=false∧f p=none∧v=fv0))∧((t=false∧I p=none∧v=fv0)∨∃ y,I p=some y∧t=true∧FileIn (TS n T) w p v y):=by
   rcases hf2 p with ⟨a,b⟩ | ⟨v,y,a,b,c⟩
   ·exact⟨fv0,false,.inr ⟨rfl,a,rfl⟩,.inl ⟨rfl,b,rfl⟩⟩
   ·exact⟨v,true,.inl ⟨rfl,a⟩,.inr ⟨y,b,rfl,c⟩⟩
  have hl2:=(lookF (hf.below hbB (by omega)) hp v t hv).1;obtain⟨vp,vr,vA,vn,vc⟩:=v;simp only at hl2;have hbC:Below w.heap.size w (wB.alloc (.cells #[.string vp,.bool vr,.slice vA vn vc] 58)):=hbB.alloc hbB.size _;have h3:=hw.below hbC;obtain⟨_,_,_,_,_,q8,_,_⟩:=h3.cells;obtain⟨lv,lt,hlv,hlt⟩:∃ v t,((t=true∧s.lk p=some v)∨(t=false∧s.lk p=none∧v=lk0))∧(s.lk p).isSome=t:=by
   cases e:s.lk p with
   | none=>exact⟨lk0,false,.inr ⟨rfl,rfl,rfl⟩,rfl⟩
   | some v=>exact⟨v,true,.inl ⟨rfl,rfl⟩,rfl⟩
  have hl3:=(lookL h3.fl hp lv lt hlv).1;obtain⟨la,lb,lc⟩:=lv;simp only at hl3;obtain⟨hZ'H,h1H,h2H,hfH,hf2H,hgH,hg2H,hwH,hg1H,hg0H,hs0H,B2H,hvH,hv2H,hwBH,hbBH,hsBH,hbCH,h3H,hlvH,hltH⟩:=hqb hZ' h1 h2 hf (hqc hf2 hg hg2 hw hg1 hg0 hs0 B2 (hqc hv hv2 hwB hbB hsB hbC h3 hlv (Lib.hid hlt)));clear hZ' h1 h2 hf hf2 hg hg2 hw hg1 hg0 hs0 B2 hv hv2 hwB hbB hsB hbC h3 hlv hlt;go_enter Tryz.func86,Tryz.ntmps86;go_wp2_with fail;rw[hwBH.out]
  cases lt
  ·obtain⟨wD,hwD⟩:∃ Y,((wB.alloc (.cells #[.string vp,.bool vr,.slice vA vn vc] 58)).alloc (.cells #[.string la,.string lb,.bool lc] 38)).alloc (.cells #[.string p,.string ⟨#[]⟩,.bool false] 38)=Y:=⟨_,rfl⟩;have hbD:Below wB.heap.size wB wD:=by rw[← hwD];exact(((Below.refl _ _).alloc (Nat.le_refl _) _).alloc (by simp) _).alloc (by simp <;> omega) _
   have hz:Blk wD w.heap.size [.string ⟨#[]⟩,.bool false,.slice none 0 0]:=by
    have h:Blk (w.alloc (.cells #[.string ⟨#[]⟩,.bool false,.slice none 0 0] 58)) w.heap.size [.string ⟨#[]⟩,.bool false,.slice none 0 0]:=blk_new w [.string ⟨#[]⟩,.bool false,.slice none 0 0] _;have h:=blk_below h (by simp) ((Below.refl _ _).alloc (Nat.le_refl _) (.cells #[.string ⟨#[]⟩,.bool false,.slice none 0 0] 58));rw[hwBH.out]at h;exact blk_below h (by simp) hbD
   have hy:Blk wD wB.heap.size [.string vp,.bool vr,.slice vA vn vc]:=by
    have h:Blk (wB.alloc (.cells #[.string vp,.bool vr,.slice vA vn vc] 58)) wB.heap.size [.string vp,.bool vr,.slice vA vn vc]:=blk_new wB [.string vp,.bool vr,.slice vA vn vc] _;have h:=blk_below (blk_below h (by simp) ((Below.refl _ _).alloc (Nat.le_refl _) (.cells #[.string la,.string lb,.bool lc] 38))) (by simp) ((Below.refl _ _).alloc (Nat.le_refl _) (.cells #[.string p,.string ⟨#[]⟩,.bool false] 38));rw[hwD]at h;exact h
   have hk:Blk wD (wB.heap.size+1+1) [.string p,.string ⟨#[]⟩,.bool false]:=by
    have h:Blk (((wB.alloc (.cells #[.string vp,.bool vr,.slice vA vn vc] 58)).alloc (.cells #[.string la,.string lb,.bool lc] 38)).alloc (.cells #[.string p,.string ⟨#[]⟩,.bool false] 38)) ((wB.alloc (.cells #[.string vp,.bool vr,.slice vA vn vc] 58)).alloc (.cells #[.string la,.string lb,.bool lc] 38)).heap.size [.string p,.string ⟨#[]⟩,.bool false]:=blk_new _ [.string p,.string ⟨#[]⟩,.bool false] _;rw[hwD]at h
    simpa using h
   have y0:=(hy 0 _ rfl).1;have y1:=(hy 1 _ rfl).1;have y2:=(hy 2 _ rfl).1;have k0:=(hk 0 _ rfl).1;have hbDw:=hbBH.out.trans (hbD.mono hbBH.out.size)
   cases t
   ·obtain⟨hi0,hv0⟩:I p=none∧(⟨vp,vr,vA,vn,vc⟩:FV)=fv0:=by
     rcases hv2H.out with ⟨_,b,c⟩ | ⟨y,_,b,_⟩
     ·exact⟨b,c⟩
     ·cases b
    have k1:=(hk 1 _ rfl).1;have k2:=(hk 2 _ rfl).1;obtain⟨hwDH,hbDH,hzH,hyH,hkH,hbDwH,hi0H,hv0H⟩:=hq2 hwD (hq2 hbD (hq2 hz (hqb hy hk hbDw hi0 (Lib.hid hv0))));clear hwD hbD hz hy hk hbDw hi0 hv0;go_wp2_with fail;rw[hwDH.out];have hbX:Below w.heap.size w wD:=hbDwH.out;have hsX:=hbX.size;have hzX:Blk wD w.heap.size [.string ⟨#[]⟩,.bool false,.slice none 0 0]:=hzH.out;obtain⟨_,_,_,_,_,q8,_,_⟩:=(hwH.out.below hbX).cells;have hd:Below wD.heap.size wD wD.drew:=⟨rfl,rfl,rfl,Nat.le_refl _,fun _ _=>rfl⟩;have hmX:=((hwH.out.below hbX).fl).below hd (by have:=hbX.size;omega);obtain⟨w6,hrun,hm6,ht6⟩:=hmX.store (t:=53) Tryz.underlying53 injL (by simp only[maxLen];omega) (x:=p) hp (⟨p,⟨#[]⟩,false⟩:Lk);have hrun:(Instr.mapUpdate 53 (.map (some (n+2))) (.string p) (.agg #[.string p,.string ⟨#[]⟩,.bool false])).run Tryz.prog wD.drew = .ok () w6:=hrun;have hg6:wD.grownBy w6 (some (n+2)):=World.grownBy.trans ⟨hd.os,hd.tape,hd.output,hd.size,fun k hk _=>hd.block k hk⟩ ht6.grown;have hz6:Blk w6 w.heap.size [.string ⟨#[]⟩,.bool false,.slice none 0 0]:=hzX.keep (hg6.block _ (hzX.lt (by simp)) (by simp;omega));obtain⟨c0,f0⟩:=hz6 0 _ rfl;obtain⟨c1,f1⟩:=hz6 1 _ rfl;obtain⟨c2,f2⟩:=hz6 2 _ rfl;have hz2:=((hz6.set (k:=0) (by simp) (.string vp)).set (k:=1) (by simp) (.bool vr)).set (k:=2) (by simp) (.slice vA vn vc);obtain⟨d0,_⟩:=hz2 0 _ rfl;obtain⟨d1,_⟩:=hz2 1 _ rfl;obtain⟨d2,_⟩:=hz2 2 _ rfl;have hsB9:=hsBH.out;have m0:=hg6.cell y0 (by simp <;> omega)
    have m1:=hg6.cell y1 (by simp <;> omega);have m2:=hg6.cell y2 (by simp <;> omega);have hgF:w.grownBy (((w6.setCell ⟨w.heap.size,0,none⟩ (.string vp)).setCell ⟨w.heap.size,1,none⟩ (.bool vr)).setCell ⟨w.heap.size,2,none⟩ (.slice vA vn vc)) (some (n+2)):=by
     have hk:Kp (fun k=>k=n+2) w w6:=(Kp.of_below hbX).old (Kp.of_grown (S:=fun k=>k=n+2) hg6 fun k hk=>by injection hk with hk;exact hk.symm) fun i _ h=>h;have hk:=((hk.setCell (a:=⟨w.heap.size,0,none⟩) (.inl (Nat.le_refl _)) (.string vp)).setCell (a:=⟨w.heap.size,1,none⟩) (.inl (Nat.le_refl _)) (.bool vr)).setCell (a:=⟨w.heap.size,2,none⟩) (.inl (Nat.le_refl _)) (.slice vA vn vc);exact⟨hk.os,hk.tape,hk.output,hk.size,fun k hk' hne=>hk.block k hk' fun e=>hne (by rw[e])⟩
    have hmF:=((hm6.setCell (a:=⟨w.heap.size,0,none⟩) (by simp;omega) (.string vp)).setCell (a:=⟨w.heap.size,1,none⟩) (by simp;omega) (.bool vr)).setCell (a:=⟨w.heap.size,2,none⟩) (by simp;omega) (.slice vA vn vc);have hWF:=hwH.out.look hmF hgF;have hkF:Kp (WS n) w _:=Kp.of_grown hgF fun k hk=>by injection hk with hk;subst hk;exact .inr (.inl rfl)
    have R:=hZ'H.out (.returned (.tuple #[.agg #[.string vp,.bool vr,.slice vA vn vc],.bool false])) _ (by
     have e:=find_new (E:=E) (I:=I) hs0H.out hltH.out;refine⟨⟨vp,vr,vA,vn,vc⟩,false,_,rfl,?_,by rw[e];exact(by have h:=hWF;rw[hi0H.out];exact h),ite_le_succ _ cl,hkF⟩;rw[e]
     rcases hv2H.out with ⟨a,b,c⟩ | ⟨y,a,b,c⟩
     ·exact .inl ⟨b,(by first | rfl | exact a | cases a),c⟩
     ·exact .inr ⟨y,a,(by first | rfl | exact b | cases b),c.kp (hkF.ts T)⟩)
    clear hsX hd ht6 hsB9;obtain⟨hbXH,hzXH,hmXH,hm6H,hg6H,hz6H,hz2H,hgFH,hmFH,hWFH,hkFH,RH⟩:=hq2 hbX (hq2 hzX (hq2 hmX (hqc hm6 hg6 hz6 hz2 hgF hmF hWF hkF (Lib.hid R))));clear hbX hzX hmX hm6 hg6 hz6 hz2 hgF hmF hWF hkF R
    go_region
    go_wp2_with fail;exact bodyPost_ret (v:=.tuple #[.agg #[.string vp,.bool vr,.slice vA vn vc],.bool false]) (by simp[results,Tryz.results86,go_sem,d0,d1,d2]) rfl RH.out
   ·obtain⟨y,hiy,_,hfy⟩:∃ y,I p=some y∧true=true∧FileIn (TS n T) w p ⟨vp,vr,vA,vn,vc⟩ y:=by
     rcases hv2H.out with ⟨a,_,_⟩ | ⟨y,a,_,c⟩
     ·cases a
     ·exact⟨y,a,rfl,c⟩
    have hvr:vr=y.run:=hfy.run;have hn9:vn≤1000000000000:=by
     have h1:=hfy.len;have h2:y.bs.length=vn:=hfy.bts.1.1.1;omega
    have hsl:SlAt RU8 wD vA vn y.bs:=(hfy.bts.1.1).below hbDw;obtain⟨hwDH,hbDH,hzH,hyH,hkH,hbDwH,hiyH,hfyH,hn9H,hslH,hvrH⟩:=hq2 hwD (hq2 hbD (hqc hz hy hk hbDw hiy hfy hn9 hsl (Lib.hid hvr)));clear hwD hbD hz hy hk hbDw hiy hfy hn9 hsl hvr;go_wp2_with fail;rw[hwDH.out];refine startR (R:=Rk (fun _=>True) (fun w'=>w'.cell? ⟨wB.heap.size,1,none⟩=some (.bool vr)∧w'.cell? ⟨wB.heap.size,2,none⟩=some (.slice vA vn vc)) 6 8) (by kernel_rfl) ?_;have hC:wD.drew.cell? ⟨wB.heap.size,1,none⟩=some (.bool vr)∧wD.drew.cell? ⟨wB.heap.size,2,none⟩=some (.slice vA vn vc):=⟨y1,y2⟩;refine takeC (i:=0) (d:=some 47) (v:=?_) rfl rfl (by kernel_rfl) (by kernel_rfl) (by kernel_rfl) (by kernel_rfl) (fun _ _ _ h=>h) (Or.inl ⟨by rfl,?_⟩) hC ?_
    rotate_left
    ·(intro w hSw;(try dsimp only at hSw);go_simp;(try with_reducible rfl))
    (try simp only[Act.put,List.setIfInBounds_toArray,List.set_cons_zero,List.set_cons_succ])
    refine takeC (i:=1) (d:=some 48) (v:=?_) rfl rfl (by kernel_rfl) (by kernel_rfl) (by kernel_rfl) (by kernel_rfl) (fun _ _ _ h=>h) (Or.inl ⟨by rfl,?_⟩) hC ?_
    rotate_left
    ·(intro w hSw;(try dsimp only at hSw);go_simp;(try with_reducible rfl))
    (try simp only[Act.put,List.setIfInBounds_toArray,List.set_cons_zero,List.set_cons_succ])
    refine takeC (i:=3) (d:=some 50) (v:=?_) rfl rfl (by kernel_rfl) (by kernel_rfl) (by kernel_rfl) (by kernel_rfl) (fun _ _ _ h=>h) (Or.inl ⟨by rfl,?_⟩) hC ?_
    rotate_left
    ·(intro w hSw;(try dsimp only at hSw);go_simp;(try with_reducible rfl))
    (try simp only[Act.put,List.setIfInBounds_toArray,List.set_cons_zero,List.set_cons_succ])
    refine takeC (i:=4) (d:=some 51) (v:=?_) rfl rfl (by kernel_rfl) (by kernel_rfl) (by kernel_rfl) (by kernel_rfl) (fun _ _ _ h=>h) (Or.inl ⟨by rfl,?_⟩) hC ?_
    rotate_left
    ·(intro w hSw;(try dsimp only at hSw);go_simp;(try with_reducible rfl))
    (try simp only[Act.put,List.setIfInBounds_toArray,List.set_cons_zero,List.set_cons_succ])
    refine oneR (i:=2) (by kernel_rfl) rfl (fun K hK=>?_);go_simp;go_at_call 19;refine(digest_any vA vn vc y.bs _ (hslH.out.below (Below.refl _ _).drew) hn9H.out).mono ?_;rintro e w7 ⟨rfl,hw7⟩;have hw7:Below wD.heap.size wD w7:=(Below.refl _ _).drew.trans hw7;have hk7:=blk_below hkH.out (by simp) hw7;have hC7:w7.cell? ⟨wB.heap.size,1,none⟩=some (.bool vr)∧w7.cell? ⟨wB.heap.size,2,none⟩=some (.slice vA vn vc):=⟨keepC hw7 y1,keepC hw7 y2⟩;have hk8:=hk7.set (k:=1) (by simp) (.string (digF y.bs));have hk9:=hk8.set (k:=2) (by simp) (.bool vr);obtain⟨k1,g1⟩:=hk7 1 _ rfl;obtain⟨k2,g2⟩:=hk8 2 _ rfl;have hC8:(w7.setCell ⟨wB.heap.size+1+1,1,none⟩ (.string (digF y.bs))).cell? ⟨wB.heap.size,1,none⟩=some (.bool vr)∧(w7.setCell ⟨wB.heap.size+1+1,1,none⟩ (.string (digF y.bs))).cell? ⟨wB.heap.size,2,none⟩=some (.slice vA vn vc) :=
     ⟨(World.cell?_setCell_other _ _ _ _ (by simp <;> omega)).trans hC7.1,(World.cell?_setCell_other _ _ _ _ (by simp <;> omega)).trans hC7.2⟩
    clear hC;obtain⟨dg,hdg⟩:∃ d,digF y.bs=d:=⟨_,rfl⟩;rw[hdg]at hk8 hk9 k2 g2 hC8 ⊢;obtain⟨hw7H,hk7H,hk8H,hk9H,hdgH⟩:=hqb hw7 hk7 hk8 hk9 (Lib.hid hdg);clear hw7 hk7 hk8 hk9 hdg;refine hK.out _ _ ⟨fun _ _ _=>trivial,fun _ _=>hC7⟩ ?_;clear hK K
    (try simp only[Act.put,List.setIfInBounds_toArray,List.set_cons_zero,List.set_cons_succ])
    have hC:=hC7;refine takeC (i:=5) (d:=some 52) (v:=?_) rfl rfl (by kernel_rfl) (by kernel_rfl) (by kernel_rfl) (by kernel_rfl) (fun _ _ _ h=>h) (Or.inl ⟨by rfl,?_⟩) hC ?_
    rotate_left
    ·(intro w hSw;(try dsimp only at hSw);go_simp;(try with_reducible rfl))
    (try simp only[Act.put,List.setIfInBounds_toArray,List.set_cons_zero,List.set_cons_succ])
    refine oneR (i:=6) (by kernel_rfl) rfl (fun K hK=>?_);go_simp;clear hC hC7;refine hK.out _ _ ⟨fun _ _ _=>trivial,fun _ _=>hC8⟩ ?_;clear hK K
    (try simp only[Act.put,List.setIfInBounds_toArray,List.set_cons_zero,List.set_cons_succ])
    have hC:=hC8;refine takeC (i:=7) (d:=some 53) (v:=?_) rfl rfl (by kernel_rfl) (by kernel_rfl) (by kernel_rfl) (by kernel_rfl) (fun _ _ _ h=>h) (Or.inl ⟨by rfl,?_⟩) hC ?_
    rotate_left
    ·(intro w hSw;(try dsimp only at hSw);go_simp;(try with_reducible rfl))
    (try simp only[Act.put,List.setIfInBounds_toArray,List.set_cons_zero,List.set_cons_succ])
    refine oneR (i:=8) (by kernel_rfl) rfl (fun K hK=>?_);go_simp;refine hK.out _ _ ⟨fun _ _ _=>trivial,fun h=>absurd rfl h⟩ ?_;clear hK K
    (try simp only[Act.put,List.setIfInBounds_toArray,List.set_cons_zero,List.set_cons_succ])
    refine doneR (by kernel_rfl) ?_ _;clear hC hC8 k1 g1 k2 g2 k0;obtain⟨X,hX⟩:∃ X,(w7.setCell ⟨wB.heap.size+1+1,1,none⟩ (.string dg)).setCell ⟨wB.heap.size+1+1,2,none⟩ (.bool vr)=X:=⟨_,rfl⟩;rw[hX];have hkX:Blk X (wB.heap.size+1+1) [.string p,.string dg,.bool vr]:=by rw[← hX];exact hk9H.out
    have hbDX:Below (w.heap.size+3) wD X:=by
     rw[← hX];have:=hw7H.out.size;have h9:=hsBH.out;have hlt:=hkH.out.lt (by simp);exact((hw7H.out.mono (by omega)).setCell (by show w.heap.size+3≤wB.heap.size+1+1;omega) _).setCell (by show w.heap.size+3≤wB.heap.size+1+1;omega) _
    have hbwX:Below w.heap.size w X:=hbDwH.out.trans (hbDX.mono (by omega));have hzX:Blk X w.heap.size [.string ⟨#[]⟩,.bool false,.slice none 0 0]:=hzH.out.keep (hbDX.block _ (by omega));have h9:=hsBH.out;have hyX:Blk X wB.heap.size [.string vp,.bool vr,.slice vA vn vc]:=hyH.out.keep (hbDX.block _ (by omega));clear y0 y1 y2;have y0:=(hyX 0 _ rfl).1;have y1:=(hyX 1 _ rfl).1;have y2:=(hyX 2 _ rfl).1;have k0:=(hkX 0 _ rfl).1;have k1:=(hkX 1 _ rfl).1;have k2:=(hkX 2 _ rfl).1;clear h9 hwDH hbDH hzH hyH hkH hw7H hk7H hk8H hk9H hyX;have hlook:lookP E p (I p)=(⟨p,dg,vr⟩:Lk):=by rw[hiyH.out,lookP,hd,hdgH.out,← hvrH.out]
    obtain⟨hXH,hkXH,hbDXH,hbwXH,hzXH,hlookH⟩:=hq2 hX (hqb hkX hbDX hbwX hzX (Lib.hid hlook));clear hX hkX hbDX hbwX hzX hlook;go_wp2_with fail;have hbX:Below w.heap.size w X:=hbwXH.out;have hsX:=hbX.size;have hzX:Blk X w.heap.size [.string ⟨#[]⟩,.bool false,.slice none 0 0]:=hzXH.out;obtain⟨_,_,_,_,_,q8,_,_⟩:=(hwH.out.below hbX).cells;have hd:Below X.heap.size X X.drew:=⟨rfl,rfl,rfl,Nat.le_refl _,fun _ _=>rfl⟩;have hmX:=((hwH.out.below hbX).fl).below hd (by have:=hbX.size;omega);obtain⟨w6,hrun,hm6,ht6⟩:=hmX.store (t:=53) Tryz.underlying53 injL (by simp only[maxLen];omega) (x:=p) hp (⟨p,dg,vr⟩:Lk);have hrun:(Instr.mapUpdate 53 (.map (some (n+2))) (.string p) (.agg #[.string p,.string dg,.bool vr])).run Tryz.prog X.drew = .ok () w6:=hrun;have hg6:X.grownBy w6 (some (n+2)):=World.grownBy.trans ⟨hd.os,hd.tape,hd.output,hd.size,fun k hk _=>hd.block k hk⟩ ht6.grown;have hz6:Blk w6 w.heap.size [.string ⟨#[]⟩,.bool false,.slice none 0 0]:=hzX.keep (hg6.block _ (hzX.lt (by simp)) (by simp;omega));obtain⟨c0,f0⟩:=hz6 0 _ rfl;obtain⟨c1,f1⟩:=hz6 1 _ rfl;obtain⟨c2,f2⟩:=hz6 2 _ rfl;have hz2:=((hz6.set (k:=0) (by simp) (.string vp)).set (k:=1) (by simp) (.bool vr)).set (k:=2) (by simp) (.slice vA vn vc);obtain⟨d0,_⟩:=hz2 0 _ rfl;obtain⟨d1,_⟩:=hz2 1 _ rfl;obtain⟨d2,_⟩:=hz2 2 _ rfl;have hsB9:=hsBH.out;have m0:=hg6.cell y0 (by simp <;> omega);have m1:=hg6.cell y1 (by simp <;> omega);have m2:=hg6.cell y2 (by simp <;> omega);have hgF:w.grownBy (((w6.setCell ⟨w.heap.size,0,none⟩ (.string vp)).setCell ⟨w.heap.size,1,none⟩ (.bool vr)).setCell ⟨w.heap.size,2,none⟩ (.slice vA vn vc)) (some (n+2)):=by
     have hk:Kp (fun k=>k=n+2) w w6:=(Kp.of_below hbX).old (Kp.of_grown (S:=fun k=>k=n+2) hg6 fun k hk=>by injection hk with hk;exact hk.symm) fun i _ h=>h;have hk:=((hk.setCell (a:=⟨w.heap.size,0,none⟩) (.inl (Nat.le_refl _)) (.string vp)).setCell (a:=⟨w.heap.size,1,none⟩) (.inl (Nat.le_refl _)) (.bool vr)).setCell (a:=⟨w.heap.size,2,none⟩) (.inl (Nat.le_refl _)) (.slice vA vn vc);exact⟨hk.os,hk.tape,hk.output,hk.size,fun k hk' hne=>hk.block k hk' fun e=>hne (by rw[e])⟩
    have hmF:=((hm6.setCell (a:=⟨w.heap.size,0,none⟩) (by simp;omega) (.string vp)).setCell (a:=⟨w.heap.size,1,none⟩) (by simp;omega) (.bool vr)).setCell (a:=⟨w.heap.size,2,none⟩) (by simp;omega) (.slice vA vn vc);have hWF:=hwH.out.look hmF hgF;have hkF:Kp (WS n) w _:=Kp.of_grown hgF fun k hk=>by injection hk with hk;subst hk;exact .inr (.inl rfl)
    have R:=hZ'H.out (.returned (.tuple #[.agg #[.string vp,.bool vr,.slice vA vn vc],.bool true])) _ (by
     have e:=find_new (E:=E) (I:=I) hs0H.out hltH.out;refine⟨⟨vp,vr,vA,vn,vc⟩,true,_,rfl,?_,by rw[e];exact(by have h:=hWF;rw[hlookH.out];exact h),ite_le_succ _ cl,hkF⟩;rw[e]
     rcases hv2H.out with ⟨a,b,c⟩ | ⟨y,a,b,c⟩
     ·exact .inl ⟨b,(by first | rfl | exact a | cases a),c⟩
     ·exact .inr ⟨y,a,(by first | rfl | exact b | cases b),c.kp (hkF.ts T)⟩)
    clear hsX hd ht6 hsB9;obtain⟨hbXH,hzXH,hmXH,hm6H,hg6H,hz6H,hz2H,hgFH,hmFH,hWFH,hkFH,RH⟩:=hq2 hbX (hq2 hzX (hq2 hmX (hqc hm6 hg6 hz6 hz2 hgF hmF hWF hkF (Lib.hid R))));clear hbX hzX hmX hm6 hg6 hz6 hz2 hgF hmF hWF hkF R
    go_region
    go_wp2_with fail;exact bodyPost_ret (v:=.tuple #[.agg #[.string vp,.bool vr,.slice vA vn vc],.bool true]) (by simp[results,Tryz.results86,go_sem,d0,d1,d2]) rfl RH.out
  ·obtain⟨wC,hwC⟩:∃ Y,(wB.alloc (.cells #[.string vp,.bool vr,.slice vA vn vc] 58)).alloc (.cells #[.string la,.string lb,.bool lc] 38)=Y:=⟨_,rfl⟩;have hbCC:Below wB.heap.size wB wC:=by rw[← hwC];exact((Below.refl _ _).alloc (Nat.le_refl _) _).alloc (by simp) _
   have hz:Blk wC w.heap.size [.string ⟨#[]⟩,.bool false,.slice none 0 0]:=by
    have h:Blk (w.alloc (.cells #[.string ⟨#[]⟩,.bool false,.slice none 0 0] 58)) w.heap.size [.string ⟨#[]⟩,.bool false,.slice none 0 0]:=blk_new w [.string ⟨#[]⟩,.bool false,.slice none 0 0] _;have h:=blk_below h (by simp) ((Below.refl _ _).alloc (Nat.le_refl _) (.cells #[.string ⟨#[]⟩,.bool false,.slice none 0 0] 58));rw[hwBH.out]at h;exact blk_below h (by simp) hbCC
   obtain⟨c0,f0⟩:=hz 0 _ rfl;obtain⟨c1,f1⟩:=hz 1 _ rfl;obtain⟨c2,f2⟩:=hz 2 _ rfl;have hz2:=((hz.set (k:=0) (by simp) (.string vp)).set (k:=1) (by simp) (.bool vr)).set (k:=2) (by simp) (.slice vA vn vc);obtain⟨d0,_⟩:=hz2 0 _ rfl;obtain⟨d1,_⟩:=hz2 1 _ rfl;obtain⟨d2,_⟩:=hz2 2 _ rfl;have y0:wC.cell? ⟨wB.heap.size,0,none⟩=some (.string vp):=by rw[← hwC];exact(World.cell?_alloc_lt _ _ _ (by simp)).trans (cell_new _ _ _ 0)
   have y1:wC.cell? ⟨wB.heap.size,1,none⟩=some (.bool vr):=by rw[← hwC];exact(World.cell?_alloc_lt _ _ _ (by simp)).trans (cell_new _ _ _ 1)
   have y2:wC.cell? ⟨wB.heap.size,2,none⟩=some (.slice vA vn vc):=by rw[← hwC];exact(World.cell?_alloc_lt _ _ _ (by simp)).trans (cell_new _ _ _ 2)
   have hbF:Below w.heap.size w (((wC.setCell ⟨w.heap.size,0,none⟩ (.string vp)).setCell ⟨w.heap.size,1,none⟩ (.bool vr)).setCell ⟨w.heap.size,2,none⟩ (.slice vA vn vc)) :=
    (((hbBH.out.trans (hbCC.mono hbBH.out.size)).setCell (Nat.le_refl _) _).setCell (Nat.le_refl _) _).setCell (Nat.le_refl _) _
   have R:=hZ'H.out (.returned (.tuple #[.agg #[.string vp,.bool vr,.slice vA vn vc],.bool t])) _ (by
    have e:=find_in (E:=E) (I:=I) hs0H.out hltH.out;refine⟨⟨vp,vr,vA,vn,vc⟩,t,cl,rfl,?_,by rw[e];exact hwH.out.below hbF,by omega,Kp.of_below hbF⟩;rw[e]
    rcases hv2H.out with ⟨a,b,c⟩ | ⟨y,a,b,c⟩
    ·exact .inl ⟨b,a,c⟩
    ·exact .inr ⟨y,a,b,c.kp (Kp.of_below hbF)⟩)
   subst hwC;obtain⟨hbCCH,hzH,hz2H,hbFH,RH⟩:=hqb hbCC hz hz2 hbF (Lib.hid R);clear hbCC hz hz2 hbF R;go_wp2_with fail;exact bodyPost_ret (v:=.tuple #[.agg #[.string vp,.bool vr,.slice vA vn vc],.bool t]) (by simp[results,Tryz.results86,go_sem,d0,d1,d2]) rfl RH.out
 ·have hl1:=(lookF hg1 hp v true (.inl ⟨rfl,hgv⟩)).1;obtain⟨vp,vr,vA,vn,vc⟩:=v;simp only at hl1;have R:∀ o1 o2,Z (.returned (.tuple #[.agg #[.string vp,.bool vr,.slice vA vn vc],.bool true])) ((w.alloc o1).alloc o2):=fun o1 o2=>hZ' _ _ ⟨⟨vp,vr,vA,vn,vc⟩,true,cl,rfl,.inr ⟨y,by rw[find_wr hsy],rfl,hfy.kp (Kp.of_below (B2 o1 o2))⟩,by rw[find_wr hsy];exact hw.below (B2 o1 o2),by omega,Kp.of_below (B2 o1 o2)⟩;obtain⟨hZ'H,h1H,hfH,hf2H,hgH,hg2H,hwH,hgvH,hsyH,hfyH,hg1H,RH,B2H⟩:=hqb hZ' h1 hf hf2 (hqc hg hg2 hw hgv hsy hfy hg1 R (Lib.hid B2));clear hZ' h1 hf hf2 hg hg2 hw hgv hsy hfy hg1 R B2;go_enter Tryz.func86,Tryz.ntmps86;go_wp2_with fail;exact bodyPost_ret (v:=.tuple #[.agg #[.string vp,.bool vr,.slice vA vn vc],.bool true]) (by simp[results,Tryz.results86,go_sem]) rfl (RH.out _ _)
def ReadAns (E:EP) (W0:World) (n T:Nat) (x:Action) (I:Inp) (p:ByteArray) (s:ES) (cl:Nat) (w:World) (e:Ending) (w':World):Prop :=
 ∃ A m c cl',e = .returned (.tuple #[.slice A m c,.int .i64 (readM E p I s).1.2])∧Bts (TS n T) w' A m c (readM E p I s).1.1∧(readM E p I s).1.1.length≤100000∧((readM E p I s).1.2=0∨(readM E p I s).1.2=2) ∧
  WA W0 n T x I (readM E p I s).2 cl' w'∧cl'≤cl+1∧Kp (WS n) w w'
theorem read_any (E:EP) (hd:E.dg=digF) (W0:World) (n T:Nat) (x:Action) (I:Inp) (p:ByteArray) (hp:p.size≤maxLen) (s:ES) (cl:Nat) (hcl:cl≤1000000) (w:World) (hw:WA W0 n T x I s cl w) :
  Calls Tryz.prog 59 #[.pointer (some ⟨n+3,0,none⟩),.string p] w (ReadAns E W0 n T x I p s cl w):=by
 obtain⟨Z,hZ⟩:∃ Z,ReadAns E W0 n T x I p s cl w=Z:=⟨_,rfl⟩;have hZ':∀ e W,ReadAns E W0 n T x I p s cl w e W→Z e W:=fun e W h=>by rw[← hZ];exact h
 rw[hZ];clear hZ;obtain⟨hZ'H,hwH⟩:=hq2 hZ' (Lib.hid hw);clear hZ' hw;go_enter Tryz.func59,Tryz.ntmps59;go_wp2_with fail;refine(find_any E hd W0 n T x I p hp s cl hcl w hwH.out).mono ?_;rintro e w1 ⟨⟨vp,vr,vA,vn,vc⟩,b,cl',rfl,hr,hA,hcl',hk⟩;have hbF:=(Below.refl w1.heap.size w1).alloc (Nat.le_refl _) (.cells #[.string vp,.bool vr,.slice vA vn vc] 58);have hA2:=hA.below hbF;have hk2:=hk.trans (Kp.of_below (S:=WS n) hbF);unfold valF
 rcases hr with ⟨h1,rfl,h3⟩ | ⟨y,h1,rfl,h3⟩
 ·have e1:readM E p I s=(([],2),(findM E p I s).2):=by unfold readM EM.bind;rw[h1];rfl
  have R:=hZ'H.out (.returned (.tuple #[.slice none 0 0,.int .i64 2])) _ ⟨none,0,0,cl',by rw[e1],by rw[e1];exact Bts.nil _ _,by rw[e1];exact Nat.zero_le _,by rw[e1];exact .inr rfl,by rw[e1];exact hA2,hcl',hk2⟩;clear h1 h3 e1;obtain⟨hAH,hkH,hbFH,hA2H,hk2H,RH⟩:=hq2 hA (hqb hk hbF hA2 hk2 (Lib.hid R));clear hA hk hbF hA2 hk2 R;go_wp2_with fail;exact RH.out
 ·have e1:readM E p I s=((y.bs,0),(findM E p I s).2):=by unfold readM EM.bind;rw[h1];rfl
  have R:=hZ'H.out (.returned (.tuple #[.slice vA vn vc,.int .i64 0])) _ ⟨vA,vn,vc,cl',by rw[e1],by rw[e1];exact h3.bts.kp (Kp.of_below hbF),by rw[e1];exact h3.len,by rw[e1];exact .inl rfl,by rw[e1];exact hA2,hcl',hk2⟩;clear h1 h3 e1;obtain⟨hAH,hkH,hbFH,hA2H,hk2H,RH⟩:=hq2 hA (hqb hk hbF hA2 hk2 (Lib.hid R));clear hA hk hbF hA2 hk2 R;go_wp2_with fail;exact RH.out
end Go.Proofs.YtdiaabeollcjaaaGreatDoor.C10