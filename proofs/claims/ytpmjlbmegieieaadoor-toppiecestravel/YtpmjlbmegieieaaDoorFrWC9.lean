/-
  checkPieces, Fresh and Shared of the program.
-/
import Derived.Test.YtpmjlbmegieieaaDoorCiWC9
import Derived.Test.YtpmjlbmegieieaaDoorMap
import Derived.Test.YtpmjlbmegieieaaDoorRange
import Derived.Laws.IdiomStrings
namespace Go.Proofs.YtpmjlbmegieieaaDoor.C9
open Go.ChangeShapes Go.WideShapes Go.Deep Go.RowKit Go.Maps
set_option linter.unusedVariables false

noncomputable def KP : KD Tryd.prog 9 ByteArray := KStr Tryd.underlying9
def vB (b : Bool) : Value := .bool b
theorem injV : InjV vB := fun _ _ h => by injection h
def bsU (l : List UInt8) : ByteArray := ⟨l.toArray⟩
theorem bsU_data (l : List UInt8) : (bsU l).data.toList = l := by simp [bsU]
theorem bsU_size (l : List UInt8) : (bsU l).size = l.length := by simp [bsU, ByteArray.size]
def setF (hs : List (List UInt8)) (s : ByteArray) : Option Bool := if s.data.toList ∈ hs then some true else none
theorem setF_upd (hs : List (List UInt8)) (l : List UInt8) : upd (setF hs) (bsU l) true = setF (l :: hs) := by
  funext s
  unfold upd setF
  by_cases h : s = bsU l
  · subst h
    rw [if_pos rfl, bsU_data, if_pos List.mem_cons_self]
  · rw [if_neg h]
    have : s.data.toList ≠ l := fun e => h (by obtain ⟨⟨q⟩⟩ := s; simp only at e; subst e; rfl)
    by_cases hm : s.data.toList ∈ hs
    · rw [if_pos hm, if_pos (List.mem_cons_of_mem _ hm)]
    · rw [if_neg hm, if_neg (by rw [List.mem_cons]; rintro (e | e); exact this e; exact hm e)]
theorem look_P {w : World} {b c : Nat} {hs : List (List UInt8)} (h : TMap KP vB w b (setF hs) c) (l : List UInt8) (hl : l.length ≤ maxLen) (r : Bool) (hr : decide (l ∈ hs) = r) :
    (Instr.lookup 47 (.map (some b)) (.string (bsU l)) false).run Tryd.prog w = .ok (.bool r) w := by
  have := (h.look (x := bsU l) (t := 47) (z0 := false) Tryd.underlying47 (by kernel_rfl) injV (by show (bsU l).size ≤ maxLen; rw [bsU_size]; exact hl)).1
  have e : (setF hs (bsU l)).getD false = r := by
    rw [← hr]
    unfold setF
    rw [bsU_data]
    by_cases hm : l ∈ hs
    · rw [if_pos hm, decide_eq_true hm]; rfl
    · rw [if_neg hm, decide_eq_false hm]; rfl
  rw [e] at this
  exact this
theorem conv_row {w : World} {b off n : Nat} {l : List UInt8} (c : Nat) (h : SlAt RU8 w (some ⟨b, off, none⟩) n l) : (convert 22 9 (.slice (some ⟨b, off, none⟩) n c)).run Tryd.prog w = .ok (.string (bsU l)) w := by
  have := run_convert_bytes_back (P := Tryd.prog) w 22 9 5 ⟨b, off, none⟩ c l Tryd.underlying22 Tryd.underlying5 Tryd.underlying9 (fun j hj => by
    rw [Addr.add_lit]
    exact cell_U8 h (List.getElem?_eq_getElem hj))
  rw [h.1] at this
  exact this
theorem flat_take_le : ∀ (k : Nat) (L : List (List UInt8)), (L.take k).flatten.length ≤ L.flatten.length
  | 0, L => by simp
  | k + 1, [] => by simp
  | k + 1, x :: r => by rw [List.take_succ_cons, List.flatten_cons, List.flatten_cons, List.length_append, List.length_append]; have := flat_take_le k r; omega
theorem flat_step {L : List (List UInt8)} {k : Nat} {x : List UInt8} (h : L[k]? = some x) : (L.take (k + 1)).flatten.length = (L.take k).flatten.length + x.length := by
  rw [List.take_add_one, h, Option.toList, List.flatten_append, List.length_append]; simp
theorem flat_len (L : List (List UInt8)) (h : ∀ x ∈ L, 1 ≤ x.length) : L.length ≤ L.flatten.length := by
  induction L with
  | nil => simp
  | cons x r ih =>
    rw [List.flatten_cons, List.length_append, List.length_cons]
    have := h x List.mem_cons_self
    have := ih (fun y hy => h y (List.mem_cons_of_mem _ hy))
    omega

set_option maxHeartbeats 1000000 in
theorem checkPieces_ok (A : Option Addr) (n c : Nat) (L : List (SlD UInt8)) (w : World) (hL : SlAt (RSl RU8) w A n L) (h1 : L.length ≤ 20000) (h2 : (rows L).flatten.length ≤ 2000000) :
    Calls Tryd.prog 15 #[.slice A n c] w fun e w' => e = .returned (.int .i64 0) ∧ w = w' := by
  have hll := hL.1
  have hn9 : n ≤ 20000 := by omega
  have hLH := Lib.hid hL
  clear hL
  have hllH := Lib.hid hll
  clear hll
  go_enter Tryd.func15, Tryd.ntmps15
  go_wp2_with fail
  go_loop [3, 8] (fun s i => ∃ k : Nat, k ≤ n ∧ i = .int .i64 k ∧ s = .int .i64 (((rows L).take k).flatten.length : Nat)) (fun _ i => n - (intOf i).toNat)
  case atStart => exact ⟨0, Nat.zero_le _, rfl, rfl⟩
  case round =>
    obtain ⟨k, hk, rfl, rfl⟩ := hrel
    have hfl := flat_take_le k (rows L)
    obtain ⟨s, hs⟩ : ∃ s, ((rows L).take k).flatten.length = s := ⟨_, rfl⟩
    rw [hs] at hfl ⊢
    by_cases hlt : k < n
    · obtain ⟨b, off, rfl, _⟩ := hLH.out.2.1 (by omega)
      obtain ⟨x, hx⟩ : ∃ x, L[k]? = some x := ⟨L[k]'(by have := hllH.out; omega), List.getElem?_eq_getElem _⟩
      have c0 := cell_Row hLH.out hx
      have hxn : x.l.length = x.n := (hLH.out.2.2 x (List.mem_of_getElem? hx)).1.1
      have hfs := flat_step (rows_get hx)
      have hfl2 := flat_take_le (k + 1) (rows L)
      rw [hs, hxn] at hfs
      have hsx : s + x.n ≤ 2000000 := by omega
      have hst : ((rows L).take (k + 1)).flatten.length = s + x.n := hfs
      have hsH := Lib.hid hs
      clear hs
      have hxH := Lib.hid hx
      clear hx
      have hfsH := Lib.hid hfs
      clear hfs
      have hfl2H := Lib.hid hfl2
      clear hfl2
      have hxnH := Lib.hid hxn
      clear hxn
      have hstH := Lib.hid hst
      clear hst
      go_wp2
      refine ⟨⟨k + 1, by omega, by go_num, by rw [hstH.out]; go_num⟩, by simp [intOf]; omega⟩
    · have hkn : k = n := by omega
      subst hkn
      have hn2 : ¬ (20000 : Int) < (k : Int) := by have := hllH.out; omega
      have hs2 : ¬ (2000000 : Int) < (s : Int) := by omega
      have hsH := Lib.hid hs
      clear hs
      go_wp2
      go_ret
      exact ⟨rfl, rfl⟩
def FrRel (xs ys : List (List UInt8)) (w0 : World) (B K : Nat) (o s i : Value) (wr : World) : Prop :=
  ∃ (k : Nat) (hs : List (List UInt8)) (out : List Nat) (sum cm : Nat), k ≤ ys.length ∧ i = .int .i64 k ∧ s = .int .i64 sum ∧ Own RInt 3 wr (B + 1) o (natI out) ∧
    TMap KP vB wr B (setF hs) cm ∧ cm ≤ K + k ∧ out.length ≤ k ∧ sum + (ys.drop k).flatten.length ≤ ys.flatten.length ∧
    frF xs 0 ys = (out ++ (frF hs k (ys.drop k)).1, sum + (frF hs k (ys.drop k)).2) ∧ Below w0.heap.size w0 wr ∧ B < wr.heap.size
def FrAns (R : List Nat × Nat) (w0 : World) (e : Ending) (w' : World) : Prop :=
  ∃ (A : Option Addr) (n c : Nat), e = .returned (.tuple #[.slice A n c, .int .i64 (R.2 : Nat), .int .i64 0]) ∧ SlAt RInt w' A n (natI R.1) ∧ Below w0.heap.size w0 w'
def MpRel (xs : List (List UInt8)) (w0 : World) (B : Nat) (i : Value) (wr : World) : Prop :=
  ∃ (k cm : Nat) (hs : List (List UInt8)), k ≤ xs.length ∧ i = .int .i64 k ∧ TMap KP vB wr B (setF hs) cm ∧ cm ≤ k ∧ (∀ c, c ∈ hs ↔ c ∈ xs.take k) ∧ Below w0.heap.size w0 wr ∧ B < wr.heap.size
theorem mem_take_step {xs : List (List UInt8)} {k : Nat} {x : List UInt8} {hs : List (List UInt8)} (hx : xs[k]? = some x) (h : ∀ c, c ∈ hs ↔ c ∈ xs.take k) : ∀ c, c ∈ x :: hs ↔ c ∈ xs.take (k + 1) := fun c => by
  rw [List.take_add_one, hx, Option.toList, List.mem_cons, List.mem_append, List.mem_singleton, h c]
  exact ⟨fun e => e.elim .inr .inl, fun e => e.elim .inr .inl⟩
theorem frF_congr : ∀ (r hs hs2 : List (List UInt8)) (i : Nat), (∀ c, c ∈ hs ↔ c ∈ hs2) → frF hs i r = frF hs2 i r
  | [], hs, hs2, i, h => rfl
  | c :: r, hs, hs2, i, h => by
    rw [frF, frF]
    by_cases hc : c ∈ hs
    · rw [if_pos hc, if_pos ((h c).1 hc), frF_congr r hs hs2 (i + 1) h]
    · rw [if_neg hc, if_neg (fun e => hc ((h c).2 e)), frF_congr r (c :: hs) (c :: hs2) (i + 1) (fun d => by rw [List.mem_cons, List.mem_cons, h d])]
set_option maxRecDepth 100000 in
set_option maxHeartbeats 8000000 in
theorem fresh_any (A1 : Option Addr) (n1 c1 : Nat) (L1 : List (SlD UInt8)) (A2 : Option Addr) (n2 c2 : Nat) (L2 : List (SlD UInt8)) (w : World) (h1 : SlAt (RSl RU8) w A1 n1 L1) (h2 : SlAt (RSl RU8) w A2 n2 L2)
    (k1 : L1.length ≤ 20000) (k2 : L2.length ≤ 20000) (f1 : (rows L1).flatten.length ≤ 2000000) (f2 : (rows L2).flatten.length ≤ 2000000) (p1 : ∀ x ∈ rows L1, 1 ≤ x.length) (p2 : ∀ x ∈ rows L2, 1 ≤ x.length) (R : List Nat × Nat) (hR : frF (rows L1) 0 (rows L2) = R) :
    Calls Tryd.prog 7 #[.slice A1 n1 c1, .slice A2 n2 c2] w (FrAns R w) := by
  have hl1 := h1.1
  have hl2 := h2.1
  have hmm := @run_makeMap Tryd.prog
  have h1H := Lib.hid h1
  clear h1
  have h2H := Lib.hid h2
  clear h2
  have hl1H := Lib.hid hl1
  clear hl1
  have hl2H := Lib.hid hl2
  clear hl2
  have p1H := Lib.hid p1
  clear p1
  have p2H := Lib.hid p2
  clear p2
  have hRH := Lib.hid hR
  clear hR
  go_enter Tryd.func7, Tryd.ntmps7
  go_wp2_with fail
  refine (checkPieces_ok A1 n1 c1 L1 _ h1H.out k1 f1).mono ?_
  rintro e w1 ⟨rfl, rfl⟩
  go_wp2_with fail
  refine (checkPieces_ok A2 n2 c2 L2 _ h2H.out k2 f2).mono ?_
  rintro e w1 ⟨rfl, rfl⟩
  go_wp2_with fail
  go_loopw [29] (fun i wr => MpRel (rows L1) w w.heap.size i wr) (fun i _ => n1 - (intOf i).toNat)
  case atStart => exact ⟨0, 0, [], Nat.zero_le _, rfl, TMap.made _ _ _, Nat.le_refl _, fun c => by simp, allocBelP _ _, by simp⟩
  case round =>
    obtain ⟨k, cm, hs, hk, rfl, hmap, hcm, hhs, hb, hB⟩ := hrel
    have hkn : k ≤ n1 := by rw [rows_len] at hk; have := hl1H.out; omega
    by_cases hlt : k < n1
    · obtain ⟨b, off, rfl, _⟩ := h1H.out.2.1 (by omega)
      obtain ⟨x, hx⟩ : ∃ x, L1[k]? = some x := ⟨L1[k]'(by have := hl1H.out; omega), List.getElem?_eq_getElem _⟩
      have hb1 := h1H.out.below hb
      have c0 := cell_Row hb1 hx
      have hok := hb1.2.2 x (List.mem_of_getElem? hx)
      have hx1 := p1H.out x.l (List.mem_of_getElem? (rows_get hx))
      have hxz : x.l.length ≤ 2000000 := by have := flat_step (rows_get hx); have := flat_take_le (k + 1) (rows L1); omega
      obtain ⟨b2, o2, hA2, _⟩ := hok.1.2.1 (by have := hok.1.1; omega)
      have hms := mem_take_step (rows_get hx) hhs
      have hkr : k + 1 ≤ (rows L1).length := by rw [rows_len]; have := hl1H.out; omega
      obtain ⟨xA, xn, xc, xl⟩ := x
      simp only at hA2 c0 hok hx1 hxz hms
      subst hA2
      have hcv := conv_row xc hok.1
      have hgd : KP.good (bsU xl) := by show (bsU xl).size ≤ maxLen; rw [bsU_size]; unfold maxLen; omega
      have hk20 : k ≤ 20000 := by have := hl1H.out; omega
      have hxH := Lib.hid hx
      clear hx
      have hbH := Lib.hid hb
      clear hb
      have hb1H := Lib.hid hb1
      clear hb1
      have hokH := Lib.hid hok
      clear hok
      have hmapH := Lib.hid hmap
      clear hmap
      have hhsH := Lib.hid hhs
      clear hhs
      have hmsH := Lib.hid hms
      clear hms
      have hgdH := Lib.hid hgd
      clear hgd
      have hx1H := Lib.hid hx1
      clear hx1
      have hxzH := Lib.hid hxz
      clear hxz
      have hBH := Lib.hid hB
      clear hB
      have hkrH := Lib.hid hkr
      clear hkr
      go_wp2_with (at_mapUpdate; go_loud (refine wpList_tstore rfl (.tmp 33) (.tmp 35) (.const (.bool true)) 47 rfl Tryd.underlying47 injV rfl hmapH.out (by simp only [maxLen]; omega) (bsU xl) rfl hgdH.out true rfl ?_); intro w6 hm6 hg6)
      rw [setF_upd] at hm6
      have R1 : MpRel (rows L1) w w.heap.size (.int .i64 ((k : Int) + 1)) w6 := ⟨k + 1, _, _, hkrH.out, by go_num, hm6, Nat.le_trans (ite_le_succ _ cm) (by omega), hmsH.out, hbH.out.trans (grown_below hg6 (Nat.le_refl _) hbH.out.size), by have := hg6.size; have := hBH.out; omega⟩
      clear hm6 hg6
      have R1H := Lib.hid R1
      clear R1
      go_wp2
      refine ⟨?rel, ?measure⟩
      case measure => (simp [intOf]; omega)
      case rel => first | exact R1H.out | exact ⟨rfl, R1H.out⟩ | ((try refine ⟨rfl, ?_⟩); (repeat apply Exists.intro); refine ⟨R1H.out, ?_⟩; ((repeat' apply And.intro) <;> rfl))
    · have hkn2 : k = n1 := by omega
      subst hkn2
      have hall : ∀ c, c ∈ hs ↔ c ∈ rows L1 := fun c => by rw [hhs c, List.take_of_length_le (by rw [rows_len]; have := hl1H.out; omega)]
      have hn29 : n2 ≤ 20000 := by have := hl2H.out; omega
      have hk19 : k ≤ 20000 := by have := hl1H.out; omega
      have hwl : w.heap.size ≤ w.heap.size := Nat.le_refl _
      have hstart : frF (rows L1) 0 (rows L2) = (([] : List Nat) ++ (frF hs 0 ((rows L2).drop 0)).1, 0 + (frF hs 0 ((rows L2).drop 0)).2) := by
        rw [List.drop_zero, List.nil_append, Nat.zero_add]
        exact (frF_congr _ _ _ _ hall).symm
      have hRs := fr_len (rows L2) (rows L1) 0
      have hmapH := Lib.hid hmap
      clear hmap
      have hhsH := Lib.hid hhs
      clear hhs
      have hbH := Lib.hid hb
      clear hb
      have hBH := Lib.hid hB
      clear hB
      have hallH := Lib.hid hall
      clear hall
      have hstartH := Lib.hid hstart
      clear hstart
      have hRsH := Lib.hid hRs
      clear hRs
      go_wp2_with fail
      go_loopw [12, 13, 39] (fun o s i wr => FrRel (rows L1) (rows L2) w w.heap.size k o s i wr) (fun _ _ i _ => n2 - (intOf i).toNat)
      case atStart => exact ⟨0, hs, [], 0, cm, Nat.zero_le _, rfl, rfl, Own.nil _ _, hmapH.out, hcm, Nat.le_refl _, by simp, hstartH.out, hbH.out, hBH.out⟩
      case round =>
        clear hcm hmapH hstartH hbH hBH hhsH hallH
        obtain ⟨j, hs, out, sum, cm, hj, rfl, rfl, hown, hmap, hcm, hol, hsm, hfr, hb, hB⟩ := hrel
        have hjn : j ≤ n2 := by rw [rows_len] at hj; have := hl2H.out; omega
        obtain ⟨Ao, co, ho⟩ := hown.form
        rw [natI_len] at ho
        subst ho
        by_cases hlt : j < n2
        · obtain ⟨b, off, rfl, _⟩ := h2H.out.2.1 (by omega)
          obtain ⟨x, hx⟩ : ∃ x, L2[j]? = some x := ⟨L2[j]'(by have := hl2H.out; omega), List.getElem?_eq_getElem _⟩
          have hb2 := h2H.out.below hb
          have c0 := cell_Row hb2 hx
          have hok := hb2.2.2 x (List.mem_of_getElem? hx)
          have hx1 := p2H.out x.l (List.mem_of_getElem? (rows_get hx))
          have hdr := drop_cons (rows_get hx)
          rw [hdr, List.flatten_cons, List.length_append] at hsm
          rw [hdr, frF] at hfr
          have hxz : x.l.length ≤ 2000000 := by omega
          obtain ⟨b2, o2, hA2, _⟩ := hok.1.2.1 (by have := hok.1.1; omega)
          have hkr : j + 1 ≤ (rows L2).length := by rw [rows_len]; have := hl2H.out; omega
          obtain ⟨xA, xn, xc, xl⟩ := x
          simp only at hA2 c0 hok hx1 hxz hsm hfr
          subst hA2
          have hxn : xl.length = xn := hok.1.1
          have hcv := conv_row xc hok.1
          have hgd : KP.good (bsU xl) := by show (bsU xl).size ≤ maxLen; rw [bsU_size]; unfold maxLen; omega
          have hsn : sum + xn ≤ 2000000 := by omega
          obtain ⟨r, hr⟩ : ∃ r, decide (xl ∈ hs) = r := ⟨_, rfl⟩
          have hlk := look_P hmap xl (by unfold maxLen; omega) r hr
          cases r
          · have hni := of_decide_eq_false hr
            rw [if_neg hni] at hfr
            have hxH := Lib.hid hx
            clear hx
            have hbH := Lib.hid hb
            clear hb
            have hb2H := Lib.hid hb2
            clear hb2
            have hokH := Lib.hid hok
            clear hok
            have hmapH := Lib.hid hmap
            clear hmap
            have hgdH := Lib.hid hgd
            clear hgd
            have hx1H := Lib.hid hx1
            clear hx1
            have hxzH := Lib.hid hxz
            clear hxz
            have hBH := Lib.hid hB
            clear hB
            have hkrH := Lib.hid hkr
            clear hkr
            have hownH := Lib.hid hown
            clear hown
            have holH := Lib.hid hol
            clear hol
            have hsmH := Lib.hid hsm
            clear hsm
            have hfrH := Lib.hid hfr
            clear hfr
            have hdrH := Lib.hid hdr
            clear hdr
            have hxnH := Lib.hid hxn
            clear hxn
            have hrH := Lib.hid hr
            clear hr
            have hniH := Lib.hid hni
            clear hni
            go_wp2_with (first | (at_mapUpdate; (refine wpList_tstore rfl (.tmp 49) (.tmp 51) (.const (.bool true)) 47 rfl Tryd.underlying47 injV rfl hmapH.out (by simp only [maxLen]; omega) (bsU xl) rfl hgdH.out true rfl ?_); intro w6 hm6 hg6; rw [setF_upd] at hm6; have hown6 := hownH.out.kept hg6 (.inr (by intro e; have := (hownH.out.1.lt w.heap.size e).1; omega)) (fun _ _ h => h); have hb6 := hbH.out.trans (grown_below hg6 (Nat.le_refl _) hbH.out.size); have hB6 : w.heap.size < w6.heap.size := by { have := hg6.size; have := hBH.out; omega }; clear hg6 hcv hlk; have hm6H := Lib.hid hm6; clear hm6; have hown6H := Lib.hid hown6; clear hown6; have hb6H := Lib.hid hb6; clear hb6; have hB6H := Lib.hid hB6; clear hB6) | (at_builtin; go_loud (refine wpList_app rfl (.tmp 52) (.tmp 54) 23 rfl Tryd.underlying23 elem_IntP (by decide) rfl (hown6H.out.alloc _) (some ⟨w6.heap.size, 0, none⟩) 1 1 [(j : Int)] rfl ?d1 ?d2 (fun _ _ _ _ h => h) ?d3 ?d4 ?d5 (out.length + 1) ?d6 ?_)))
            case d1 => exact slAt_new w6 3 (R := RInt) (j : Int) ⟨by omega, by omega⟩
            case d3 => rw [natI_len]; have := holH.out; unfold maxLen; omega
            case d4 => rw [natI_len]; have := holH.out; omega
            case d5 => have := hB6H.out; simp; omega
            case d6 => rw [natI_len]
            intro A5 c5 w5 hown5 hg5 hat5 hb5
            have hm5 := (hm6H.out.alloc (.cells #[.int .i64 (j : Int)] 3)).kept hg5 (by intro e; have := (hown6H.out.1.lt w.heap.size e.symm).1; omega)
            have R1 : FrRel (rows L1) (rows L2) w w.heap.size k (.slice A5 (out.length + 1) c5) (.int .i64 ((sum : Int) + (xn : Int))) (.int .i64 ((j : Int) + 1)) w5 := by
              have hfr := hfrH.out
              have hsm := hsmH.out
              have hxn := hxnH.out
              refine ⟨j + 1, xl :: hs, out ++ [j], sum + xn, _, hkrH.out, by go_num, by go_num, ?_, hm5, Nat.le_trans (ite_le_succ _ cm) (by omega), ?_, ?_, ?_, (hb6H.out.alloc hb6H.out.size _).trans (hb5.mono (by omega)), by have := hg5.size; have := hB6H.out; simp at *; omega⟩
              · rw [natI_snoc]; exact hown5
              · have := holH.out; rw [List.length_append, List.length_singleton]; omega
              · omega
              · rw [hfr, List.append_assoc, hxn, Nat.add_assoc]; rfl
            clear hown5 hg5 hat5 hb5 hm5
            have R1H := Lib.hid R1
            clear R1
            go_wp2
            refine ⟨?rel, ?measure⟩
            case measure => (simp [intOf]; omega)
            case rel => first | exact R1H.out | exact ⟨rfl, R1H.out⟩ | ((try refine ⟨rfl, ?_⟩); (repeat apply Exists.intro); refine ⟨R1H.out, ?_⟩; ((repeat' apply And.intro) <;> rfl))
          · have hin := of_decide_eq_true hr
            rw [if_pos hin] at hfr
            have R1 : FrRel (rows L1) (rows L2) w w.heap.size k (.slice Ao out.length co) (.int .i64 (sum : Int)) (.int .i64 ((j : Int) + 1)) wr := ⟨j + 1, hs, out, sum, cm, hkr, by go_num, rfl, hown, hmap, by omega, by omega, by omega, hfr, hb, hB⟩
            have hxH := Lib.hid hx
            clear hx
            have hbH := Lib.hid hb
            clear hb
            have hb2H := Lib.hid hb2
            clear hb2
            have hokH := Lib.hid hok
            clear hok
            have hmapH := Lib.hid hmap
            clear hmap
            have hgdH := Lib.hid hgd
            clear hgd
            have hx1H := Lib.hid hx1
            clear hx1
            have hxzH := Lib.hid hxz
            clear hxz
            have hBH := Lib.hid hB
            clear hB
            have hkrH := Lib.hid hkr
            clear hkr
            have hownH := Lib.hid hown
            clear hown
            have holH := Lib.hid hol
            clear hol
            have hsmH := Lib.hid hsm
            clear hsm
            have hfrH := Lib.hid hfr
            clear hfr
            have hdrH := Lib.hid hdr
            clear hdr
            have hxnH := Lib.hid hxn
            clear hxn
            have hrH := Lib.hid hr
            clear hr
            have hinH := Lib.hid hin
            clear hin
            have R1H := Lib.hid R1
            clear R1
            go_wp2
            refine ⟨?rel, ?measure⟩
            case measure => (simp [intOf]; omega)
            case rel => first | exact R1H.out | exact ⟨rfl, R1H.out⟩ | ((try refine ⟨rfl, ?_⟩); (repeat apply Exists.intro); refine ⟨R1H.out, ?_⟩; ((repeat' apply And.intro) <;> rfl))
        · have hjn2 : j = n2 := by omega
          subst hjn2
          have hd : (rows L2).drop j = [] := List.drop_eq_nil_of_le (by rw [rows_len]; have := hl2H.out; omega)
          rw [hd, frF, List.append_nil, Nat.add_zero, hRH.out] at hfr
          subst hfr
          have hownH := Lib.hid hown
          clear hown
          have hmapH := Lib.hid hmap
          clear hmap
          have hsmH := Lib.hid hsm
          clear hsm
          have hbH := Lib.hid hb
          clear hb
          have hBH := Lib.hid hB
          clear hB
          have hdH := Lib.hid hd
          clear hd
          go_wp2
          go_ret3
          exact ⟨Ao, out.length, co, rfl, hownH.out.slAt, hbH.out⟩
end Go.Proofs.YtpmjlbmegieieaaDoor.C9
