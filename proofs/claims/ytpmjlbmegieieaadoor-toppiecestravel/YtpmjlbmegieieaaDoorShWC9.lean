/-
  Shared of the program.
-/
import Derived.Test.YtpmjlbmegieieaaDoorFrWC9
namespace Go.Proofs.YtpmjlbmegieieaaDoor.C9
open Go.ChangeShapes Go.WideShapes Go.Deep Go.RowKit Go.Maps
set_option linter.unusedVariables false

theorem shF_congr : ∀ (r hs hs2 : List (List UInt8)), (∀ c, c ∈ hs ↔ c ∈ hs2) → shF hs r = shF hs2 r
  | [], hs, hs2, h => rfl
  | c :: r, hs, hs2, h => by
    rw [shF, shF, shF_congr r hs hs2 h]
    by_cases hc : c ∈ hs
    · rw [if_pos hc, if_pos ((h c).1 hc)]
    · rw [if_neg hc, if_neg (fun e => hc ((h c).2 e))]
theorem shF_le : ∀ (r hs : List (List UInt8)), shF hs r ≤ r.flatten.length
  | [], hs => by simp [shF]
  | c :: r, hs => by
    rw [shF, List.flatten_cons, List.length_append]
    have := shF_le r hs
    split <;> omega
/-- what is left of a row of bytes behind its first pieces -/
def RestOk (l : List UInt8) (ns : List Nat) (k K : Nat) (v : Value) (w : World) : Prop := ∃ A n c, v = .slice A n c ∧ (RSl RU8).ok w ⟨A, n, c, l.drop (ns.take k).sum⟩ ∧ FarB8 K ⟨A, n, c, []⟩
theorem RestOk.below {l : List UInt8} {ns : List Nat} {k K : Nat} {v : Value} {w w' : World} (h : RestOk l ns k K v w) (hb : Below w.heap.size w w') : RestOk l ns k K v w' := by
  obtain ⟨A, n, c, hv, hok, hf⟩ := h
  exact ⟨A, n, c, hv, (RSl RU8).mono _ _ _ hb hok, hf⟩
theorem RestOk.grown {l : List UInt8} {ns : List Nat} {k K : Nat} {v : Value} {w w' : World} (h : RestOk l ns k K v w) (hg : w.grownBy w' (some K)) : RestOk l ns k K v w' := by
  obtain ⟨A, n, c, hv, hok, hf⟩ := h
  exact ⟨A, n, c, hv, rsl_grown (B := K) hg hok hf (fun q hq => by injection hq with hq; omega), hf⟩
theorem restOk_next {l : List UInt8} {ns : List Nat} {k n n1 c1 b off K : Nat} {w : World} (hn : ns[k]? = some n) (hok : (RSl RU8).ok w ⟨some ⟨b, off, none⟩, n1, c1, l.drop (ns.take k).sum⟩) (hle : n ≤ n1) (hb : b < K)
    (A2 : Option Addr) (h2 : c1 = n ∨ A2 = some ⟨b, off + n, none⟩) (h3 : A2 = none → c1 - n = 0) : RestOk l ns (k + 1) K (.slice A2 (n1 - n) (c1 - n)) w := by
  refine ⟨A2, n1 - n, c1 - n, rfl, ⟨?_, ?_, ?_, h3⟩, ?_⟩
  · have hd : l.drop (ns.take (k + 1)).sum = (l.drop (ns.take k).sum).drop n := by rw [List.drop_drop, sum_step hn]
    have hl1 : (l.drop (ns.take k).sum).length = n1 := hok.1.1
    have hc1 : n1 ≤ c1 := hok.2.1
    rcases h2 with h2 | rfl
    · have e0 : n1 - n = 0 := by omega
      have e1 : l.drop (ns.take (k + 1)).sum = [] := by
        rw [hd]
        exact List.drop_eq_nil_of_le (by omega)
      show SlAt RU8 w A2 (n1 - n) (l.drop (ns.take (k + 1)).sum)
      rw [e1, e0]
      exact slAt_zero hok.1
    · have := slAt_part hok.1 n (n1 - n) (by show n + (n1 - n) ≤ n1; omega) rfl
      rw [← hd, List.take_of_length_le (by rw [hd, List.length_drop]; omega)] at this
      exact this
  · have hc1 : n1 ≤ c1 := hok.2.1
    show n1 - n ≤ c1 - n
    omega
  · have hc2 : c1 ≤ maxLen := hok.2.2.1
    show c1 - n ≤ maxLen
    omega
  · intro h0 a ha
    have hc1 : n1 ≤ c1 := hok.2.1
    simp only at h0 ha
    rcases h2 with h2 | h2
    · omega
    · rw [h2] at ha
      injection ha with ha
      rw [← ha]; exact hb
def S1Rel (l : List UInt8) (ns : List Nat) (w0 : World) (B : Nat) (v i : Value) (wr : World) : Prop :=
  ∃ (k cm : Nat) (hs : List (List UInt8)), k ≤ ns.length ∧ i = .int .i64 k ∧ RestOk l ns k B v wr ∧ TMap KP vB wr B (setF hs) cm ∧ cm ≤ k ∧ (∀ c, c ∈ hs ↔ c ∈ (chunks l ns).take k) ∧ Below w0.heap.size w0 wr ∧ B < wr.heap.size
def S2Rel (xs : List (List UInt8)) (l : List UInt8) (ns : List Nat) (K : Nat) (w0 : World) (v s i : Value) (wr : World) : Prop :=
  ∃ (k sum : Nat), k ≤ ns.length ∧ i = .int .i64 k ∧ s = .int .i64 sum ∧ RestOk l ns k K v wr ∧ sum + shF xs ((chunks l ns).drop k) = shF xs (chunks l ns) ∧ w0 = wr
def ShAns (r : Nat) (w0 : World) (e : Ending) (w' : World) : Prop := e = .returned (.tuple #[.int .i64 (r : Nat), .int .i64 0]) ∧ Below w0.heap.size w0 w'
theorem s1_next {l : List UInt8} {ns : List Nat} {w0 wr w6 : World} {k cm : Nat} {hs : List (List UInt8)} {xl : List UInt8} {v : Value} (hk : k + 1 ≤ ns.length) (hnx : RestOk l ns (k + 1) w0.heap.size v wr) (hm6 : TMap KP vB w6 w0.heap.size (setF (xl :: hs)) (if (setF hs (bsU xl)).isSome then cm else cm + 1))
    (hg : wr.grownBy w6 (some w0.heap.size)) (hcm : cm ≤ k) (hms : ∀ c, c ∈ xl :: hs ↔ c ∈ (chunks l ns).take (k + 1)) (hb : Below w0.heap.size w0 wr) (hB : w0.heap.size < wr.heap.size) : S1Rel l ns w0 w0.heap.size v (.int .i64 ((k : Int) + 1)) w6 :=
  ⟨k + 1, _, _, hk, by go_num, hnx.grown hg, hm6, Nat.le_trans (ite_le_succ _ cm) (by omega), hms, hb.trans (grown_below hg (Nat.le_refl _) hb.size), by have := hg.size; omega⟩
theorem s2_sum {sum a b c N : Nat} (h : sum + (a + b) = c) (hc : c ≤ N) : sum + a ≤ N := by omega
set_option maxRecDepth 100000 in
set_option maxHeartbeats 8000000 in
theorem shared_any (A1 : Option Addr) (n1 c1 : Nat) (l1 : List UInt8) (A2 : Option Addr) (n2 c2 : Nat) (l2 : List UInt8) (least bits most : Int) (w : World) (h1 : (RSl RU8).ok w ⟨A1, n1, c1, l1⟩) (h2 : (RSl RU8).ok w ⟨A2, n2, c2, l2⟩)
    (ns ms : List Nat) (hns : pcF l1 least bits most = (ns, 0)) (hms : pcF l2 least bits most = (ms, 0)) (R : Nat) (hR : shF (chunks l1 ns) (chunks l2 ms) = R) :
    Calls Tryd.prog 8 #[.slice A1 n1 c1, .slice A2 n2 c2, .int .i64 least, .int .i64 bits, .int .i64 most] w (ShAns R w) := by
  obtain ⟨g1, g2, g3, g4⟩ := pcF_ok hns
  obtain ⟨q1, q2, q3, q4⟩ := pcF_ok hms
  have hmm := @run_makeMap Tryd.prog
  have hRle : R ≤ 2000000 := by
    have := shF_le (chunks l2 ms) (chunks l1 ns)
    rw [chunks_flat ms l2 q3, hR] at this
    omega
  have G : ns.sum = l1.length ∧ ∀ n ∈ ns, 1 ≤ n := ⟨g3, g4⟩
  have Q : ms.sum = l2.length ∧ ∀ n ∈ ms, 1 ≤ n := ⟨q3, q4⟩
  clear g3 g4 q3 q4
  have h1H := Lib.hid h1
  clear h1
  have h2H := Lib.hid h2
  clear h2
  have hnsH := Lib.hid hns
  clear hns
  have hmsH := Lib.hid hms
  clear hms
  have hRH := Lib.hid hR
  clear hR
  have GH := Lib.hid G
  clear G
  have QH := Lib.hid Q
  clear Q
  go_enter Tryd.func8, Tryd.ntmps8
  go_wp2_with fail
  refine (pieces_any A1 n1 c1 l1 least bits most _ h1H.out.1 _ hnsH.out).mono ?_
  rintro e w1 ⟨B1, m1, d1, rfl, hs1, hb1⟩
  have h2b := (RSl RU8).mono _ _ _ hb1 h2H.out
  have hs1H := Lib.hid hs1
  clear hs1
  have hb1H := Lib.hid hb1
  clear hb1
  have h2bH := Lib.hid h2b
  clear h2b
  go_wp2_with fail
  refine (pieces_any A2 n2 c2 l2 least bits most _ h2bH.out.1 _ hmsH.out).mono ?_
  rintro e w2 ⟨B2, m2, d2, rfl, hs2, hb2⟩
  have hb12 := hb1H.out.trans (hb2.mono hb1H.out.size)
  have hs12 := hs1H.out.below hb2
  have hm1 : ns.length = m1 := by have := hs12.1; rwa [natI_len] at this
  have hm2 : ms.length = m2 := by have := hs2.1; rwa [natI_len] at this
  have hm1n : m1 ≤ 20000 := by omega
  have hm2n : m2 ≤ 20000 := by omega
  clear hb2
  have hr1 : RestOk l1 ns 0 w2.heap.size (.slice A1 n1 c1) w2 := ⟨A1, n1, c1, rfl, by simpa using (RSl RU8).mono _ _ _ hb12 h1H.out, fun h a ha => slAt_far (x := ⟨A1, n1, c1, l1⟩) ((RSl RU8).mono _ _ _ hb12 h1H.out) h a ha⟩
  have hr2 : RestOk l2 ms 0 w2.heap.size (.slice A2 n2 c2) w2 := ⟨A2, n2, c2, rfl, by simpa using (RSl RU8).mono _ _ _ hb12 h2H.out, fun h a ha => slAt_far (x := ⟨A2, n2, c2, l2⟩) ((RSl RU8).mono _ _ _ hb12 h2H.out) h a ha⟩
  have hs2H := Lib.hid hs2
  clear hs2
  have hs12H := Lib.hid hs12
  clear hs12
  have hb12H := Lib.hid hb12
  clear hb12
  have hr1H := Lib.hid hr1
  clear hr1
  have hr2H := Lib.hid hr2
  clear hr2
  have hm1H := Lib.hid hm1
  clear hm1
  have hm2H := Lib.hid hm2
  clear hm2
  go_wp2_with fail
  go_loopw [0, 46] (fun v i wr => S1Rel l1 ns w2 w2.heap.size v i wr) (fun _ i _ => m1 - (intOf i).toNat)
  case atStart => exact ⟨0, 0, [], Nat.zero_le _, rfl, hr1H.out.below (allocBelP _ _), TMap.made _ _ _, Nat.le_refl _, fun c => by simp, allocBelP _ _, by simp⟩
  case round =>
    obtain ⟨k, cm, hs, hk, rfl, hrest, hmap, hcm, hhs, hb, hB⟩ := hrel
    have hkn : k ≤ m1 := by have := hm1H.out; omega
    by_cases hlt : k < m1
    · obtain ⟨n, hn⟩ : ∃ n, ns[k]? = some n := ⟨ns[k]'(by have := hm1H.out; omega), List.getElem?_eq_getElem _⟩
      obtain ⟨bn, on, rfl, _⟩ := hs12H.out.2.1 (by omega)
      have cn0 : wr.cell? ⟨bn, on + k, none⟩ = some (.int .i64 (n : Int)) := by
        obtain ⟨b', off', hA, hc⟩ := (hs12H.out.below hb).2.1 (by omega)
        obtain ⟨rfl, rfl⟩ : bn = b' ∧ on = off' := by simpa using hA
        have := hc k (n : Int) (natI_get hn) 0 _ rfl
        simpa [RInt] using this
      obtain ⟨Ar, nr, cr, rfl, hok, hfar⟩ := hrest
      have hn1 := GH.out.2 n (List.mem_of_getElem? hn)
      have hst := sum_step hn
      have hle := sum_take_le (k + 1) ns
      have hss := GH.out.1
      have hl1 := hok.1.1
      simp only [List.length_drop] at hl1
      have hnle : n ≤ nr := by omega
      obtain ⟨b, off, rfl, _⟩ := hok.1.2.1 (by show 0 < nr; omega)
      have hc1 : nr ≤ cr := hok.2.1
      have hc2 : cr ≤ maxLen := hok.2.2.1
      unfold maxLen at hc2
      obtain ⟨xl, hxl⟩ : ∃ xl, (l1.drop (ns.take k).sum).take n = xl := ⟨_, rfl⟩
      have hpart : SlAt RU8 wr (some ⟨b, off, none⟩) n xl := by have := slAt_part hok.1 0 n (by show 0 + n ≤ nr; omega) rfl; rw [hxl.symm]; simpa using this
      have hxg : (chunks l1 ns)[k]? = some xl := by rw [chunks_get hn, hxl]
      have hcv := conv_row cr hpart
      have hxn : xl.length = n := hpart.1
      have hgd : KP.good (bsU xl) := by show (bsU xl).size ≤ maxLen; rw [bsU_size]; unfold maxLen; omega
      have i0 : (0 : Int) ≤ (n : Int) := by omega
      have i1 : (n : Int) ≤ (nr : Int) := by omega
      have i2 : (n : Int) ≤ (cr : Int) := by omega
      have hbK := hfar (by show 0 < nr; omega) ⟨b, off, none⟩ rfl
      simp only at hbK
      have hnx := fun A2 => restOk_next (A2 := A2) hn hok hnle hbK
      have hms2 := mem_take_step hxg hhs
      have hkr : k + 1 ≤ ns.length := by have := hm1H.out; omega
      clear hss hle hst hl1
      have hnH := Lib.hid hn
      clear hn
      have hbH := Lib.hid hb
      clear hb
      have hokH := Lib.hid hok
      clear hok
      have hmapH := Lib.hid hmap
      clear hmap
      have hhsH := Lib.hid hhs
      clear hhs
      have hgdH := Lib.hid hgd
      clear hgd
      have hBH := Lib.hid hB
      clear hB
      have hkrH := Lib.hid hkr
      clear hkr
      have hxlH := Lib.hid hxl
      clear hxl
      have hpartH := Lib.hid hpart
      clear hpart
      have hxgH := Lib.hid hxg
      clear hxg
      have hxnH := Lib.hid hxn
      clear hxn
      have hn1H := Lib.hid hn1
      clear hn1
      have hms2H := Lib.hid hms2
      clear hms2
      have hnxH := Lib.hid hnx
      clear hnx
      by_cases hcn : cr = n
      · subst hcn
        obtain rfl : nr = cr := by omega
        have hnx := hnxH.out (some ⟨b, off, none⟩) (.inl rfl) (fun h => by cases h)
        rw [Nat.sub_self] at hnx
        clear hnxH
        have hnxH := Lib.hid hnx
        clear hnx
        go_wp2_with (at_mapUpdate; go_loud (refine wpList_tstore rfl (.tmp 50) (.tmp 54) (.const (.bool true)) 47 rfl Tryd.underlying47 injV rfl hmapH.out (by simp only [maxLen]; omega) (bsU xl) rfl hgdH.out true rfl ?_); intro w6 hm6 hg6; rw [setF_upd] at hm6; have R1 := s1_next hkrH.out hnxH.out hm6 hg6 hcm hms2H.out hbH.out hBH.out; have R1H := Lib.hid R1; clear R1 hm6 hg6)
        refine ⟨?rel, ?measure⟩
        case measure => (simp [intOf]; omega)
        case rel => first | exact R1H.out | exact ⟨rfl, R1H.out⟩ | ((try refine ⟨rfl, ?_⟩); (repeat apply Exists.intro); refine ⟨R1H.out, ?_⟩; ((repeat' apply And.intro) <;> rfl))
      · have hcn2 : ¬ (n : Int) = (cr : Int) := by omega
        have hnx := hnxH.out (some ⟨b, off + n, none⟩) (.inr rfl) (fun h => by cases h)
        clear hnxH
        have hnxH := Lib.hid hnx
        clear hnx
        go_wp2_with (at_mapUpdate; go_loud (refine wpList_tstore rfl (.tmp 50) (.tmp 54) (.const (.bool true)) 47 rfl Tryd.underlying47 injV rfl hmapH.out (by simp only [maxLen]; omega) (bsU xl) rfl hgdH.out true rfl ?_); intro w6 hm6 hg6; rw [setF_upd] at hm6; have R1 := s1_next hkrH.out hnxH.out hm6 hg6 hcm hms2H.out hbH.out hBH.out; have R1H := Lib.hid R1; clear R1 hm6 hg6)
        refine ⟨?rel, ?measure⟩
        case measure => (simp [intOf]; omega)
        case rel => first | exact R1H.out | exact ⟨rfl, R1H.out⟩ | ((try refine ⟨rfl, ?_⟩); (repeat apply Exists.intro); refine ⟨R1H.out, ?_⟩; ((repeat' apply And.intro) <;> rfl))
    · have hkm : k = m1 := by omega
      subst hkm
      have hall : ∀ c, c ∈ hs ↔ c ∈ chunks l1 ns := fun c => by rw [hhs c, List.take_of_length_le (by rw [chunks_len]; have := hm1H.out; omega)]
      have hr2b : RestOk l2 ms 0 w2.heap.size (.slice A2 n2 c2) wr := by
        obtain ⟨A, n, c, hv, hok, hf⟩ := hr2H.out
        exact ⟨A, n, c, hv, (RSl RU8).mono _ _ _ hb hok, hf⟩
      have hst : 0 + shF hs ((chunks l2 ms).drop 0) = shF hs (chunks l2 ms) := by simp
      have hRR : shF hs (chunks l2 ms) = R := by rw [shF_congr _ _ _ hall]; exact hRH.out
      have hmapH := Lib.hid hmap
      clear hmap
      have hhsH := Lib.hid hhs
      clear hhs
      have hbH := Lib.hid hb
      clear hb
      have hBH := Lib.hid hB
      clear hB
      have hallH := Lib.hid hall
      clear hall
      have hrestH := Lib.hid hrest
      clear hrest
      have hr2bH := Lib.hid hr2b
      clear hr2b
      have hstH := Lib.hid hst
      clear hst
      have hRRH := Lib.hid hRR
      clear hRR
      go_wp2_with fail
      go_loopw [1, 18, 61] (fun v s i w' => S2Rel hs l2 ms w2.heap.size wr v s i w') (fun _ _ i _ => m2 - (intOf i).toNat)
      case atStart => exact ⟨0, 0, Nat.zero_le _, rfl, rfl, hr2bH.out, hstH.out, rfl⟩
      case round =>
        clear hstH hr2bH
        obtain ⟨j, sum, hj, rfl, rfl, hrest, hsm, rfl⟩ := hrel
        have hjn : j ≤ m2 := by have := hm2H.out; omega
        by_cases hlt2 : j < m2
        · obtain ⟨n, hn⟩ : ∃ n, ms[j]? = some n := ⟨ms[j]'(by have := hm2H.out; omega), List.getElem?_eq_getElem _⟩
          obtain ⟨bn, on, rfl, _⟩ := hs2H.out.2.1 (by omega)
          have cn0 : wr.cell? ⟨bn, on + j, none⟩ = some (.int .i64 (n : Int)) := by
            obtain ⟨b', off', hA, hc⟩ := (hs2H.out.below hbH.out).2.1 (by omega)
            obtain ⟨rfl, rfl⟩ : bn = b' ∧ on = off' := by simpa using hA
            have := hc j (n : Int) (natI_get hn) 0 _ rfl
            simpa [RInt] using this
          obtain ⟨Ar, nr, cr, rfl, hok, hfar⟩ := hrest
          have hn1 := QH.out.2 n (List.mem_of_getElem? hn)
          have hst := sum_step hn
          have hle := sum_take_le (j + 1) ms
          have hss := QH.out.1
          have hl1 := hok.1.1
          simp only [List.length_drop] at hl1
          have hnle : n ≤ nr := by omega
          obtain ⟨b, off, rfl, _⟩ := hok.1.2.1 (by show 0 < nr; omega)
          have hc1 : nr ≤ cr := hok.2.1
          have hc2 : cr ≤ maxLen := hok.2.2.1
          unfold maxLen at hc2
          obtain ⟨xl, hxl⟩ : ∃ xl, (l2.drop (ms.take j).sum).take n = xl := ⟨_, rfl⟩
          have hpart : SlAt RU8 wr (some ⟨b, off, none⟩) n xl := by have := slAt_part hok.1 0 n (by show 0 + n ≤ nr; omega) rfl; rw [hxl.symm]; simpa using this
          have hxg : (chunks l2 ms)[j]? = some xl := by rw [chunks_get hn, hxl]
          have hcv := conv_row cr hpart
          have hxn : xl.length = n := hpart.1
          have hgd : KP.good (bsU xl) := by show (bsU xl).size ≤ maxLen; rw [bsU_size]; unfold maxLen; omega
          have i0 : (0 : Int) ≤ (n : Int) := by omega
          have i1 : (n : Int) ≤ (nr : Int) := by omega
          have i2 : (n : Int) ≤ (cr : Int) := by omega
          have hbK := hfar (by show 0 < nr; omega) ⟨b, off, none⟩ rfl
          simp only at hbK
          have hnx := fun A2 => restOk_next (A2 := A2) hn hok hnle hbK
          have hkr : j + 1 ≤ ms.length := by have := hm2H.out; omega
          have hdr := drop_cons hxg
          rw [hdr, shF] at hsm
          obtain ⟨r, hr⟩ : ∃ r, decide (xl ∈ hs) = r := ⟨_, rfl⟩
          have hlk := look_P hmapH.out xl (by unfold maxLen; omega) r hr
          clear hss hle hst hl1
          cases r
          · rw [if_neg (of_decide_eq_false hr), Nat.zero_add] at hsm
            have R1 : ∀ v, RestOk l2 ms (j + 1) w2.heap.size v wr → S2Rel hs l2 ms w2.heap.size wr v (.int .i64 (sum : Int)) (.int .i64 ((j : Int) + 1)) wr := fun v h => ⟨j + 1, sum, hkr, by go_num, rfl, h, hsm, rfl⟩
            have hnH := Lib.hid hn
            clear hn
            have hokH := Lib.hid hok
            clear hok
            have hgdH := Lib.hid hgd
            clear hgd
            have hkrH := Lib.hid hkr
            clear hkr
            have hxlH := Lib.hid hxl
            clear hxl
            have hpartH := Lib.hid hpart
            clear hpart
            have hxgH := Lib.hid hxg
            clear hxg
            have hxnH := Lib.hid hxn
            clear hxn
            have hn1H := Lib.hid hn1
            clear hn1
            have hnxH := Lib.hid hnx
            clear hnx
            have hrH := Lib.hid hr
            clear hr
            have hsmH := Lib.hid hsm
            clear hsm
            have hdrH := Lib.hid hdr
            clear hdr
            have hfarH := Lib.hid hfar
            clear hfar
            have hbKH := Lib.hid hbK
            clear hbK
            have R1H := Lib.hid R1
            clear R1
            by_cases hcn : cr = n
            · subst hcn
              obtain rfl : nr = cr := by omega
              have hnx := hnxH.out (some ⟨b, off, none⟩) (.inl rfl) (fun h => by cases h)
              rw [Nat.sub_self] at hnx
              have R2 := R1H.out _ hnx
              clear hnx hnxH R1H
              have R2H := Lib.hid R2
              clear R2
              go_wp2
              refine ⟨?rel, ?measure⟩
              case measure => (simp [intOf]; omega)
              case rel => first | exact R2H.out | exact ⟨rfl, R2H.out⟩ | ((try refine ⟨rfl, ?_⟩); (repeat apply Exists.intro); refine ⟨R2H.out, ?_⟩; ((repeat' apply And.intro) <;> rfl))
            · have hcn2 : ¬ (n : Int) = (cr : Int) := by omega
              have R2 := R1H.out _ (hnxH.out (some ⟨b, off + n, none⟩) (.inr rfl) (fun h => by cases h))
              clear hnxH R1H
              have R2H := Lib.hid R2
              clear R2
              go_wp2
              refine ⟨?rel, ?measure⟩
              case measure => (simp [intOf]; omega)
              case rel => first | exact R2H.out | exact ⟨rfl, R2H.out⟩ | ((try refine ⟨rfl, ?_⟩); (repeat apply Exists.intro); refine ⟨R2H.out, ?_⟩; ((repeat' apply And.intro) <;> rfl))
          · rw [if_pos (of_decide_eq_true hr), hxn] at hsm
            have hsb : sum + n ≤ 2000000 := s2_sum hsm (by rw [hRRH.out]; exact hRle)
            have R1 : ∀ v, RestOk l2 ms (j + 1) w2.heap.size v wr → S2Rel hs l2 ms w2.heap.size wr v (.int .i64 ((sum : Int) + (n : Int))) (.int .i64 ((j : Int) + 1)) wr := fun v h => ⟨j + 1, sum + n, hkr, by go_num, by go_num, h, by rw [← hsm]; omega, rfl⟩
            have hnH := Lib.hid hn
            clear hn
            have hokH := Lib.hid hok
            clear hok
            have hgdH := Lib.hid hgd
            clear hgd
            have hkrH := Lib.hid hkr
            clear hkr
            have hxlH := Lib.hid hxl
            clear hxl
            have hpartH := Lib.hid hpart
            clear hpart
            have hxgH := Lib.hid hxg
            clear hxg
            have hxnH := Lib.hid hxn
            clear hxn
            have hn1H := Lib.hid hn1
            clear hn1
            have hnxH := Lib.hid hnx
            clear hnx
            have hrH := Lib.hid hr
            clear hr
            have hsmH := Lib.hid hsm
            clear hsm
            have hdrH := Lib.hid hdr
            clear hdr
            have hfarH := Lib.hid hfar
            clear hfar
            have hbKH := Lib.hid hbK
            clear hbK
            have R1H := Lib.hid R1
            clear R1
            by_cases hcn : cr = n
            · subst hcn
              obtain rfl : nr = cr := by omega
              have hnx := hnxH.out (some ⟨b, off, none⟩) (.inl rfl) (fun h => by cases h)
              rw [Nat.sub_self] at hnx
              have R2 := R1H.out _ hnx
              clear hnx hnxH R1H
              have R2H := Lib.hid R2
              clear R2
              go_wp2
              refine ⟨?rel, ?measure⟩
              case measure => (simp [intOf]; omega)
              case rel => first | exact R2H.out | exact ⟨rfl, R2H.out⟩ | ((try refine ⟨rfl, ?_⟩); (repeat apply Exists.intro); refine ⟨R2H.out, ?_⟩; ((repeat' apply And.intro) <;> rfl))
            · have hcn2 : ¬ (n : Int) = (cr : Int) := by omega
              have R2 := R1H.out _ (hnxH.out (some ⟨b, off + n, none⟩) (.inr rfl) (fun h => by cases h))
              clear hnxH R1H
              have R2H := Lib.hid R2
              clear R2
              go_wp2
              refine ⟨?rel, ?measure⟩
              case measure => (simp [intOf]; omega)
              case rel => first | exact R2H.out | exact ⟨rfl, R2H.out⟩ | ((try refine ⟨rfl, ?_⟩); (repeat apply Exists.intro); refine ⟨R2H.out, ?_⟩; ((repeat' apply And.intro) <;> rfl))
        · have hjm : j = m2 := by omega
          subst hjm
          rw [List.drop_eq_nil_of_le (by rw [chunks_len]; have := hm2H.out; omega), shF, Nat.add_zero, hRRH.out] at hsm
          subst hsm
          have hbb := hb12H.out.trans (hbH.out.mono hb12H.out.size)
          have hrestH := Lib.hid hrest
          clear hrest
          have hbbH := Lib.hid hbb
          clear hbb
          go_wp2
          go_ret2
          exact ⟨rfl, hbbH.out⟩
end Go.Proofs.YtpmjlbmegieieaaDoor.C9
