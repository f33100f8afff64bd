/-
  The walk of TopPiecesTravel.
-/
import Derived.Test.YtpmjlbmegieieaaDoorTgWC9
import Derived.Test.YtpmjlbmegieieaaDoorShWC9
import Derived.Test.YtpmjlbmegieieaaDoorAliveC9
namespace Go.Proofs.YtpmjlbmegieieaaDoor.C9
open Go.ChangeShapes Go.WideShapes Go.Deep Go.RowKit
set_option linter.unusedVariables false

def L1Rel (X : List (SlD UInt8)) (ys : List (List UInt8)) (fr : List Nat) (w : World) (base : Nat) (w0 : World) (v i : Value) (wr : World) : Prop :=
  ∃ (k : Nat) (H : List (SlD UInt8)), k ≤ fr.length ∧ i = .int .i64 k ∧ Own (RSl RU8) 22 wr base v H ∧ rows H = rows X ++ (fr.take k).map (fun j => ys.getD j []) ∧ (∀ x ∈ H, FarB8 w.heap.size x) ∧ Below w0.heap.size w0 wr
def L2Rel (n : Nat) (w0 : World) (i : Value) (wr : World) : Prop := ∃ k : Nat, k ≤ n ∧ i = .int .i64 k ∧ Below w0.heap.size w0 wr
def L3Rel (hs : List (List UInt8)) (z : List UInt8) (w0 : World) (f i : Value) (wr : World) : Prop := ∃ j : Nat, j ≤ hs.length ∧ i = .int .i64 j ∧ f = .bool (decide (z ∈ hs.take j)) ∧ Below w0.heap.size w0 wr
theorem take_mem {hs : List (List UInt8)} {j : Nat} {h z : List UInt8} (hh : hs[j]? = some h) : decide (z ∈ hs.take (j + 1)) = (decide (z ∈ hs.take j) || decide (h = z)) := by
  rw [List.take_add_one, hh, Option.toList]
  rw [Bool.eq_iff_iff]
  simp only [Bool.or_eq_true, decide_eq_true_iff, List.mem_append, List.mem_singleton]
  exact ⟨fun e => e.elim .inl (fun e => .inr e.symm), fun e => e.elim .inl (fun e => .inr e.symm)⟩
theorem row_mem {xs ys : List (List UInt8)} {z : List UInt8} (hz : z ∈ ys) : z ∈ xs ++ ((frF xs 0 ys).1.map (fun j => ys.getD j [])) := by
  rw [List.mem_append]
  rcases fr_has ys xs 0 z hz with h | ⟨j, hj, _, hr⟩
  · exact .inl h
  · refine .inr (List.mem_map.2 ⟨j, hj, ?_⟩)
    rw [Nat.sub_zero] at hr
    rw [List.getD_eq_getElem?_getD, hr]; rfl
theorem chunk_pos {l : List UInt8} {ns : List Nat} (hs : ns.sum = l.length) (h1 : ∀ n ∈ ns, 1 ≤ n) : ∀ x ∈ chunks l ns, 1 ≤ x.length := by
  intro x hx
  have : x.length ∈ (chunks l ns).map (·.length) := List.mem_map.2 ⟨x, hx, rfl⟩
  rw [chunks_sizes ns l (by omega)] at this
  exact h1 _ this
theorem FarB8.up {B B' : Nat} {x : SlD UInt8} (h : FarB8 B x) (hb : B ≤ B') : FarB8 B' x := fun h0 a ha => Nat.lt_of_lt_of_le (h h0 a ha) hb
set_option maxRecDepth 100000 in
set_option maxHeartbeats 16000000 in
theorem law_pieces (old now : SlD UInt8) (least bits most : Int) (w : World) (ho : (RSl RU8).ok w old) (hn : (RSl RU8).ok w now) (i1 : RInt.ok w least) (i2 : RInt.ok w bits) (i3 : RInt.ok w most) :
    Calls Tryd.prog 3 #[.slice old.A old.n old.cap, .slice now.A now.n now.cap, .int .i64 least, .int .i64 bits, .int .i64 most] w fun e w' => e = .returned (.bool true) ∧ Below w.heap.size w w' := by
  obtain ⟨A1, n1, c1, l1⟩ := old
  obtain ⟨A2, n2, c2, l2⟩ := now
  obtain ⟨⟨ns, f⟩, hf⟩ : ∃ R, pcF l1 least bits most = R := ⟨_, rfl⟩
  obtain ⟨⟨ms, g⟩, hg⟩ : ∃ R, pcF l2 least bits most = R := ⟨_, rfl⟩
  clear i1 i2 i3
  have hoH := Lib.hid ho
  clear ho
  have hnH := Lib.hid hn
  clear hn
  have hfH := Lib.hid hf
  clear hf
  have hgH := Lib.hid hg
  clear hg
  go_enter Tryd.func3, Tryd.ntmps3
  go_wp2_with fail
  refine (pieces_any A1 n1 c1 l1 least bits most _ hoH.out.1 _ hfH.out).mono ?_
  rintro e w1 ⟨B1, m1, d1, rfl, hs1, hb1⟩
  have hn1 := (RSl RU8).mono _ _ _ hb1 hnH.out
  have hs1H := Lib.hid hs1
  clear hs1
  have hb1H := Lib.hid hb1
  clear hb1
  have hn1H := Lib.hid hn1
  clear hn1
  go_wp2_with fail
  refine (pieces_any A2 n2 c2 l2 least bits most _ hn1H.out.1 _ hgH.out).mono ?_
  rintro e w2 ⟨B2, m2, d2, rfl, hs2, hb2⟩
  have hb12 := hb1H.out.trans (hb2.mono hb1H.out.size)
  have hs12 := hs1H.out.below hb2
  have hm1 : ns.length = m1 := by have := hs12.1; rwa [natI_len] at this
  have hm2 : ms.length = m2 := by have := hs2.1; rwa [natI_len] at this
  clear hb2 hn1H
  have hs2H := Lib.hid hs2
  clear hs2
  have hs12H := Lib.hid hs12
  clear hs12
  have hb12H := Lib.hid hb12
  clear hb12
  by_cases f0 : f = 0
  · by_cases g0 : g = 0
    · subst f0
      subst g0
      obtain ⟨o1, o2, o3, o4⟩ := pcF_ok hfH.out
      obtain ⟨q1, q2, q3, q4⟩ := pcF_ok hgH.out
      have hl2n : l2.length = n2 := hnH.out.1.1
      have o3H := Lib.hid o3
      clear o3
      have o4H := Lib.hid o4
      clear o4
      have q3H := Lib.hid q3
      clear q3
      have q4H := Lib.hid q4
      clear q4
      have hm1H := Lib.hid hm1
      clear hm1
      have hm2H := Lib.hid hm2
      clear hm2
      go_wp2_with fail
      refine (cutInto_any A1 n1 c1 l1 B1 m1 d1 ns _ ((RSl RU8).mono _ _ _ hb12H.out hoH.out) hs12H.out (Nat.le_of_eq o3H.out) o4H.out o2).mono ?_
      rintro e w3 ⟨XA, xn, xc, X, rfl, hX, hXr, hXf, hb3⟩
      have hb13 := hb12H.out.trans (hb3.mono hb12H.out.size)
      have hs23 := hs2H.out.below hb3
      have z23 := hb3.size
      clear hb3
      have z23H := Lib.hid z23
      clear z23
      have hXH := Lib.hid hX
      clear hX
      have hXrH := Lib.hid hXr
      clear hXr
      have hXfH := Lib.hid hXf
      clear hXf
      have hb13H := Lib.hid hb13
      clear hb13
      have hs23H := Lib.hid hs23
      clear hs23
      go_wp2_with fail
      refine (cutInto_any A2 n2 c2 l2 B2 m2 d2 ms _ ((RSl RU8).mono _ _ _ hb13H.out hnH.out) hs23H.out (Nat.le_of_eq q3H.out) q4H.out q2).mono ?_
      rintro e w4 ⟨YA, yn, yc, Y, rfl, hY, hYr, hYf, hb4⟩
      have hb14 := hb13H.out.trans (hb4.mono hb13H.out.size)
      have hX4 := (RSl (RSl RU8)).mono _ _ _ hb4 hXH.out
      have z34 := hb4.size
      clear hb4
      have z34H := Lib.hid z34
      clear z34
      have hXl : X.length ≤ 20000 := by have := congrArg List.length hXrH.out; rw [rows_len, chunks_len] at this; omega
      have hYl : Y.length ≤ 20000 := by have := congrArg List.length hYr; rw [rows_len, chunks_len] at this; omega
      have hXs : (rows X).flatten.length ≤ 2000000 := by rw [hXrH.out, chunks_flat ns l1 o3H.out]; exact o1
      have hYs : (rows Y).flatten.length ≤ 2000000 := by rw [hYr, chunks_flat ms l2 q3H.out]; exact q1
      have hXp : ∀ x ∈ rows X, 1 ≤ x.length := by rw [hXrH.out]; exact chunk_pos o3H.out o4H.out
      have hYp : ∀ x ∈ rows Y, 1 ≤ x.length := by rw [hYr]; exact chunk_pos q3H.out q4H.out
      have hXn : X.length = xn := hXH.out.1.1
      have hYn : Y.length = yn := hY.1.1
      have hyn2 : yn ≤ 20000 := by omega
      have hxn2 : xn ≤ 20000 := by omega
      obtain ⟨⟨fr, sm⟩, hfr⟩ : ∃ R, frF (rows X) 0 (rows Y) = R := ⟨_, rfl⟩
      have hfl : ∀ j ∈ fr, j < Y.length := fun j hj => by have := (fr_lt (rows Y) (rows X) 0 j (by rw [hfr]; exact hj)).2; rw [rows_len] at this; omega
      have hfn : fr.length ≤ Y.length := by have := fr_len (rows Y) (rows X) 0; rw [hfr, rows_len] at this; exact this
      obtain ⟨sh, hsh⟩ : ∃ sh, shF (chunks l1 ns) (chunks l2 ms) = sh := ⟨_, rfl⟩
      have hle : sm + sh ≤ n2 := by
        have := fr_sh (rows Y) (rows X) (rows X) 0 (fun c hc => hc)
        rw [hfr, hYr, hXrH.out, hsh, chunks_flat ms l2 q3H.out] at this
        omega
      have hYH := Lib.hid hY
      clear hY
      have hYrH := Lib.hid hYr
      clear hYr
      have hYfH := Lib.hid hYf
      clear hYf
      have hb14H := Lib.hid hb14
      clear hb14
      have hX4H := Lib.hid hX4
      clear hX4
      have hXsH := Lib.hid hXs
      clear hXs
      have hYsH := Lib.hid hYs
      clear hYs
      have hXpH := Lib.hid hXp
      clear hXp
      have hYpH := Lib.hid hYp
      clear hYp
      have hXnH := Lib.hid hXn
      clear hXn
      have hYnH := Lib.hid hYn
      clear hYn
      have hfrH := Lib.hid hfr
      clear hfr
      have hflH := Lib.hid hfl
      clear hfl
      have hfnH := Lib.hid hfn
      clear hfn
      have hshH := Lib.hid hsh
      clear hsh
      have hXlH := Lib.hid hXl
      clear hXl
      have hYlH := Lib.hid hYl
      clear hYl
      go_wp2_with fail
      refine (fresh_any XA xn xc X YA yn yc Y _ hX4H.out.1 hYH.out.1 hXlH.out hYlH.out hXsH.out hYsH.out hXpH.out hYpH.out _ hfrH.out).mono ?_
      rintro e w5 ⟨FA, fn, fc, rfl, hF, hb5⟩
      have hb15 := hb14H.out.trans (hb5.mono hb14H.out.size)
      have hX5 := (RSl (RSl RU8)).mono _ _ _ hb5 hX4H.out
      have hY5 := (RSl (RSl RU8)).mono _ _ _ hb5 hYH.out
      have hFn : fr.length = fn := by have := hF.1; rwa [natI_len] at this
      have z45 := hb5.size
      clear hb5 hX4H
      have z45H := Lib.hid z45
      clear z45
      have hFH := Lib.hid hF
      clear hF
      have hb15H := Lib.hid hb15
      clear hb15
      have hX5H := Lib.hid hX5
      clear hX5
      have hY5H := Lib.hid hY5
      clear hY5
      have hFnH := Lib.hid hFn
      clear hFn
      go_wp2_with fail
      refine (shared_any A1 n1 c1 l1 A2 n2 c2 l2 least bits most _ ((RSl RU8).mono _ _ _ hb15H.out hoH.out) ((RSl RU8).mono _ _ _ hb15H.out hnH.out) ns ms hfH.out hgH.out sh hshH.out).mono ?_
      rintro e w6 ⟨rfl, hb6⟩
      have hb16 := hb15H.out.trans (hb6.mono hb15H.out.size)
      have hX6 := (RSl (RSl RU8)).mono _ _ _ hb6 hX5H.out
      have hY6 := (RSl (RSl RU8)).mono _ _ _ hb6 hY5H.out
      have hF6 := hFH.out.below hb6
      have hn26 : n2 ≤ 2000000 := by omega
      have hshn : ¬ ((n2 : Int) - (sh : Int)) < (sm : Int) := by omega
      have z56 := hb6.size
      clear hb6 hX5H hY5H hFH
      have z56H := Lib.hid z56
      clear z56
      have hb16H := Lib.hid hb16
      clear hb16
      have hX6H := Lib.hid hX6
      clear hX6
      have hY6H := Lib.hid hY6
      clear hY6
      have hF6H := Lib.hid hF6
      clear hF6
      go_wp2_with fail
      refine (clone_rows XA xn xc X _ hX6H.out.1 hxn2).mono ?_
      rintro e w7 ⟨HA, hc, rfl, hH, hb7⟩
      have hXfw : ∀ x ∈ X, FarB8 w6.heap.size x := fun x hx => (hXfH.out x hx).up (by have := z23H.out; have := z34H.out; have := z45H.out; have := z56H.out; omega)
      have hYfw : ∀ x ∈ Y, FarB8 w6.heap.size x := fun x hx => (hYfH.out x hx).up (by have := z34H.out; have := z45H.out; have := z56H.out; omega)
      clear hX6H hXfH hYfH z23H z34H z45H z56H
      have hb7H := Lib.hid hb7
      clear hb7
      have hHH := Lib.hid hH
      clear hH
      have hXfwH := Lib.hid hXfw
      clear hXfw
      have hYfwH := Lib.hid hYfw
      clear hYfw
      go_wp2_with fail
      go_loopw [20, 101] (fun v i wr => L1Rel X (rows Y) fr w6 w6.heap.size w6 v i wr) (fun _ i _ => fn - (intOf i).toNat)
      case atStart => exact ⟨0, X, Nat.zero_le _, rfl, hHH.out, by simp, hXfwH.out, hb7H.out⟩
      case round =>
        clear hHH
        obtain ⟨k, H, hk, rfl, hown, hrow, hfar, hb⟩ := hrel
        have hkn : k ≤ fn := by have := hFnH.out; omega
        have hfnl : fn ≤ 20000 := by have := hfnH.out; have := hFnH.out; have := hYlH.out; omega
        have hHl : H.length = xn + k := by
          have := congrArg List.length hrow
          rw [rows_len, List.length_append, rows_len, List.length_map, List.length_take, hXnH.out] at this
          have := hFnH.out
          omega
        obtain ⟨HA2, hc2, hv⟩ := hown.form
        rw [hHl] at hv
        subst hv
        by_cases hlt : k < fn
        · obtain ⟨j, hj⟩ : ∃ j, fr[k]? = some j := ⟨fr[k]'(by have := hFnH.out; omega), List.getElem?_eq_getElem _⟩
          have hjY := hflH.out j (List.mem_of_getElem? hj)
          obtain ⟨bf, of_, rfl, _⟩ := hF6H.out.2.1 (by omega)
          have cf0 : wr.cell? ⟨bf, of_ + k, none⟩ = some (.int .i64 (j : Int)) := by
            obtain ⟨b', off', hA, hcc⟩ := (hF6H.out.below hb).2.1 (by omega)
            obtain ⟨rfl, rfl⟩ : bf = b' ∧ of_ = off' := by simpa using hA
            have := hcc k (j : Int) (natI_get hj) 0 _ rfl
            simpa [RInt] using this
          have hYn0 := hYnH.out
          obtain ⟨by_, oy, hYA, _⟩ := hY6H.out.1.2.1 (by show 0 < yn; omega)
          simp only at hYA
          subst hYA
          obtain ⟨y, hy⟩ : ∃ y, Y[j]? = some y := ⟨Y[j], List.getElem?_eq_getElem _⟩
          have hYb := hY6H.out.1.below hb
          have cy0 := cell_Row hYb hy
          have hyok := hYb.2.2 y (List.mem_of_getElem? hy)
          have hyfar := hYfwH.out y (List.mem_of_getElem? hy)
          have j0 : ¬ (j : Int) < 0 := by omega
          have j1 : ¬ (yn : Int) ≤ (j : Int) := by omega
          have j2 : (0 : Int) ≤ (j : Int) := by omega
          have j3 : (j : Int) < (yn : Int) := by omega
          have hkl : k + 1 ≤ fr.length := by have := hFnH.out; omega
          have hrow2 : rows (H ++ [y]) = rows X ++ (fr.take (k + 1)).map (fun j => (rows Y).getD j []) := by
            rw [rows_snoc, hrow, List.take_add_one, hj, Option.toList, List.map_append, List.append_assoc, List.map_cons, List.map_nil, List.getD_eq_getElem?_getD, rows_get hy]
            rfl
          have hfar2 : ∀ x ∈ H ++ [y], FarB8 w6.heap.size x := fun x hx => by
            rcases List.mem_append.1 hx with hx | hx
            · exact hfar x hx
            · rw [List.mem_singleton.1 hx]; exact hyfar
          have hyoka := (RSl RU8).mono _ _ _ (allocBelP wr (.cells #[.slice y.A y.n y.cap] 22)) hyok
          have hxk : xn + k ≤ 40000 := by omega
          have hjH := Lib.hid hj
          clear hj
          have hyH := Lib.hid hy
          clear hy
          have hYbH := Lib.hid hYb
          clear hYb
          have hyokH := Lib.hid hyok
          clear hyok
          have hyokaH := Lib.hid hyoka
          clear hyoka
          have hyfarH := Lib.hid hyfar
          clear hyfar
          have hownH := Lib.hid hown
          clear hown
          have hrowH := Lib.hid hrow
          clear hrow
          have hfarH := Lib.hid hfar
          clear hfar
          have hbH := Lib.hid hb
          clear hb
          have hklH := Lib.hid hkl
          clear hkl
          have hrow2H := Lib.hid hrow2
          clear hrow2
          have hfar2H := Lib.hid hfar2
          clear hfar2
          have hjYH := Lib.hid hjY
          clear hjY
          have hHlH := Lib.hid hHl
          clear hHl
          have hYn0H := Lib.hid hYn0
          clear hYn0
          go_wp2_with (at_builtin; go_loud (refine wpList_app rfl (.tmp 113) (.tmp 118) 28 rfl Tryd.underlying28 elem_Row (by decide) rfl (hownH.out.alloc _) (some ⟨wr.heap.size, 0, none⟩) 1 1 [y] rfl ?d1 ?d2 ?d0 ?d3 ?d4 ?d5 (xn + k + 1) ?d6 ?_))
          case d1 => exact slAt_new wr 22 (R := RSl RU8) y hyokH.out
          case d0 => exact fun w' hg q hq hqk => rsl_grown (B := w6.heap.size) hg hqk (hfar2H.out q (by simpa using hq)) (fun t ht => (hownH.out.1.lt t ht).1)
          case d3 => rw [hHlH.out]; unfold maxLen; omega
          case d4 => rw [hHlH.out]; omega
          case d5 => have := hbH.out.size; simp; omega
          case d6 => rw [hHlH.out]
          intro A5 c5 w5b hown5 hg5 hat5 hb5
          have R1 : L1Rel X (rows Y) fr w6 w6.heap.size w6 (.slice A5 (xn + k + 1) c5) (.int .i64 ((k : Int) + 1)) w5b := ⟨k + 1, H ++ [y], hklH.out, by go_num, hown5, hrow2H.out, hfar2H.out, (hbH.out.alloc hbH.out.size _).trans hb5⟩
          clear hown5 hg5 hat5 hb5
          have R1H := Lib.hid R1
          clear R1
          go_wp2
          refine ⟨?rel, ?measure⟩
          case measure => (simp [intOf]; omega)
          case rel => first | exact R1H.out | exact ⟨rfl, R1H.out⟩ | ((try refine ⟨rfl, ?_⟩); (repeat apply Exists.intro); refine ⟨R1H.out, ?_⟩; ((repeat' apply And.intro) <;> rfl))
        · obtain rfl : k = fn := by omega
          have hall : fr.take k = fr := List.take_of_length_le (by have := hFnH.out; omega)
          rw [hall] at hrow
          have hH2 := hown.slAt
          have hz : ∀ z ∈ rows Y, z ∈ rows H := fun z hz => by
            have := row_mem (xs := rows X) hz
            rw [hfrH.out] at this
            rw [hrow]; exact this
          have hHn : xn + k ≤ 40000 := by omega
          clear hlt hall
          obtain ⟨wa, rfl⟩ : ∃ W, W = wr := ⟨_, rfl⟩
          have hownH := Lib.hid hown
          clear hown
          have hrowH := Lib.hid hrow
          clear hrow
          have hfarH := Lib.hid hfar
          clear hfar
          have hbH := Lib.hid hb
          clear hb
          have hHlH := Lib.hid hHl
          clear hHl
          have hH2H := Lib.hid hH2
          clear hH2
          have hzH := Lib.hid hz
          clear hz
          go_wp2_with fail
          go_loopw [123] (fun i wr => L2Rel yn wa i wr) (fun i _ => yn - (intOf i).toNat)
          case atStart => exact ⟨0, Nat.zero_le _, rfl, Below.refl _ _⟩
          case round =>
            obtain ⟨q, hq, rfl, hbq⟩ := hrel
            by_cases hlq : q < yn
            · have hYn0 := hYnH.out
              obtain ⟨by_, oy, hYA, _⟩ := hY6H.out.1.2.1 (by show 0 < yn; omega)
              simp only at hYA
              subst hYA
              obtain ⟨z, hzq⟩ : ∃ z, Y[q]? = some z := ⟨Y[q]'(by omega), List.getElem?_eq_getElem _⟩
              have hYb := (hY6H.out.1.below hbH.out).below hbq
              have cz0 := cell_Row hYb hzq
              have hzok := hYb.2.2 z (List.mem_of_getElem? hzq)
              have hzin := hzH.out z.l (List.mem_of_getElem? (rows_get hzq))
              obtain ⟨wb, rfl⟩ : ∃ W, W = wr := ⟨_, rfl⟩
              have hYbH := Lib.hid hYb
              clear hYb
              have hzokH := Lib.hid hzok
              clear hzok
              have hzqH := Lib.hid hzq
              clear hzq
              have hzinH := Lib.hid hzin
              clear hzin
              have hbqH := Lib.hid hbq
              clear hbq
              have hYn0H := Lib.hid hYn0
              clear hYn0
              go_wp2_with fail
              go_loopw [25, 129] (fun f i wr => L3Rel (rows H) z.l wb f i wr) (fun _ i _ => (xn + k) - (intOf i).toNat)
              case atStart => exact ⟨0, Nat.zero_le _, rfl, by simp, Below.refl _ _⟩
              case round =>
                obtain ⟨j, hj, rfl, rfl, hbj⟩ := hrel
                rw [rows_len, hHlH.out] at hj
                by_cases hlj : j < xn + k
                · obtain ⟨bh, oh, rfl, _⟩ := hH2H.out.2.1 (by omega)
                  obtain ⟨h, hh⟩ : ∃ h, H[j]? = some h := ⟨H[j]'(by have := hHlH.out; omega), List.getElem?_eq_getElem _⟩
                  have hHb := (hH2H.out.below hbqH.out).below hbj
                  have ch0 := cell_Row hHb hh
                  have hhok := hHb.2.2 h (List.mem_of_getElem? hh)
                  have hzok2 := (RSl RU8).mono _ _ _ hbj hzokH.out
                  have htm := take_mem (z := z.l) (rows_get hh)
                  have hjl : j + 1 ≤ (rows H).length := by rw [rows_len]; have := hHlH.out; omega
                  obtain ⟨d, hd⟩ : ∃ d, decide (z.l ∈ (rows H).take j) = d := ⟨_, rfl⟩
                  rw [hd] at htm ⊢
                  cases d
                  · obtain ⟨r, hr⟩ : ∃ r, decide (h.l = z.l) = r := ⟨_, rfl⟩
                    rw [hr, Bool.false_or] at htm
                    have hhn : h.n ≤ 9223372036854775807 := Nat.le_trans hhok.2.1 hhok.2.2.1
                    have hhH := Lib.hid hh
                    clear hh
                    have hHbH := Lib.hid hHb
                    clear hHb
                    have hhokH := Lib.hid hhok
                    clear hhok
                    have hzok2H := Lib.hid hzok2
                    clear hzok2
                    have htmH := Lib.hid htm
                    clear htm
                    have hdH := Lib.hid hd
                    clear hd
                    have hbjH := Lib.hid hbj
                    clear hbj
                    have hjlH := Lib.hid hjl
                    clear hjl
                    have hrH := Lib.hid hr
                    clear hr
                    go_wp2_with fail
                    refine (equal_b h.A z.A h.n h.cap z.n z.cap h.l z.l _ hhokH.out.1 hzok2H.out.1 hhn r hrH.out).mono ?_
                    rintro e w8 ⟨rfl, hb8⟩
                    have R2 : L3Rel (rows H) z.l wb (.bool r) (.int .i64 ((j : Int) + 1)) w8 := ⟨j + 1, hjlH.out, by go_num, by rw [htmH.out], hbjH.out.trans (hb8.mono hbjH.out.size)⟩
                    clear hb8
                    have R2H := Lib.hid R2
                    clear R2
                    go_wp2
                    refine ⟨?rel, ?measure⟩
                    case measure => (simp [intOf]; omega)
                    case rel => first | exact R2H.out | exact ⟨rfl, R2H.out⟩ | ((try refine ⟨rfl, ?_⟩); (repeat apply Exists.intro); refine ⟨R2H.out, ?_⟩; ((repeat' apply And.intro) <;> rfl))
                  · rw [Bool.true_or] at htm
                    have R2 : L3Rel (rows H) z.l wb (.bool true) (.int .i64 ((j : Int) + 1)) wr := ⟨j + 1, hjl, by go_num, by rw [htm], hbj⟩
                    have hhH := Lib.hid hh
                    clear hh
                    have hHbH := Lib.hid hHb
                    clear hHb
                    have hhokH := Lib.hid hhok
                    clear hhok
                    have hzok2H := Lib.hid hzok2
                    clear hzok2
                    have htmH := Lib.hid htm
                    clear htm
                    have hdH := Lib.hid hd
                    clear hd
                    have hbjH := Lib.hid hbj
                    clear hbj
                    have hjlH := Lib.hid hjl
                    clear hjl
                    have R2H := Lib.hid R2
                    clear R2
                    go_wp2
                    refine ⟨?rel, ?measure⟩
                    case measure => (simp [intOf]; omega)
                    case rel => first | exact R2H.out | exact ⟨rfl, R2H.out⟩ | ((try refine ⟨rfl, ?_⟩); (repeat apply Exists.intro); refine ⟨R2H.out, ?_⟩; ((repeat' apply And.intro) <;> rfl))
                · have hjn : xn + k ≤ j := by omega
                  have hfd : decide (z.l ∈ (rows H).take j) = true := by
                    rw [List.take_of_length_le (by rw [rows_len]; have := hHlH.out; omega)]
                    exact decide_eq_true hzinH.out
                  rw [hfd]
                  have R2 : L2Rel yn wa (.int .i64 ((q : Int) + 1)) wr := ⟨q + 1, by omega, by go_num, hbqH.out.trans (hbj.mono hbqH.out.size)⟩
                  have hfdH := Lib.hid hfd
                  clear hfd
                  have hbjH := Lib.hid hbj
                  clear hbj
                  have R2H := Lib.hid R2
                  clear R2
                  go_wp2
                  refine ⟨?rel, ?measure⟩
                  case measure => (simp [intOf]; omega)
                  case rel => first | exact R2H.out | exact ⟨rfl, R2H.out⟩ | ((try refine ⟨rfl, ?_⟩); (repeat apply Exists.intro); refine ⟨R2H.out, ?_⟩; ((repeat' apply And.intro) <;> rfl))
            · have hqn : yn ≤ q := by omega
              have hbw := hbH.out.trans (hbq.mono hbH.out.size)
              have hbq7 := hb16H.out.trans (hbw.mono hb16H.out.size)
              have hY9 := (RSl (RSl RU8)).mono _ _ _ hbw hY6H.out
              have hbqH := Lib.hid hbq
              clear hbq
              have hbwH := Lib.hid hbw
              clear hbw
              have hbq7H := Lib.hid hbq7
              clear hbq7
              have hY9H := Lib.hid hY9
              clear hY9
              go_wp2_with fail
              refine (together_any YA yn yc Y _ hY9H.out.1 hyn2 hYsH.out).mono ?_
              rintro e w8 ⟨TA, tn, tc, rfl, hT, hb8⟩
              have hb18 := hbq7H.out.trans (hb8.mono hbq7H.out.size)
              have hyf : (rows Y).flatten = l2 := by rw [hYrH.out, chunks_flat ms l2 q3H.out]
              rw [hyf] at hT
              have hn8 := (RSl RU8).mono _ _ _ hb18 hnH.out
              have htn9 : tn ≤ 9223372036854775807 := by have := hT.1; omega
              clear hb8
              have hTH := Lib.hid hT
              clear hT
              have hb18H := Lib.hid hb18
              clear hb18
              have hyfH := Lib.hid hyf
              clear hyf
              have hn8H := Lib.hid hn8
              clear hn8
              go_wp2_with fail
              refine (equal_b TA A2 tn tc n2 c2 l2 l2 _ hTH.out hn8H.out.1 htn9 true (decide_eq_true rfl)).mono ?_
              rintro e w9b ⟨rfl, hb9⟩
              have hb19 := hb18H.out.trans (hb9.mono hb18H.out.size)
              clear hb9
              have hb19H := Lib.hid hb19
              clear hb19
              go_wp2_with fail
              refine (alive_any _).mono ?_
              rintro e w9 ⟨rfl, hw9⟩
              have hb9 := hb19H.out.trans (hw9.mono hb19H.out.size)
              clear hw9
              have hb9H := Lib.hid hb9
              clear hb9
              go_wp2
              go_ret
              exact ⟨rfl, hb9H.out⟩
    · subst f0
      have g1 : (g != 0) = true := by simpa using g0
      go_wp2_with fail
      refine (alive_any _).mono ?_
      rintro e w9 ⟨rfl, hw9⟩
      have hb9 := hb12H.out.trans (hw9.mono hb12H.out.size)
      clear hw9
      have hb9H := Lib.hid hb9
      clear hb9
      go_wp2
      go_ret
      exact ⟨rfl, hb9H.out⟩
  · have hns0 := pcF_no hfH.out f0
    subst hns0
    have hm10 : m1 = 0 := hm1.symm
    subst hm10
    have f1 : (f != 0) = true := by simpa using f0
    have f2 : (f == 0) = false := by simpa using f0
    clear hm1 hm2
    go_wp2_with fail
    refine (alive_any _).mono ?_
    rintro e w9 ⟨rfl, hw9⟩
    have hb9 := hb12H.out.trans (hw9.mono hb12H.out.size)
    clear hw9
    have hb9H := Lib.hid hb9
    clear hb9
    go_wp2
    go_ret
    exact ⟨rfl, hb9H.out⟩
end Go.Proofs.YtpmjlbmegieieaaDoor.C9
