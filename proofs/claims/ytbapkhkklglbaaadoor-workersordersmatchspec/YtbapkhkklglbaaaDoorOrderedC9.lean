/-
  ordered: the works, each behind those that must be done before it.
-/
import Derived.Test.YtbapkhkklglbaaaDoorFunc9C9
import Derived.Test.YtbapkhkklglbaaaDoorBRow
import Derived.Test.YtbapkhkklglbaaaDoorQue
namespace Go.Proofs.YtbapkhkklglbaaaDoor.C9
open Go.RowKit Go.Deep
set_option linter.unusedVariables false

def nz (l : List Nat) : List Int := l.map (fun (k : Nat) => (k : Int))
def lenV : Value → Nat | .slice _ n _ => n | _ => 0
def bN : Value → Nat | .bool true => 1 | _ => 0

/-- the boxes of l and done, and done itself -/
structure OF (B N c : Nat) (A : Option Addr) (f : Nat → Bool) (W : World) : Prop where
  c0 : W.cell? ⟨B, 0, none⟩ = some (.slice A N c)
  cD : W.cell? ⟨B + 1 + 1, 0, none⟩ = some (.slice (some ⟨B + 1, 0, none⟩) N N)
  row : BRow W (B + 1) N f
theorem OF.below {B N c K : Nat} {A : Option Addr} {f : Nat → Bool} {W W' : World} (h : OF B N c A f W) (hb : Below K W W') (hK : B + 3 ≤ K) : OF B N c A f W' :=
  ⟨(hb.cell (show B < K by omega)).trans h.c0, (hb.cell (show B + 1 + 1 < K by omega)).trans h.cD, h.row.below hb (by omega)⟩
theorem OF.set {B N c k : Nat} {A : Option Addr} {f : Nat → Bool} {W : World} (h : OF B N c A f W) : OF B N c A (fun j => if j = k then true else f j) (W.setCell ⟨B + 1, k, none⟩ (.bool true)) :=
  ⟨by rw [World.cell?_setCell_other _ _ _ _ (by simp)]; exact h.c0, by rw [World.cell?_setCell_other _ _ _ _ (by simp)]; exact h.cD, h.row.set true⟩

set_option maxHeartbeats 1000000 in
theorem ord1_any (B N c : Nat) (A : Option Addr) (f : Nat → Bool) (l : List Work) (s : ByteArray) (W : World) (hN : N ≤ 1000) (hF : OF B N c A f W) (hl : SlAt RWork W A N l) (hr : l.Pairwise fun a b => cmpS a.id_ b.id_ = -1) (hs : hasId l s = true) :
    Calls Tryd.prog 43 #[.string s, .pointer (some ⟨B, 0, none⟩), .pointer (some ⟨B + 1 + 1, 0, none⟩)] W fun e w' => e = .returned (.bool (!f (ixOf l s))) ∧ Below W.heap.size W w' := by
  have c0 := hF.c0
  have hll := hl.1
  obtain ⟨k, hk⟩ : ∃ k, ixOf l s = k := ⟨_, rfl⟩
  have hkl : k < N := by rw [← hk, ← hll]; exact ixOf_lt hs
  rw [hk]
  obtain ⟨u, hu⟩ : ∃ u, f k = u := ⟨_, rfl⟩
  rw [hu]
  have hlt2 : B + 1 + 1 < W.heap.size := cell?_lt hF.cD
  have hFH := Lib.hid hF
  clear hF
  have hlH := Lib.hid hl
  clear hl
  have hrH := Lib.hid hr
  clear hr
  have hsH := Lib.hid hs
  clear hs
  have hkH := Lib.hid hk
  clear hk
  have huH := Lib.hid hu
  clear hu
  go_enter Tryd.func43, Tryd.ntmps43
  go_wp2_with fail
  refine (workAt_any A N c l s _ hN hlH.out hrH.out).mono ?_
  rintro e w1 ⟨i, rfl, hi, hb⟩
  rw [hsH.out]
  obtain rfl : i = k := (hi hsH.out).trans hkH.out
  have hF1 := hFH.out.below hb (by omega)
  have cD := hF1.cD
  have cR := (hF1.row i hkl).1
  rw [huH.out] at cR
  clear hi c0
  have hF1H := Lib.hid hF1
  clear hF1
  have hbH := Lib.hid hb
  clear hb
  go_wp2
  go_ret
  exact ⟨rfl, hbH.out⟩

def OrdRel (l : List Work) (B N c : Nat) (A : Option Addr) (w0 : World) (v m : Value) (wr : World) : Prop :=
  ∃ (f : Nat → Bool) (out : List Nat) (A2 : Option Addr) (n cap : Nat) (b : Bool), v = .slice A2 n cap ∧ m = .bool b ∧ OF B N c A f wr ∧ Own RInt 3 wr (B + 3) v (nz out) ∧ Topo (gOf l) N out ∧ (∀ i, i < N → (f i = true ↔ i ∈ out)) ∧ (b = false → Most (gOf l) N out) ∧ Below w0.heap.size w0 wr ∧ B + 3 ≤ wr.heap.size
/-- within a pass, its first k works gone over; n0: how many were there at its beginning -/
def OrdIn (l : List Work) (B N c n0 : Nat) (A : Option Addr) (w0 : World) (v m i : Value) (wr : World) : Prop :=
  ∃ (k : Nat) (f : Nat → Bool) (out : List Nat) (A2 : Option Addr) (n cap : Nat) (b : Bool), k ≤ N ∧ i = .int .i64 k ∧ v = .slice A2 n cap ∧ m = .bool b ∧ OF B N c A f wr ∧ Own RInt 3 wr (B + 3) v (nz out) ∧ Topo (gOf l) N out ∧ (∀ i, i < N → (f i = true ↔ i ∈ out)) ∧
    (b = false → n = n0 ∧ ∀ i, i < k → i ∉ out → ∃ p ∈ gOf l i, p ∉ out) ∧ (b = true → n0 < n) ∧ Below w0.heap.size w0 wr ∧ B + 3 ≤ wr.heap.size

theorem nz_len (l : List Nat) : (nz l).length = l.length := by simp [nz]
theorem nz_snoc (l : List Nat) (k : Nat) : nz (l ++ [k]) = nz l ++ [(k : Int)] := by simp [nz]

def OrdAns (l : List Work) (N : Nat) (w : World) (e : Ending) (w' : World) : Prop := ∃ (A : Option Addr) (n cap : Nat) (out : List Nat) (ok : Bool), e = .returned (.tuple #[.slice A n cap, .bool ok]) ∧ SlAt RInt w' A n (nz out) ∧ n = out.length ∧ ok = decide (n = N) ∧ Topo (gOf l) N out ∧ Most (gOf l) N out ∧ Below w.heap.size w w'

def OrdOwn (l : List Work) (N : Nat) (w : World) (e : Ending) (w' : World) : Prop := OrdAns l N w e w' ∧ ∀ (b off n cap : Nat) (ok : Bool), e = .returned (.tuple #[.slice (some ⟨b, off, none⟩) n cap, .bool ok]) → w.heap.size ≤ b
set_option maxRecDepth 100000 in
set_option maxHeartbeats 4000000 in
theorem ordered_own (A : Option Addr) (N c : Nat) (l : List Work) (w : World) (hN : N ≤ 1000) (hl : SlAt RWork w A N l) (hr : l.Pairwise fun a b => cmpS a.id_ b.id_ = -1) (hall : allThere l l.length = true) :
    Calls Tryd.prog 24 #[.slice A N c] w (OrdOwn l N w) := by
  have hll := hl.1
  have hmk := run_makeB N (by omega)
  obtain ⟨B, hB⟩ : ∃ B, w.heap.size = B := ⟨_, rfl⟩
  have hg := gOf_lt hall
  rw [hll] at hg
  have eg : ∀ args w, (callFunc 43 args).run Tryd.prog w = .ok (.enter 43 args) w := enters_of Tryd.func43 (by kernel_rfl) rfl
  have hgl : ∀ (i : Nat) (x : Work), l[i]? = some x → ∀ s ∈ x.after.l, hasId l s = true := fun i x hx s hs => allThere_get hall hx hs
  have hlH := Lib.hid hl
  clear hl
  have hrH := Lib.hid hr
  clear hr
  have hallH := Lib.hid hall
  clear hall
  have hgH := Lib.hid hg
  clear hg
  have hglH := Lib.hid hgl
  clear hgl
  go_enter Tryd.func24, Tryd.ntmps24
  go_wp2_with fail
  obtain ⟨W1, hW1⟩ : ∃ X, w.alloc (.cells #[.slice A N c] 22) = X := ⟨_, rfl⟩
  have hb1 : Below w.heap.size w W1 := by rw [← hW1]; exact (Below.refl _ _).alloc (Nat.le_refl _) _
  have hs1 : W1.heap.size = B + 1 := by rw [← hW1, ← hB]; simp
  have k1 : W1.cell? ⟨B, 0, none⟩ = some (.slice A N c) := by rw [← hW1, ← hB]; exact cell_new w _ _ 0
  rw [hW1]
  obtain ⟨W2, hW2⟩ : ∃ X, W1.alloc (.cells (madeB N) 4) = X := ⟨_, rfl⟩
  have hb2 : Below w.heap.size w W2 := by rw [← hW2]; exact hb1.alloc hb1.size _
  have hb12 : Below W1.heap.size W1 W2 := by rw [← hW2]; exact (Below.refl _ _).alloc (Nat.le_refl _) _
  have hs2 : W2.heap.size = B + 1 + 1 := by rw [← hW2, ← hs1]; simp
  have k2 : BRow W2 (B + 1) N (fun _ => false) := by rw [← hW2, ← hs1]; exact BRow.made W1 N
  rw [hW2]
  obtain ⟨W3, hW3⟩ : ∃ X, W2.alloc (.cells #[.slice (some ⟨B + 1, 0, none⟩) N N] 36) = X := ⟨_, rfl⟩
  have hb3 : Below w.heap.size w W3 := by rw [← hW3]; exact hb2.alloc hb2.size _
  have hb23 : Below W2.heap.size W2 W3 := by rw [← hW3]; exact (Below.refl _ _).alloc (Nat.le_refl _) _
  have hs3 : W3.heap.size = B + 3 := by rw [← hW3]; simp; omega
  have hF3 : OF B N c A (fun _ => false) W3 := by
    refine ⟨(hb23.cell (show B < W2.heap.size by omega)).trans ((hb12.cell (show B < W1.heap.size by omega)).trans k1), ?_, k2.below hb23 (by omega)⟩
    rw [← hW3, ← hs2]
    exact cell_new W2 _ _ 0
  rw [hW3]
  clear k1 k2 hb1 hb2 hb12 hb23 hs1 hs2 hW1 hW2 hW3
  have hF3H := Lib.hid hF3
  clear hF3
  have hb3H := Lib.hid hb3
  clear hb3
  go_loopw [5, 6] (fun v m wr => OrdRel l B N c A w v m wr) (fun v m _ => 2 * (N - lenV v) + bN m)
  case atStart => exact ⟨fun _ => false, [], none, 0, 0, true, rfl, rfl, hF3H.out, Own.nil _ _, Topo.nil _ _, by simp, (fun h => nomatch h), hb3H.out, by omega⟩
  case round =>
    obtain ⟨f, out, A2, n, cap, b, rfl, rfl, hF, hown, htopo, hio, hmost, hb, hsz⟩ := hrel
    obtain ⟨wa, rfl⟩ : ∃ W, W = wr := ⟨_, rfl⟩
    have c0 := hF.c0
    have hnl := hown.len
    rw [nz_len] at hnl
    have hnN : n ≤ N := by rw [← hnl]; exact nodup_lt htopo.nodup htopo.lt
    cases b
    · have hmost := hmost rfl
      have fin : ∀ nq, ∀ ok : Bool, ok = decide (n = N) → OrdOwn l N w (.returned (.tuple #[.slice A2 n cap, .bool ok])) (wa.drewN nq) := fun nq ok hok =>
        ⟨⟨A2, n, cap, out, ok, rfl, (hown.below (bel_drewN (Below.refl _ _) nq)).slAt, hnl.symm, hok, htopo, hmost, bel_drewN hb nq⟩, fun b off n2 cap2 ok2 e => by
          simp only [Ending.returned.injEq, Value.tuple.injEq, Array.mk.injEq, List.cons.injEq, Value.slice.injEq] at e
          obtain ⟨⟨rfl, _, _⟩, _⟩ := e
          have := (hown.1.lt b rfl).1
          omega⟩
      have hFH := Lib.hid hF
      clear hF
      have hownH := Lib.hid hown
      clear hown
      have htopoH := Lib.hid htopo
      clear htopo
      have hioH := Lib.hid hio
      clear hio
      have hmostH := Lib.hid hmost
      clear hmost
      have hbH := Lib.hid hb
      clear hb
      have finH := Lib.hid fin
      clear fin
      obtain ⟨ok, hok⟩ : ∃ ok, decide (n = N) = ok := ⟨_, rfl⟩
      have e1 : ((n : Int) == (N : Int)) = ok := by rw [← hok, Bool.eq_iff_iff, beq_iff_eq, decide_eq_true_iff]; omega
      have hokH := Lib.hid hok
      clear hok
      go_wp2_with fail
      go_quiet (fail)
      go_wp2
      go_ret2
      exact finH.out _ _ hokH.out.symm
    · clear hmost
      have hFH := Lib.hid hF
      clear hF
      have hownH := Lib.hid hown
      clear hown
      have htopoH := Lib.hid htopo
      clear htopo
      have hioH := Lib.hid hio
      clear hio
      have hbH := Lib.hid hb
      clear hb
      go_wp2_with fail
      go_loopw [5, 6, 15] (fun v m i wr => OrdIn l B N c n A w v m i wr) (fun _ _ i _ => N - (intOf i).toNat)
      case atStart => exact ⟨0, f, out, A2, n, cap, false, Nat.zero_le _, rfl, rfl, rfl, hFH.out, hownH.out, htopoH.out, hioH.out, fun _ => ⟨rfl, fun i hi => by omega⟩, (fun h => nomatch h), hbH.out, hsz⟩
      case round =>
        obtain ⟨k, f2, out2, A3, n3, cap3, b2, hk, rfl, rfl, rfl, hF2, hown2, htopo2, hio2, hno, hyes, hb2, hsz2⟩ := hrel
        have hnl2 := hown2.len
        rw [nz_len] at hnl2
        have hnN2 : n3 ≤ N := by rw [← hnl2]; exact nodup_lt htopo2.nodup htopo2.lt
        clear c0
        by_cases hlt : k < N
        · obtain ⟨bb, off, hA, _⟩ := hlH.out.2.1 (by omega)
          subst hA
          obtain ⟨x, hx⟩ : ∃ x, l[k]? = some x := ⟨l[k]'(by have := hll; omega), List.getElem?_eq_getElem _⟩
          have hbs2 := hb2.size
          obtain ⟨d0, d1, d2, d3⟩ := cells_Work (hlH.out.below hb2) hx
          have cD := hF2.cD
          have cR := (hF2.row k hlt).1
          have hl1 : B + 1 < wr.heap.size := by omega
          have hl2 : B + 1 + 1 < wr.heap.size := by omega
          have hgk := gOf_get hx
          have hok := (hlH.out.2.2 x (List.mem_of_getElem? hx)).2.2.2
          have hgx := hglH.out k x hx
          have hba := hb2.alloc hbs2 (.cells #[.string x.id_, .slice x.needs.A x.needs.n x.needs.cap, .int .i64 x.size, .slice x.after.A x.after.n x.after.cap] 44)
          have hbr : Below wr.heap.size wr (wr.alloc (.cells #[.string x.id_, .slice x.needs.A x.needs.n x.needs.cap, .int .i64 x.size, .slice x.after.A x.after.n x.after.cap] 44)) := (Below.refl _ _).alloc (Nat.le_refl _) _
          obtain ⟨fk, hfk⟩ : ∃ b, f2 k = b := ⟨_, rfl⟩
          rw [hfk] at cR
          cases fk
          · have hkn : k ∉ out2 := fun h => by rw [(hio2 k hlt).2 h] at hfk; cases hfk
            obtain ⟨pb, hpb⟩ : ∃ b, x.after.l.any (fun s => !f2 (ixOf l s)) = b := ⟨_, rfl⟩
            have hxn : x.after.n ≤ 9223372036854775807 := Nat.le_trans hok.2.1 hok.2.2.1
            obtain ⟨Wc, hWc⟩ : ∃ X, wr.alloc (.cells #[.string x.id_, .slice x.needs.A x.needs.n x.needs.cap, .int .i64 x.size, .slice x.after.A x.after.n x.after.cap] 44) = X := ⟨_, rfl⟩
            rw [hWc] at hba hbr
            have hFc := hF2.below hbr (by omega)
            have hownc := hown2.below hbr
            have hWcs : B + 3 ≤ Wc.heap.size := by have := hbr.size; omega
            have hpred : PredL 43 #[.pointer (some ⟨B, 0, none⟩), .pointer (some ⟨B + 1 + 1, 0, none⟩)] (fun s => !f2 (ixOf l s)) x.after.l Wc := fun W s hs hW =>
              ord1_any B N c _ f2 l s W hN (hFc.below hW hWcs) ((hlH.out.below hba).below hW) hrH.out (hgx s hs)
            have hsl := hok.1.below hba
            have hxH := Lib.hid hx
            clear hx
            have hF2H := Lib.hid hF2
            clear hF2
            have hown2H := Lib.hid hown2
            clear hown2
            have htopo2H := Lib.hid htopo2
            clear htopo2
            have hio2H := Lib.hid hio2
            clear hio2
            have hnoH := Lib.hid hno
            clear hno
            have hyesH := Lib.hid hyes
            clear hyes
            have hb2H := Lib.hid hb2
            clear hb2
            have hgkH := Lib.hid hgk
            clear hgk
            have hokH := Lib.hid hok
            clear hok
            have hgxH := Lib.hid hgx
            clear hgx
            have hbaH := Lib.hid hba
            clear hba
            have hbrH := Lib.hid hbr
            clear hbr
            have hfkH := Lib.hid hfk
            clear hfk
            have hknH := Lib.hid hkn
            clear hkn
            have hpbH := Lib.hid hpb
            clear hpb
            have hFcH := Lib.hid hFc
            clear hFc
            have howncH := Lib.hid hownc
            clear hownc
            have hpredH := Lib.hid hpred
            clear hpred
            have hslH := Lib.hid hsl
            clear hsl
            have hWcH := Lib.hid hWc
            clear hWc
            go_wp2_with fail
            rw [hWcH.out]
            refine (containsFunc_any 43 #[.pointer (some ⟨B, 0, none⟩), .pointer (some ⟨B + 1 + 1, 0, none⟩)] eg (fun s => !f2 (ixOf l s)) x.after.A x.after.n x.after.cap x.after.l _ hslH.out hxn hpredH.out pb hpbH.out).mono ?_
            rintro e w5 ⟨rfl, hw5⟩
            have hF5 := hFcH.out.below hw5 hWcs
            have hown5 := howncH.out.below hw5
            have hb5 := hbaH.out.trans (hw5.mono hbaH.out.size)
            have hs5 : B + 3 ≤ w5.heap.size := by have := hw5.size; omega
            clear d0 d1 d2 d3 cD cR hFcH howncH hpredH hslH hbrH
            cases pb
            · have hall2 : ∀ q ∈ gOf l k, q ∈ out2 := by
                intro q hq
                rw [hgkH.out] at hq
                obtain ⟨s, hs, rfl⟩ := List.mem_map.1 hq
                have h1 := hpbH.out
                rw [List.any_eq_false] at h1
                have h2 := h1 s hs
                simp only [Bool.not_eq_true', Bool.not_eq_false] at h2
                exact (hio2H.out _ (by rw [← hll]; exact ixOf_lt (hgxH.out s hs))).1 h2
              have cD5 := hF5.cD
              have cR5 := (hF5.row k hlt).1
              have fR5 := (hF5.row k hlt).2
              have hne5 : (Value.slice A3 n3 cap3).ownBlock = none ∨ (Value.slice A3 n3 cap3).ownBlock ≠ some (B + 1) := by
                cases hv : (Value.slice A3 n3 cap3).ownBlock with
                | none => exact .inl rfl
                | some g => exact .inr (fun e => by injection e with e; have := (hown5.1.lt g hv).1; omega)
              have hown6 : Own RInt 3 (w5.setCell ⟨B + 1, k, none⟩ (.bool true)) (B + 3) (.slice A3 n3 cap3) (nz out2) := hown5.kept (grown_setc w5 ⟨B + 1, k, none⟩ (.bool true)) hne5 (fun _ _ h => h)
              have hF6 := hF5.set (k := k)
              have hb6 : Below w.heap.size w (w5.setCell ⟨B + 1, k, none⟩ (.bool true)) := hb5.trans (grown_below (grown_setc w5 ⟨B + 1, k, none⟩ (.bool true)) (by show w.heap.size ≤ B + 1; omega) hb5.size)
              have hs6 : B + 3 ≤ (w5.setCell ⟨B + 1, k, none⟩ (.bool true)).heap.size := by rw [World.size_setCell]; exact hs5
              have hI : I64 (k : Int) := by unfold I64; omega
              have hnew : SlAt RInt ((w5.setCell ⟨B + 1, k, none⟩ (.bool true)).alloc (.cells #[.int .i64 k] 3)) (some ⟨w5.heap.size, 0, none⟩) 1 [(k : Int)] := by
                have := slAt_new (R := RInt) (w5.setCell ⟨B + 1, k, none⟩ (.bool true)) 3 (k : Int) hI
                rwa [World.size_setCell] at this
              have hown7 := hown6.alloc (.cells #[.int .i64 k] 3)
              have hF7 : OF B N c (some ⟨bb, off, none⟩) (fun j => if j = k then true else f2 j) ((w5.setCell ⟨B + 1, k, none⟩ (.bool true)).alloc (.cells #[.int .i64 k] 3)) := hF6.below ((Below.refl _ _).alloc (Nat.le_refl _) _) hs6
              have hb7 : Below w.heap.size w ((w5.setCell ⟨B + 1, k, none⟩ (.bool true)).alloc (.cells #[.int .i64 k] 3)) := hb6.alloc hb6.size _
              clear hown5 hown6 hF5 hF6 hb6 hw5
              have hown7H := Lib.hid hown7
              clear hown7
              have hF7H := Lib.hid hF7
              clear hF7
              have hb7H := Lib.hid hb7
              clear hb7
              have hnewH := Lib.hid hnew
              clear hnew
              have hall2H := Lib.hid hall2
              clear hall2
              have hb5H := Lib.hid hb5
              clear hb5
              have hs6H := Lib.hid hs6
              clear hs6
              go_wp2_with (at_builtin; go_loud (refine wpList_app rfl (.tmp 33) (.tmp 35) 24 rfl Tryd.underlying24 elem_IntQ (by decide) rfl hown7H.out (some ⟨w5.heap.size, 0, none⟩) 1 1 [(k : Int)] rfl hnewH.out ?nn ?ok ?c1 ?c2 ?c3 (n3 + 1) ?c4 ?_))
              case nn => intro h; cases h
              case ok => exact fun _ _ _ _ h => h
              case c1 => rw [nz_len]; simp [maxLen] <;> omega
              case c2 => rw [nz_len]; omega
              case c3 => simp <;> omega
              case c4 => rw [nz_len]; omega
              intro A' c' w8 hown8 hg8 hat8 hb8
              have R : OrdIn l B N c n (some ⟨bb, off, none⟩) w (.slice A' (n3 + 1) c') (.bool true) (.int .i64 (k + 1)) w8 := by
                refine ⟨k + 1, (fun j => if j = k then true else f2 j), out2 ++ [k], A', n3 + 1, c', true, by omega, by go_num, rfl, rfl, hF7H.out.below hb8 (Nat.le_refl _), by rw [nz_snoc]; exact hown8, htopo2H.out.snoc hlt hknH.out hall2H.out, fun i hi => ?_, (fun h => nomatch h), fun _ => ?_, hb7H.out.trans (hb8.mono (by omega)), ?_⟩
                · by_cases e : i = k
                  · subst e; simp
                  · simp only [if_neg e, List.mem_append, List.mem_singleton]
                    rw [hio2H.out i hi]
                    exact ⟨.inl, fun h => h.resolve_right e⟩
                · cases b2
                  · have := (hnoH.out rfl).1; omega
                  · have := hyesH.out rfl; omega
                · have := hg8.size
                  simp at this; omega
              clear hg8 hat8 hb8 hown8
              have RH := Lib.hid R
              clear R
              go_wp2
              refine ⟨?rel, ?measure⟩
              case measure => (simp [intOf]; omega)
              case rel => first | exact RH.out | exact ⟨rfl, RH.out⟩ | ((try refine ⟨rfl, ?_⟩); (repeat apply Exists.intro); refine ⟨RH.out, ?_⟩; ((repeat' apply And.intro) <;> rfl))
            · have hex : ∃ q ∈ gOf l k, q ∉ out2 := by
                have h1 := hpbH.out
                rw [List.any_eq_true] at h1
                obtain ⟨s, hs, h2⟩ := h1
                refine ⟨ixOf l s, by rw [hgkH.out]; exact List.mem_map.2 ⟨s, hs, rfl⟩, fun h => ?_⟩
                rw [(hio2H.out _ (by rw [← hll]; exact ixOf_lt (hgxH.out s hs))).2 h] at h2
                cases h2
              have R : OrdIn l B N c n (some ⟨bb, off, none⟩) w (.slice A3 n3 cap3) (.bool b2) (.int .i64 (k + 1)) w5 := by
                refine ⟨k + 1, f2, out2, A3, n3, cap3, b2, by omega, by go_num, rfl, rfl, hF5, hown5, htopo2H.out, hio2H.out, fun h => ⟨(hnoH.out h).1, fun i hi hin => ?_⟩, hyesH.out, hb5, hs5⟩
                by_cases e : i = k
                · subst e; exact hex
                · exact (hnoH.out h).2 i (by omega) hin
              clear hF5 hown5 hb5 hw5
              have RH := Lib.hid R
              clear R
              have hexH := Lib.hid hex
              clear hex
              go_wp2
              refine ⟨?rel, ?measure⟩
              case measure => (simp [intOf]; omega)
              case rel => first | exact RH.out | exact ⟨rfl, RH.out⟩ | ((try refine ⟨rfl, ?_⟩); (repeat apply Exists.intro); refine ⟨RH.out, ?_⟩; ((repeat' apply And.intro) <;> rfl))
          · have hki : k ∈ out2 := (hio2 k hlt).1 hfk
            have R : OrdIn l B N c n (some ⟨bb, off, none⟩) w (.slice A3 n3 cap3) (.bool b2) (.int .i64 (k + 1)) (wr.alloc (.cells #[.string x.id_, .slice x.needs.A x.needs.n x.needs.cap, .int .i64 x.size, .slice x.after.A x.after.n x.after.cap] 44)) := by
              refine ⟨k + 1, f2, out2, A3, n3, cap3, b2, by omega, by go_num, rfl, rfl, hF2.below hbr (by omega), hown2.below hbr, htopo2, hio2, fun h => ⟨(hno h).1, fun i hi hin => ?_⟩, hyes, hba, by have := hbr.size; omega⟩
              by_cases e : i = k
              · subst e; exact absurd hki hin
              · exact (hno h).2 i (by omega) hin
            have hxH := Lib.hid hx
            clear hx
            have hF2H := Lib.hid hF2
            clear hF2
            have hown2H := Lib.hid hown2
            clear hown2
            have htopo2H := Lib.hid htopo2
            clear htopo2
            have hio2H := Lib.hid hio2
            clear hio2
            have hnoH := Lib.hid hno
            clear hno
            have hyesH := Lib.hid hyes
            clear hyes
            have hb2H := Lib.hid hb2
            clear hb2
            have hgkH := Lib.hid hgk
            clear hgk
            have hokH := Lib.hid hok
            clear hok
            have hgxH := Lib.hid hgx
            clear hgx
            have hbaH := Lib.hid hba
            clear hba
            have hbrH := Lib.hid hbr
            clear hbr
            have hfkH := Lib.hid hfk
            clear hfk
            have hkiH := Lib.hid hki
            clear hki
            have RH := Lib.hid R
            clear R
            go_wp2
            refine ⟨?rel, ?measure⟩
            case measure => (simp [intOf]; omega)
            case rel => first | exact RH.out | exact ⟨rfl, RH.out⟩ | ((try refine ⟨rfl, ?_⟩); (repeat apply Exists.intro); refine ⟨RH.out, ?_⟩; ((repeat' apply And.intro) <;> rfl))
        · have hkN : k = N := by omega
          have R : OrdRel l B N c A w (.slice A3 n3 cap3) (.bool b2) wr := ⟨f2, out2, A3, n3, cap3, b2, rfl, rfl, hF2, hown2, htopo2, hio2, fun h i hi hin => (hno h).2 i (by omega) hin, hb2, hsz2⟩
          have hme : 2 * (N - lenV (.slice A3 n3 cap3)) + bN (.bool b2) < 2 * (N - lenV (.slice A2 n cap)) + bN (.bool true) := by
            cases b2
            · have := (hno rfl).1
              simp only [lenV, bN]; omega
            · have := hyes rfl
              simp only [lenV, bN]; omega
          have hF2H := Lib.hid hF2
          clear hF2
          have hown2H := Lib.hid hown2
          clear hown2
          have htopo2H := Lib.hid htopo2
          clear htopo2
          have hio2H := Lib.hid hio2
          clear hio2
          have hnoH := Lib.hid hno
          clear hno
          have hyesH := Lib.hid hyes
          clear hyes
          have hb2H := Lib.hid hb2
          clear hb2
          have RH := Lib.hid R
          clear R
          have hmeH := Lib.hid hme
          clear hme
          go_wp2
          refine ⟨?rel, ?measure⟩
          case measure => exact hmeH.out
          case rel => first | exact RH.out | exact ⟨rfl, RH.out⟩ | ((try refine ⟨rfl, ?_⟩); (repeat apply Exists.intro); refine ⟨RH.out, ?_⟩; ((repeat' apply And.intro) <;> rfl))
theorem ordered_any (A : Option Addr) (N c : Nat) (l : List Work) (w : World) (hN : N ≤ 1000) (hl : SlAt RWork w A N l) (hr : l.Pairwise fun a b => cmpS a.id_ b.id_ = -1) (hall : allThere l l.length = true) :
    Calls Tryd.prog 24 #[.slice A N c] w (OrdAns l N w) := (ordered_own A N c l w hN hl hr hall).mono fun _ _ h => h.1
end Go.Proofs.YtbapkhkklglbaaaDoor.C9
