/-
  How the tests stand, as Aside of the program keeps it: the healths of several tests at once, each in blocks of its own.
-/
import Derived.Test.YtoakhcajhfponaaDoorSeeC10
import Derived.Test.YtoakhcajhfponaaDoorFlakyC10
namespace Go.Proofs.YtoakhcajhfponaaDoor.C10
open Go.RowKit Go.Maps
set_option linter.unusedVariables false

section
variable {α : Type} {R : Rd α} {e : TypeId} {w w' : World} {base : Nat} {v : Value} {l : List α} {F : Nat → Prop}
theorem own_only (h : Own R e w base v l) (ho : Only F w w') (hF : ∀ k, v.ownBlock = some k → ¬ F k) (hok : ∀ x ∈ l, R.ok w x → R.ok w' x) : Own R e w' base v l := by
  refine ⟨⟨h.1.1, ?_⟩, fun x hx => hok x hx (h.2 x hx)⟩
  rcases h.1.2 with hn | ⟨g, cap, cur, rfl, hb, hg, h1⟩
  · exact .inl hn
  · have hlt : g < w.heap.size := by
      rcases Nat.lt_or_ge g w.heap.size with h | h
      · exact h
      · rw [Array.getElem?_eq_none h] at hg; cases hg
    exact .inr ⟨g, cap, cur, rfl, hb, (ho.block g hlt (hF g rfl)).trans hg, h1⟩
theorem tmap_only {P : Program} {k : TypeId} {κ β : Type} {K : KD P k κ} {val : β → Value} {b c : Nat} {f : κ → Option β} (h : TMap K val w b f c) (ho : Only F w w') (hF : ¬ F b) : TMap K val w' b f c := by
  have hlt := h.lt
  obtain ⟨D, ⟨es, clock, he, r⟩, r2⟩ := h
  exact ⟨D, ⟨es, clock, (ho.block b hlt hF).trans he, r⟩, r2⟩
end
theorem HeAt.only {F : Nat → Prop} {w w' : World} {base b mu c : Nat} {f : ByteArray → Option (Int × Int)} {x : Hst} {v : Value} (h : HeAt w base b f x mu v c) (ho : Only F w w') (hF : ∀ n, (n = b ∨ n = mu ∨ v.ownBlock = some n) → ¬ F n) : HeAt w' base b f x mu v c := by
  have hbl : b < w.heap.size := cell?_lt h.c0
  have hb := ho.block b hbl (hF b (.inl rfl))
  have cc : ∀ j, w'.cell? ⟨b, j, none⟩ = w.cell? ⟨b, j, none⟩ := fun j => World.cell?_of_block (a := ⟨b, j, none⟩) hb
  exact ⟨(cc 0).trans h.c0, (cc 1).trans h.c1, (cc 2).trans h.c2, (cc 3).trans h.c3, fun j => (World.frozen?_of_block (a := ⟨b, j, none⟩) hb).trans (h.fz j), tmap_only h.map ho (hF mu (.inr (.inl rfl))), own_only h.own ho (fun k hk => hF k (.inr (.inr hk))) (fun _ _ h => h), h.ne, h.nv, h.nm⟩

/-! ### the states, in plain words -/
def hst0 : Hst := ⟨[], false, 0⟩
def hstK (many window good : Int) (l : List TestRun) : Nat → ByteArray → Option Hst
  | 0 => fun _ => none
  | k + 1 => match l[k]? with
    | some r => upd (hstK many window good l k) r.test (stepH many window good (shakenB (tal (l.take k) (r.test, r.key)) r.pass) r ((hstK many window good l k r.test).getD hst0))
    | none => hstK many window good l k
theorem hstK_succ {many window good : Int} {l : List TestRun} {k : Nat} {r : TestRun} (h : l[k]? = some r) :
    hstK many window good l (k + 1) = upd (hstK many window good l k) r.test (stepH many window good (shakenB (tal (l.take k) (r.test, r.key)) r.pass) r ((hstK many window good l k r.test).getD hst0)) := by rw [hstK, h]

theorem filter_len {α : Type} (p : α → Bool) (l : List α) (n : Nat) (h : l.length ≤ n) : (l.filter p).length ≤ n := Nat.le_trans (List.length_filter_le _ _) h
theorem stepH_bound (many window good : Int) (k : Bool) (r : TestRun) (x : Hst) (n : Nat) (h1 : x.sh.length ≤ n) (h2 : 0 ≤ x.good) (h3 : x.good ≤ n) :
    (stepH many window good k r x).sh.length ≤ n + 1 ∧ 0 ≤ (stepH many window good k r x).good ∧ (stepH many window good k r x).good ≤ n + 1 := by
  have hs : (if k = true then x.sh ++ [r.at_] else x.sh).length ≤ n + 1 := by
    split
    · rw [List.length_append]; simp; omega
    · omega
  have hf := filter_len (fun t => !decide (t ≤ r.at_ - window)) _ _ hs
  unfold stepH
  by_cases ha : x.aside = true
  · rw [if_pos ha]
    by_cases hp : r.pass = true
    · rw [if_pos hp]
      by_cases hg : good ≤ x.good + 1
      · rw [if_pos hg]; simp only [List.length_nil]; omega
      · rw [if_neg hg]; simp only; omega
    · rw [if_neg hp]
      by_cases hg : good ≤ 0
      · rw [if_pos hg]; simp only [List.length_nil]; omega
      · rw [if_neg hg]; simp only; omega
  · rw [if_neg ha]
    by_cases hm : many ≤ (((if k = true then x.sh ++ [r.at_] else x.sh).filter fun t => !decide (t ≤ r.at_ - window)).length : Int)
    · rw [if_pos hm]; simp only; omega
    · rw [if_neg hm]; simp only; omega
theorem hstK_bound (many window good : Int) (l : List TestRun) : ∀ (k : Nat) (s : ByteArray) (x : Hst), hstK many window good l k s = some x → x.sh.length ≤ k ∧ 0 ≤ x.good ∧ x.good ≤ k
  | 0, s, x, h => by cases h
  | k + 1, s, x, h => by
    have ih := hstK_bound many window good l k
    cases hr : l[k]? with
    | none =>
      rw [hstK, hr] at h
      have := ih s x h
      omega
    | some r =>
      rw [hstK_succ hr] at h
      unfold upd at h
      split at h
      · injection h with h
        subst h
        have hb : ((hstK many window good l k r.test).getD hst0).sh.length ≤ k ∧ 0 ≤ ((hstK many window good l k r.test).getD hst0).good ∧ ((hstK many window good l k r.test).getD hst0).good ≤ k := by
          cases hx : hstK many window good l k r.test with
          | none => simp [hst0]
          | some y => simpa using ih _ _ hx
        have := stepH_bound many window good (shakenB (tal (l.take k) (r.test, r.key)) r.pass) r _ k hb.1 hb.2.1 hb.2.2
        omega
      · have := ih s x h
        omega
theorem hstK_mem (many window good : Int) (l : List TestRun) : ∀ (k : Nat) (s : ByteArray), (∃ r ∈ l.take k, r.test = s) ↔ (hstK many window good l k s).isSome = true
  | 0, s => by simp [hstK]
  | k + 1, s => by
    have ih := hstK_mem many window good l k s
    cases hr : l[k]? with
    | none =>
      have : l.take (k + 1) = l.take k := by rw [List.take_add_one, hr]; simp
      rw [hstK, hr, this]
      exact ih
    | some r =>
      rw [hstK_succ hr, List.take_add_one, hr]
      unfold upd
      simp only [Option.toList_some, List.mem_append, List.mem_singleton]
      by_cases e : s = r.test
      · rw [if_pos e]
        exact ⟨fun _ => rfl, fun _ => ⟨r, .inr rfl, e.symm⟩⟩
      · rw [if_neg e, ← ih]
        constructor
        · rintro ⟨q, hq | hq, hs⟩
          · exact ⟨q, hq, hs⟩
          · subst hq; exact absurd hs.symm e
        · rintro ⟨q, hq, hs⟩
          exact ⟨q, .inl hq, hs⟩
theorem hstK_take (many window good : Int) (l : List TestRun) (m : Nat) : ∀ k, k ≤ m → hstK many window good (l.take m) k = hstK many window good l k
  | 0, _ => rfl
  | k + 1, h => by
    have ih := hstK_take many window good l m k (by omega)
    have e : (l.take m)[k]? = l[k]? := by rw [List.getElem?_take, if_pos (by omega)]
    rw [hstK, hstK, e, ih]
    cases l[k]? with
    | none => rfl
    | some r =>
      simp only
      rw [List.take_take, Nat.min_eq_left (by omega)]

/-- a test's runs by their key -/
def tl (l : List TestRun) (s : ByteArray) : ByteArray → Option (Int × Int) := fun k => talF l (s, k)
theorem tl_same (l : List TestRun) (r : TestRun) : upd (tl l r.test) r.key (tallyOn (tal l (r.test, r.key)) r.pass) = tl (l ++ [r]) r.test := by
  funext k
  have h := congrFun (talF_snoc l r) (r.test, k)
  unfold tl
  rw [← h]
  unfold upd
  by_cases e : k = r.key
  · subst e
    rw [if_pos rfl, if_pos rfl, tal_snoc, if_pos rfl]
    rfl
  · rw [if_neg e, if_neg (fun h => e (by injection h))]
theorem tl_other (l : List TestRun) (r : TestRun) {s : ByteArray} (hs : s ≠ r.test) : tl (l ++ [r]) s = tl l s := by
  funext k
  have h := congrFun (talF_snoc l r) (s, k)
  unfold tl
  rw [← h]
  unfold upd
  rw [if_neg (fun h => hs (by injection h))]
theorem tl_none (l : List TestRun) (s : ByteArray) (h : ¬ ∃ r ∈ l, r.test = s) : tl l s = fun _ => none := by
  funext k
  unfold tl talF
  by_cases e : tal l (s, k) = (0, 0)
  · rw [if_pos e]
  · obtain ⟨r, hr, hx⟩ := tal_mem l (s, k) e
    exact absurd ⟨r, hr, by injection hx⟩ h
theorem tl_get (l : List TestRun) (s k : ByteArray) : (tl l s k).getD (0, 0) = tal l (s, k) := by
  unfold tl talF
  split
  · rename_i h; rw [h]; rfl
  · rfl

/-! ### where they stand -/
structure Ent where
  b : Nat
  mu : Nat
  v : Value
  c : Nat
  x : Hst
def foot (e : Ent) (n : Nat) : Prop := n = e.b ∨ n = e.mu ∨ e.v.ownBlock = some n
structure Fam (w : World) (base M : Nat) (g : ByteArray → ByteArray → Option (Int × Int)) (h : ByteArray → Option Hst) (n : Nat) (fam : ByteArray → Option Ent) : Prop where
  he : ∀ s e, fam s = some e → HeAt w base e.b (g s) e.x e.mu e.v e.c
  st : ∀ s, (fam s).map (·.x) = h s
  dis : ∀ s s' e e', fam s = some e → fam s' = some e' → s ≠ s' → ∀ n, foot e n → ¬ foot e' n
  out : ∀ s e, fam s = some e → ¬ foot e M
  le : ∀ s e, fam s = some e → e.c ≤ n
  ge : ∀ s e, fam s = some e → ∀ k, foot e k → base ≤ k

theorem HeAt.foot_lt {w : World} {base : Nat} {e : Ent} {f : ByteArray → Option (Int × Int)} (h : HeAt w base e.b f e.x e.mu e.v e.c) : ∀ n, foot e n → n < w.heap.size := by
  rintro n (rfl | rfl | hn)
  · exact cell?_lt h.c0
  · exact h.map.lt
  · exact (h.own.1.lt n hn).2
theorem Fam.below {w w' : World} {base M n : Nat} {g : ByteArray → ByteArray → Option (Int × Int)} {h : ByteArray → Option Hst} {fam : ByteArray → Option Ent} (hF : Fam w base M g h n fam) (hb : Below w.heap.size w w') : Fam w' base M g h n fam :=
  ⟨fun s e hs => (hF.he s e hs).below hb, hF.st, hF.dis, hF.out, hF.le, hF.ge⟩
theorem Fam.grownM {w w' : World} {base M n : Nat} {g : ByteArray → ByteArray → Option (Int × Int)} {h : ByteArray → Option Hst} {fam : ByteArray → Option Ent} (hF : Fam w base M g h n fam) (hg : w.grownBy w' (some M)) : Fam w' base M g h n fam := by
  have ho : Only (fun k => k = M) w w' := ⟨hg.os, hg.tape, hg.output, hg.size, fun k hk hne => hg.block k hk (fun e => hne (by injection e))⟩
  exact ⟨fun s e hs => (hF.he s e hs).only ho (fun n hn hM => by subst hM; exact hF.out s e hs hn), hF.st, hF.dis, hF.out, hF.le, hF.ge⟩

/-- one test more, or one that stood, in blocks that are its own or new -/
theorem Fam.put {w w' : World} {base M n : Nat} {g g' : ByteArray → ByteArray → Option (Int × Int)} {h : ByteArray → Option Hst} {fam : ByteArray → Option Ent} (hF : Fam w base M g h n fam) (t : ByteArray) (e' : Ent) (F : Nat → Prop)
    (ho : Only F w w') (hFM : ∀ k, foot e' k → k < w.heap.size → F k) (hFo : ∀ s e, s ≠ t → fam s = some e → ∀ k, foot e k → ¬ F k) (hM : ¬ F M) (hMl : M < w.heap.size)
    (he : HeAt w' base e'.b (g' t) e'.x e'.mu e'.v e'.c) (hg : ∀ s, s ≠ t → g' s = g s) (hc : e'.c ≤ n + 1) (hge : ∀ k, foot e' k → base ≤ k) : Fam w' base M g' (upd h t e'.x) (n + 1) (upd fam t e') := by
  have hlt : ∀ s e, fam s = some e → ∀ k, foot e k → k < w.heap.size := fun s e hs => (hF.he s e hs).foot_lt
  refine ⟨fun s e hs => ?_, fun s => ?_, fun s s' e1 e2 h1 h2 hne k hk1 hk2 => ?_, fun s e hs hk => ?_, fun s e hs => ?_, fun s e hs => ?_⟩
  · unfold upd at hs
    split at hs
    · rename_i e0
      injection hs with hs
      subst hs e0
      exact he
    · rename_i e0
      rw [hg s e0]
      exact (hF.he s e hs).only ho (fun k hk => hFo s e e0 hs k hk)
  · unfold upd
    split
    · rfl
    · exact hF.st s
  · unfold upd at h1 h2
    split at h1
    · rename_i e0
      subst e0
      injection h1 with h1
      subst h1
      rw [if_neg (fun h => hne h.symm)] at h2
      exact hFo s' e2 (fun h => hne h.symm) h2 k hk2 (hFM k hk1 (hlt s' e2 h2 k hk2))
    · rename_i e0
      split at h2
      · injection h2 with h2
        subst h2
        exact hFo s e1 e0 h1 k hk1 (hFM k hk2 (hlt s e1 h1 k hk1))
      · exact hF.dis s s' e1 e2 h1 h2 hne k hk1 hk2
  · unfold upd at hs
    split at hs
    · injection hs with hs
      subst hs
      exact hM (hFM M hk hMl)
    · exact hF.out s e hs hk
  · unfold upd at hs
    split at hs
    · injection hs with hs
      subst hs
      exact hc
    · have := hF.le s e hs
      omega
  · unfold upd at hs
    split at hs
    · injection hs with hs
      subst hs
      exact hge
    · exact hF.ge s e hs
theorem only_below {F : Nat → Prop} {a b : World} {B : Nat} (ho : Only F a b) (h : ∀ n, F n → B ≤ n) (hB : B ≤ a.heap.size) : Below B a b :=
  ⟨ho.os, ho.tape, ho.output, ho.size, fun k hk => ho.block k (by omega) (fun hF => by have := h k hF; omega)⟩
end Go.Proofs.YtoakhcajhfponaaDoor.C10
