/-
  Longest in plain words; what it is of rows that hold each case once.
-/
import Derived.Test.YtbapkhkklglbaaaDoorShD
namespace Go.Proofs.YtbapkhkklglbaaaDoor
set_option linter.unusedVariables false

def secOf (cs : List TestCase) (s : ByteArray) : Option Int := (cs.find? fun c => decide (c.name = s)).map (·.seconds)
open Classical in
noncomputable def longI (cs : List TestCase) : List ByteArray → List ByteArray → Int → Except Int (List ByteArray × Int)
  | [], seen, sum => .ok (seen, sum)
  | s :: r, seen, sum => match secOf cs s with
    | none => .error 9
    | some x => if s ∈ seen then .error 7 else longI cs r (s :: seen) (sum + x)
noncomputable def longO (cs : List TestCase) : List (List ByteArray) → List ByteArray → Int → Int × Int
  | [], seen, most => if seen.length < cs.length then (0, 12) else (most, 0)
  | r :: rs, seen, most => match longI cs r seen 0 with
    | .error e => (0, e)
    | .ok q => longO cs rs q.1 (if most < q.2 then q.2 else most)
def Names (cs : List TestCase) : Prop := (cs.map (·.name)).Nodup
theorem secOf_mem {cs : List TestCase} (h : Names cs) {c : TestCase} (hc : c ∈ cs) : secOf cs c.name = some c.seconds := by
  unfold secOf
  have : cs.find? (fun x => decide (x.name = c.name)) = some c := by
    induction cs with
    | nil => cases hc
    | cons x r ih =>
      have h2 := List.nodup_cons.1 (show (x.name :: r.map (·.name)).Nodup from h)
      rw [List.find?_cons]
      rcases List.mem_cons.1 hc with rfl | hc
      · simp
      · have hne : x.name ≠ c.name := fun e => h2.1 (by rw [e]; exact List.mem_map_of_mem hc)
        rw [decide_eq_false hne]
        exact ih h2.2 hc
  rw [this]; rfl
theorem secOf_some {cs : List TestCase} {s : ByteArray} {x : Int} (h : secOf cs s = some x) : s ∈ cs.map (·.name) := by
  unfold secOf at h
  cases hf : cs.find? (fun c => decide (c.name = s)) with
  | none => rw [hf] at h; cases h
  | some c =>
    have h1 := List.find?_some hf
    have h2 := List.mem_of_find?_eq_some hf
    simp only [decide_eq_true_eq] at h1
    rw [← h1]; exact List.mem_map_of_mem h2
theorem secOf_snoc {cs : List TestCase} {c : TestCase} (h : Names (cs ++ [c])) (s : ByteArray) : secOf (cs ++ [c]) s = if s = c.name then some c.seconds else secOf cs s := by
  by_cases e : s = c.name
  · rw [if_pos e, e]; exact secOf_mem h (by simp)
  · rw [if_neg e]
    unfold secOf
    rw [List.find?_append]
    have : [c].find? (fun c => decide (c.name = s)) = none := by simp; exact fun h => e h.symm
    rw [this, Option.or_none]
theorem secOf_snoc_new {cs : List TestCase} {c : TestCase} (h : Names (cs ++ [c])) : secOf cs c.name = none := by
  cases hf : secOf cs c.name with
  | none => rfl
  | some x =>
    have := secOf_some hf
    unfold Names at h
    rw [List.map_append, List.nodup_append] at h
    exact absurd rfl (h.2.2 _ this c.name (by simp))
theorem Names.take {cs : List TestCase} (h : Names cs) (k : Nat) : Names (cs.take k) := by unfold Names; rw [List.map_take]; exact List.Sublist.nodup (List.take_sublist _ _) h
def val (cs : List TestCase) (s : ByteArray) : Int := (secOf cs s).getD 0
def sumV (cs : List TestCase) (l : List ByteArray) : Int := (l.map (val cs)).sum
theorem sum_perm {l m : List Int} (h : l.Perm m) : l.sum = m.sum := by
  induction h with
  | nil => rfl
  | cons x _ ih => rw [List.sum_cons, List.sum_cons, ih]
  | swap x y l => simp only [List.sum_cons]; omega
  | trans _ _ a b => exact a.trans b
theorem sumV_perm {cs : List TestCase} {l m : List ByteArray} (h : l.Perm m) : sumV cs l = sumV cs m := sum_perm (h.map _)
theorem sumV_names {cs : List TestCase} (h : Names cs) : ∀ {r : List TestCase}, (∀ c ∈ r, c ∈ cs) → sumV cs (r.map (·.name)) = sec r
  | [], _ => rfl
  | c :: r, hr => by
    have := sumV_names h (r := r) fun x hx => hr x (List.mem_cons_of_mem _ hx)
    unfold sumV sec at *
    rw [List.map_cons, List.map_cons, List.sum_cons, this, List.map_cons, List.sum_cons]
    unfold val
    rw [secOf_mem h (hr c List.mem_cons_self)]; rfl
theorem longI_ok {cs : List TestCase} (h : Names cs) : ∀ (l seen : List ByteArray) (sum : Int), (∀ s ∈ l, s ∈ cs.map (·.name)) → (l.reverse ++ seen).Nodup → longI cs l seen sum = .ok (l.reverse ++ seen, sum + sumV cs l)
  | [], seen, sum, _, _ => by simp [longI, sumV]
  | s :: r, seen, sum, hm, hd => by
    obtain ⟨c, hc, hn⟩ := List.mem_map.1 (hm s List.mem_cons_self)
    have hs : secOf cs s = some c.seconds := by rw [← hn]; exact secOf_mem h hc
    rw [List.reverse_cons, List.append_assoc] at hd ⊢
    have hns : s ∉ seen := by
      have := (List.nodup_append.1 hd).2.1
      exact (List.nodup_cons.1 this).1
    unfold longI
    rw [hs]
    simp only [if_neg hns]
    rw [longI_ok h r (s :: seen) _ (fun x hx => hm x (List.mem_cons_of_mem _ hx)) hd]
    have : sumV cs (s :: r) = c.seconds + sumV cs r := by unfold sumV; rw [List.map_cons, List.sum_cons]; unfold val; rw [hs]; rfl
    rw [this, Int.add_assoc]; rfl
def mostV (cs : List TestCase) (rows : List (List ByteArray)) (m : Int) : Int := rows.foldl (fun m r => if m < sumV cs r then sumV cs r else m) m
theorem longO_ok {cs : List TestCase} (h : Names cs) : ∀ (rows : List (List ByteArray)) (seen : List ByteArray) (m : Int), (∀ r ∈ rows, ∀ s ∈ r, s ∈ cs.map (·.name)) → (rows.flatten ++ seen).Nodup → seen.length + rows.flatten.length = cs.length → longO cs rows seen m = (mostV cs rows m, 0)
  | [], seen, m, _, _, hl => by
    simp at hl
    unfold longO
    rw [if_neg (by omega)]; rfl
  | r :: rows, seen, m, hm, hd, hl => by
    unfold longO
    rw [List.flatten_cons, List.append_assoc] at hd
    have hp : (rows.flatten ++ (r.reverse ++ seen)).Perm (r ++ (rows.flatten ++ seen)) := by
      have e1 : (r.reverse ++ seen).Perm (r ++ seen) := (List.reverse_perm r).append_right _
      refine (e1.append_left _).trans ?_
      rw [← List.append_assoc, ← List.append_assoc]
      exact List.perm_append_comm.append_right _
    have hd2 := hp.nodup_iff.2 hd
    rw [longI_ok h r seen 0 (hm r List.mem_cons_self) (List.nodup_append.1 hd2).2.1]
    simp only
    rw [longO_ok h rows _ _ (fun x hx => hm x (List.mem_cons_of_mem _ hx)) hd2 (by rw [List.flatten_cons, List.length_append] at hl; rw [List.length_append, List.length_reverse]; omega)]
    unfold mostV
    rw [List.foldl_cons, Int.zero_add]
theorem nodup_len : ∀ {l m : List ByteArray}, l.Nodup → (∀ s ∈ l, s ∈ m) → l.length ≤ m.length
  | [], _, _, _ => Nat.zero_le _
  | x :: r, m, hd, hs => by
    obtain ⟨a, b, rfl⟩ := List.append_of_mem (hs x List.mem_cons_self)
    have h2 := List.nodup_cons.1 hd
    have := nodup_len (m := a ++ b) h2.2 fun s h => by
      have := hs s (List.mem_cons_of_mem _ h)
      rcases List.mem_append.1 this with h3 | h3
      · exact List.mem_append.2 (.inl h3)
      · rcases List.mem_cons.1 h3 with rfl | h3
        · exact absurd h h2.1
        · exact List.mem_append.2 (.inr h3)
    simp only [List.length_cons, List.length_append] at this ⊢
    omega
/-- how many are seen tells whether all are -/
theorem seen_all {cs : List TestCase} (h : Names cs) {seen : List ByteArray} (hd : seen.Nodup) (hs : ∀ s ∈ seen, s ∈ cs.map (·.name)) : seen.length < cs.length ↔ ∃ c ∈ cs, c.name ∉ seen := by
  constructor
  · intro hl
    by_cases hx : ∃ c ∈ cs, c.name ∉ seen
    · exact hx
    · exfalso
      have hall : ∀ s ∈ cs.map (·.name), s ∈ seen := fun s hs2 => by
        obtain ⟨c, hc, rfl⟩ := List.mem_map.1 hs2
        by_cases hm : c.name ∈ seen
        · exact hm
        · exact absurd ⟨c, hc, hm⟩ hx
      have := nodup_len h hall
      rw [List.length_map] at this
      omega
  · rintro ⟨c, hc, hn⟩
    have := nodup_len (l := c.name :: seen) (m := cs.map (·.name)) (List.nodup_cons.2 ⟨hn, hd⟩) fun s h => by
      rcases List.mem_cons.1 h with rfl | h
      · exact List.mem_map_of_mem hc
      · exact hs s h
    rw [List.length_map, List.length_cons] at this
    omega
end Go.Proofs.YtbapkhkklglbaaaDoor
