/-
  Aside of the program.
-/
import Derived.Test.YtoakhcajhfponaaDoorAsideDC10
namespace Go.Proofs.YtoakhcajhfponaaDoor.C10
open Go.RowKit Go.Maps Go.Deep
set_option linter.unusedVariables false

def valP (o : Option Nat) : Value := .pointer (o.map fun b => ⟨b, 0, none⟩)
theorem injP : InjV valP := fun a b h => by
  unfold valP at h
  injection h with h
  cases a <;> cases b <;> simp at h ⊢
  exact h
theorem zeroP (w : World) : (zeroValue 131).run Tryd.prog w = .ok (valP none) w := by kernel_rfl
theorem valP_none : valP none = .pointer none := rfl
theorem valP_some (b : Nat) : valP (some b) = .pointer (some ⟨b, 0, none⟩) := rfl
def ptrs (fam : ByteArray → Option Ent) : ByteArray → Option (Option Nat) := fun s => (fam s).map (fun e => some e.b)
theorem ptrs_upd (fam : ByteArray → Option Ent) (t : ByteArray) (e : Ent) : ptrs (upd fam t e) = upd (ptrs fam) t (some e.b) := by
  funext s
  unfold ptrs upd
  by_cases h : s = t
  · rw [if_pos h, if_pos h]; rfl
  · rw [if_neg h, if_neg h]
theorem ptrs_same (fam : ByteArray → Option Ent) (t : ByteArray) (e e' : Ent) (h : fam t = some e) (hb : e'.b = e.b) : ptrs (upd fam t e') = ptrs fam := by
  rw [ptrs_upd]
  funext s
  unfold upd ptrs
  by_cases hs : s = t
  · rw [if_pos hs, hs, h, hb]; rfl
  · rw [if_neg hs]

def AsRel (l : List TestRun) (many window good at_ : Int) (M : Nat) (w0 : World) (i : Value) (wr : World) : Prop :=
  ∃ (k : Nat) (fam : ByteArray → Option Ent) (cM : Nat), k ≤ cntAt l at_ ∧ i = .int .i64 k ∧ TMap KB valP wr M (ptrs fam) cM ∧ cM ≤ k ∧ Fam wr w0.heap.size M (tl (l.take k)) (hstK many window good l k) k fam ∧ Below w0.heap.size w0 wr

theorem mem_taken (l : List TestRun) (many window good : Int) (k : Nat) (s : ByteArray) (h : hstK many window good l k s = none) : tl (l.take k) s = fun _ => none :=
  tl_none _ _ (fun he => by have := (hstK_mem many window good l k s).1 he; rw [h] at this; cases this)
theorem elem_StrA : Elem Tryd.prog 9 RStr.size 16 := elem_of (z := .string ByteArray.empty) (by kernel_rfl) (by decide)
theorem nodup_dat {L : List ByteArray} (h : L.Nodup) : (dat L).Nodup := by
  unfold dat
  refine List.pairwise_map.2 (h.imp fun {a b} hne e => hne ?_)
  rw [← bsOf_data a, ← bsOf_data b, e]

/-- the names gathered from the map, 'left' being still to come -/
def RgRel (fam : ByteArray → Option Ent) (M cM r : Nat) (W3 : World) (v : Value) (wr : World) : Prop :=
  ∃ (left : ByteArray → Bool) (cnt : Nat) (L : List ByteArray) (A : Option Addr) (n cap : Nat), v = .slice A n cap ∧ TRange KB valP wr M r cM (ptrs fam) left cnt ∧ Own RStr 9 wr (r + 1) v L ∧ L.Nodup ∧
    (∀ s, s.size ≤ maxLen → (s ∈ L ↔ left s = false ∧ ∃ e, fam s = some e ∧ e.x.aside = true)) ∧ L.length + cnt ≤ cM ∧ Below W3.heap.size W3 wr ∧ r + 1 ≤ wr.heap.size


set_option maxRecDepth 100000 in
set_option maxHeartbeats 4000000 in
theorem aside_ok (A : Option Addr) (len cap : Nat) (l : List TestRun) (many window good at_ : Int) (w : World) (hm : MaxLenAt w) (hl : SlAt RTestRun w A len l) (hh : histF l = 0) (i1 : inR 1 100 many = true) (i2 : inR 1 1000000000 window = true) (i3 : inR 1 100 good = true) (i4 : inR 0 1000000000 at_ = true) :
    Calls Tryd.prog 41 #[.slice A len cap, .int .i64 many, .int .i64 window, .int .i64 good, .int .i64 at_] w fun e w' => ∃ A' n' c' L, e = .returned (.tuple #[.slice A' n' c', .int .i64 0]) ∧ SlAt RStr w' A' n' L ∧ AsideAns l many window good at_ 0 L ∧ n' ≤ 3000 ∧ Below w.heap.size w w' := by
  have hll := hl.1
  have hmk := @run_makeMap Tryd.prog
  have hok : ∀ r ∈ l, r.test.size ≤ maxLen ∧ r.key.size ≤ maxLen := fun r hr => ⟨(hl.2.2 r hr).1, (hl.2.2 r hr).2.1⟩
  obtain ⟨hl3, hats⟩ := histF_ok hh
  have hcl := cntAt_le l at_
  have j1 := inR_true i1
  have j2 := inR_true i2
  have j3 := inR_true i3
  have j4 := inR_true i4
  have hmH := Lib.hid hm
  clear hm
  have hlH := Lib.hid hl
  clear hl
  have hhH := Lib.hid hh
  clear hh
  have hokH := Lib.hid hok
  clear hok
  have hatsH := Lib.hid hats
  clear hats
  go_enter Tryd.func41, Tryd.ntmps41
  go_wp2_with fail
  refine (hist_any A len cap l _ hmH.out hlH.out 0 hhH.out).mono ?_
  rintro e w1 ⟨rfl, hw1⟩
  have hw1H := Lib.hid hw1
  clear hw1
  go_wp2_with (go_at_call 93; refine (within_p _ _ _ _).mono ?_; rintro e wz ⟨rfl, rfl⟩)
  obtain ⟨w1, rfl⟩ : ∃ W, W = wz := ⟨_, rfl⟩
  obtain ⟨M, hM⟩ : ∃ M, w1.heap.size = M := ⟨_, rfl⟩
  have hbm := hw1H.out.alloc hw1H.out.size (.map #[] 0)
  have hmm := TMap.made w1 KB valP
  rw [hM] at hmm
  rw [hM]
  obtain ⟨Wm, hWm⟩ : ∃ X, w1.alloc (.map #[] 0) = X := ⟨_, rfl⟩
  rw [hWm] at hbm hmm ⊢
  have hWs : Wm.heap.size = M + 1 := by rw [← hWm, ← hM]; simp
  have hwM : w.heap.size ≤ M := by rw [← hM]; exact hw1H.out.size
  clear hM hWm
  have hbmH := Lib.hid hbm
  clear hbm
  have hmmH := Lib.hid hmm
  clear hmm
  go_loopw [45] (fun i wr => AsRel l many window good at_ M w i wr) (fun i _ => len - (intOf i).toNat)
  case atStart => exact ⟨0, fun _ => none, 0, Nat.zero_le _, rfl, hmmH.out, Nat.le_refl _, ⟨(fun _ _ h => nomatch h), fun _ => rfl, (fun _ _ _ _ h => nomatch h), (fun _ _ h => nomatch h), (fun _ _ h => nomatch h), (fun _ _ h => nomatch h)⟩, hbmH.out⟩
  case round =>
    obtain ⟨k, fam, cM, hk, rfl, hmap, hcM, hfam, hb⟩ := hrel
    obtain ⟨wa, rfl⟩ : ∃ W, W = wr := ⟨_, rfl⟩
    have hbs := hb.size
    have hMw : M < wa.heap.size := hmap.lt
    have hcM3 : cM ≤ 3000 := by omega
    by_cases hlt : k < len
    · obtain ⟨b0, off, hA, _⟩ := hlH.out.2.1 (by omega)
      subst hA
      obtain ⟨x, hx⟩ : ∃ x, l[k]? = some x := ⟨l[k]'(by omega), List.getElem?_eq_getElem _⟩
      obtain ⟨c0, c1, c2, c3, c4⟩ := cells_TestRun (hlH.out.below hb) hx
      have hat := hatsH.out x (List.mem_of_getElem? hx)
      obtain ⟨hgd, hgk⟩ := hokH.out x (List.mem_of_getElem? hx)
      obtain ⟨te, ke, ta, ps, se⟩ := x
      simp only at c0 c1 c2 c3 c4 hat hgd hgk
      have hbc : Below wa.heap.size wa (wa.alloc (.cells #[.string te, .string ke, .int .i64 ta, .bool ps, .int .i64 se] 79)) := (Below.refl _ _).alloc (Nat.le_refl _) _
      have hmapc := hmap.below hbc hMw
      have hfamc := hfam.below hbc
      have hba := hb.trans (hbc.mono hbs)
      by_cases hcut : ta ≤ at_
      · have hkc : k < cntAt l at_ := by
          rcases Nat.lt_or_ge k (cntAt l at_) with h | h
          · exact h
          · have := cntAt_end (at_ := at_) hx (by omega)
            simp only at this
            omega
        have htk : l.take (k + 1) = l.take k ++ [⟨te, ke, ta, ps, se⟩] := by rw [List.take_add_one, hx]; rfl
        have hhs := hstK_succ (many := many) (window := window) (good := good) hx
        simp only at hhs
        obtain ⟨p, q, hpq⟩ : ∃ p q, tal (l.take k) (te, ke) = (p, q) := ⟨_, _, rfl⟩
        obtain ⟨t1, t2, t3⟩ := tal_nonneg (l.take k) (te, ke)
        rw [hpq] at t1 t2 t3 hhs
        simp only [List.length_take] at t1 t2 t3
        have hts := tl_same (l.take k) ⟨te, ke, ta, ps, se⟩
        simp only at hts
        rw [hpq, ← htk] at hts
        have hto : ∀ s, s ≠ te → tl (l.take (k + 1)) s = tl (l.take k) s := fun s hs => by rw [htk]; exact tl_other _ _ hs
        have hgk0 := tl_get (l.take k) te ke
        rw [hpq] at hgk0
        cases hfe : fam te with
        | some e =>
          have he := hfamc.he te e hfe
          have hst : hstK many window good l k te = some e.x := by rw [← hfam.st te, hfe]; rfl
          obtain ⟨g1, g2, g3⟩ := hstK_bound many window good l k te e.x hst
          have hce := hfam.le te e hfe
          have hlk : (Instr.lookup 130 (.map (some M)) (.string te) false).run Tryd.prog (wa.alloc (.cells #[.string te, .string ke, .int .i64 ta, .bool ps, .int .i64 se] 79)) = .ok (.pointer (some ⟨e.b, 0, none⟩)) (wa.alloc (.cells #[.string te, .string ke, .int .i64 ta, .bool ps, .int .i64 se] 79)) := by
            have := (hmapc.look (t := 130) Tryd.underlying130 (zeroP _) injP (x := te) hgd).1
            rw [show ptrs fam te = some (some e.b) by unfold ptrs; rw [hfe]; rfl] at this
            exact this
          rw [hst, Option.getD_some] at hhs
          have hp : 0 ≤ p ∧ p ≤ 3000 := by omega
          have hq : 0 ≤ q ∧ q ≤ 3000 := by omega
          have hgs : 0 ≤ e.x.good ∧ e.x.good ≤ 3000 := by omega
          have hbas := hba.size
          clear t1 t2 t3 g2 g3
          have hxH := Lib.hid hx
          clear hx
          have hatH := Lib.hid hat
          clear hat
          have hgdH := Lib.hid hgd
          clear hgd
          have hgkH := Lib.hid hgk
          clear hgk
          have hbcH := Lib.hid hbc
          clear hbc
          have hmapcH := Lib.hid hmapc
          clear hmapc
          have hfamcH := Lib.hid hfamc
          clear hfamc
          have hbaH := Lib.hid hba
          clear hba
          have htkH := Lib.hid htk
          clear htk
          have hhsH := Lib.hid hhs
          clear hhs
          have hpqH := Lib.hid hpq
          clear hpq
          have htsH := Lib.hid hts
          clear hts
          have htoH := Lib.hid hto
          clear hto
          have hgk0H := Lib.hid hgk0
          clear hgk0
          have hstH := Lib.hid hst
          clear hst
          have hmapH := Lib.hid hmap
          clear hmap
          have hfamH := Lib.hid hfam
          clear hfam
          have hbH := Lib.hid hb
          clear hb
          have hfeH := Lib.hid hfe
          clear hfe
          have heH := Lib.hid he
          clear he
          have hpH := Lib.hid hp
          clear hp
          have hqH := Lib.hid hq
          clear hq
          have hgsH := Lib.hid hgs
          clear hgs
          have hceH := Lib.hid hce
          clear hce
          have g1H := Lib.hid g1
          clear g1
          have hbasH := Lib.hid hbas
          clear hbas
          go_wp2_with fail
          refine (see_any _ w.heap.size e.b e.mu e.c e.v (tl (l.take k) te) e.x ⟨te, ke, ta, ps, se⟩ many window good heH.out hbasH.out hgkH.out hatH.out j1 j2 j3 p q hgk0H.out hpH.out hqH.out hgsH.out (by have := g1H.out; omega) (by have := hceH.out; omega)).mono ?_
          rintro e' w6 ⟨rfl, v', c', he6, hc6, hv6, hon⟩
          simp only at he6 hc6 hv6
          rw [htsH.out] at he6
          obtain ⟨X, hX⟩ : ∃ X, stepH many window good (shakenB (p, q) ps) ⟨te, ke, ta, ps, se⟩ e.x = X := ⟨_, rfl⟩
          rw [hX] at he6
          have hhs2 := hhsH.out
          rw [hX] at hhs2
          have hge := hfamH.out.ge te e hfeH.out
          have hMf := hfamH.out.out te e hfeH.out
          have hfoot : ∀ n, foot ⟨e.b, e.mu, v', c', X⟩ n → n < (wa.alloc (.cells #[.string te, .string ke, .int .i64 ta, .bool ps, .int .i64 se] 79)).heap.size → foot e n := by
            rintro n (h | h | h) hn
            · exact .inl h
            · exact .inr (.inl h)
            · exact .inr (.inr (hv6 n h hn))
          have hge6 : ∀ n, foot ⟨e.b, e.mu, v', c', X⟩ n → w.heap.size ≤ n := fun n h => by
            rcases Nat.lt_or_ge n (wa.alloc (.cells #[.string te, .string ke, .int .i64 ta, .bool ps, .int .i64 se] 79)).heap.size with hn | hn
            · exact hge n (hfoot n h hn)
            · have := hbasH.out; omega
          have hfam6 := hfamcH.out.put te ⟨e.b, e.mu, v', c', X⟩ (foot e) hon hfoot (fun s e2 hs he2 n h1 h2 => hfamH.out.dis s te e2 e he2 hfeH.out hs n h1 h2) hMf hmapcH.out.lt he6 (fun s hs => htoH.out s hs) (by have := hceH.out; simp only; omega) hge6
          rw [← hhs2] at hfam6
          have hb6 := hbaH.out.trans (only_below hon hge hbasH.out)
          have hmap6 : TMap KB valP w6 M (ptrs (upd fam te ⟨e.b, e.mu, v', c', X⟩)) cM := by
            rw [ptrs_same fam te e ⟨e.b, e.mu, v', c', X⟩ hfeH.out rfl]
            exact tmap_only hmapcH.out hon hMf
          have R : AsRel l many window good at_ M w (.int .i64 (k + 1)) w6 := ⟨k + 1, _, cM, hkc, by go_num, hmap6, by omega, hfam6, hb6⟩
          clear he6 hc6 hv6 hon hfoot hge6 hfam6 hb6 hmap6 hge hMf hX hhs2
          have RH := Lib.hid R
          clear R
          go_wp2
          refine ⟨?rel, ?measure⟩
          case measure => (simp [intOf]; omega)
          case rel => first | exact RH.out | exact ⟨rfl, RH.out⟩ | ((try refine ⟨rfl, ?_⟩); (repeat apply Exists.intro); refine ⟨RH.out, ?_⟩; ((repeat' apply And.intro) <;> rfl))
        | none =>
          have hst : hstK many window good l k te = none := by rw [← hfam.st te, hfe]; rfl
          have htl := mem_taken l many window good k te hst
          have hlk : (Instr.lookup 130 (.map (some M)) (.string te) false).run Tryd.prog (wa.alloc (.cells #[.string te, .string ke, .int .i64 ta, .bool ps, .int .i64 se] 79)) = .ok (.pointer none) (wa.alloc (.cells #[.string te, .string ke, .int .i64 ta, .bool ps, .int .i64 se] 79)) := by
            have := (hmapc.look (t := 130) Tryd.underlying130 (zeroP _) injP (x := te) hgd).1
            rw [show ptrs fam te = none by unfold ptrs; rw [hfe]; rfl] at this
            exact this
          have hxH := Lib.hid hx
          clear hx
          have hatH := Lib.hid hat
          clear hat
          have hgdH := Lib.hid hgd
          clear hgd
          have hgkH := Lib.hid hgk
          clear hgk
          have hbcH := Lib.hid hbc
          clear hbc
          have hmapcH := Lib.hid hmapc
          clear hmapc
          have hfamcH := Lib.hid hfamc
          clear hfamc
          have hbaH := Lib.hid hba
          clear hba
          have htkH := Lib.hid htk
          clear htk
          have hhsH := Lib.hid hhs
          clear hhs
          have hpqH := Lib.hid hpq
          clear hpq
          have htsH := Lib.hid hts
          clear hts
          have htoH := Lib.hid hto
          clear hto
          have hgk0H := Lib.hid hgk0
          clear hgk0
          have hstH := Lib.hid hst
          clear hst
          have htlH := Lib.hid htl
          clear htl
          have hmapH := Lib.hid hmap
          clear hmap
          have hfamH := Lib.hid hfam
          clear hfam
          have hbH := Lib.hid hb
          clear hb
          have hfeH := Lib.hid hfe
          clear hfe
          have hmE := (hmapcH.out.alloc (.map #[] 0)).alloc (.cells #[.map (some (wa.heap.size + 1)), .slice none 0 0, .bool false, .int .i64 0] 134)
          have hg1 : (wa.alloc (.cells #[.string te, .string ke, .int .i64 ta, .bool ps, .int .i64 se] 79)).grownBy ((wa.alloc (.cells #[.string te, .string ke, .int .i64 ta, .bool ps, .int .i64 se] 79)).alloc (.map #[] 0)) none := World.grownBy_alloc _ _ _
          have hg2 := World.grownBy_alloc ((wa.alloc (.cells #[.string te, .string ke, .int .i64 ta, .bool ps, .int .i64 se] 79)).alloc (.map #[] 0)) (.cells #[.map (some (wa.heap.size + 1)), .slice none 0 0, .bool false, .int .i64 0] 134) none
          have hcc := fun j => cell_new wa #[.string te, .string ke, .int .i64 ta, .bool ps, .int .i64 se] 79 j
          have hMne : ∀ j : Nat, some (wa.heap.size + j) ≠ some M := fun j e => by injection e; omega
          have hX5 : ∀ w5, (((wa.alloc (.cells #[.string te, .string ke, .int .i64 ta, .bool ps, .int .i64 se] 79)).alloc (.map #[] 0)).alloc (.cells #[.map (some (wa.heap.size + 1)), .slice none 0 0, .bool false, .int .i64 0] 134)).grownBy w5 (some M) → ∀ j, w5.cell? ⟨wa.heap.size, j, none⟩ = (#[Value.string te, .string ke, .int .i64 ta, .bool ps, .int .i64 se] : Array Value)[j]? := fun w5 hg5 j => by
            rw [World.cell?_of_block (a := ⟨wa.heap.size, j, none⟩) (hg5.block wa.heap.size (by simp; omega) (hMne 0)), World.cell?_alloc_lt _ _ _ (by simp; omega), World.cell?_alloc_lt _ _ _ (by simp)]
            exact hcc j
          have hpB : 0 ≤ p ∧ p ≤ 3000 := by omega
          have hqB : 0 ≤ q ∧ q ≤ 3000 := by omega
          clear t1 t2 t3
          have hmEH := Lib.hid hmE
          clear hmE
          have hg1H := Lib.hid hg1
          clear hg1
          have hg2H := Lib.hid hg2
          clear hg2
          have hX5H := Lib.hid hX5
          clear hX5
          have hMneH := Lib.hid hMne
          clear hMne
          clear hcc
          go_wp2_with (at_mapUpdate; go_loud (refine wpList_tstore rfl (.tmp 58) (.tmp 60) (.tmp 63) 130 rfl Tryd.underlying130 injP rfl hmEH.out (by simp only [maxLen]; omega) te rfl hgdH.out (some (wa.heap.size + 1 + 1)) rfl ?_); intro w5 hm5 hg5; have hlk5 : (Instr.lookup 130 (.map (some M)) (.string te) false).run Tryd.prog w5 = .ok (.pointer (some ⟨wa.heap.size + 1 + 1, 0, none⟩)) w5 := (by have := (hm5.look (t := 130) Tryd.underlying130 (zeroP w5) injP (x := te) hgdH.out).1; rw [show upd (ptrs fam) te (some (wa.heap.size + 1 + 1)) te = some (some (wa.heap.size + 1 + 1)) from if_pos rfl] at this; exact this); have x0 := hX5H.out w5 hg5 0; have x1 := hX5H.out w5 hg5 1; have x2 := hX5H.out w5 hg5 2; have x3 := hX5H.out w5 hg5 3; have x4 := hX5H.out w5 hg5 4; simp only [List.getElem?_toArray, List.getElem?_cons_succ, List.getElem?_cons_zero] at x0 x1 x2 x3 x4; have hm5H := Lib.hid hm5; clear hm5; have hg5H := Lib.hid hg5; clear hg5)
          have heE : HeAt (((wa.alloc (.cells #[.string te, .string ke, .int .i64 ta, .bool ps, .int .i64 se] 79)).alloc (.map #[] 0)).alloc (.cells #[.map (some (wa.heap.size + 1)), .slice none 0 0, .bool false, .int .i64 0] 134)) w.heap.size (wa.heap.size + 1 + 1) (tl (l.take k) te) hst0 (wa.heap.size + 1) (.slice none 0 0) 0 := by
            have hn := cell_new ((wa.alloc (.cells #[.string te, .string ke, .int .i64 ta, .bool ps, .int .i64 se] 79)).alloc (.map #[] 0)) #[.map (some (wa.heap.size + 1)), .slice none 0 0, .bool false, .int .i64 0] 134
            have hmm := (TMap.made (wa.alloc (.cells #[.string te, .string ke, .int .i64 ta, .bool ps, .int .i64 se] 79)) KB valT).alloc (.cells #[.map (some (wa.heap.size + 1)), .slice none 0 0, .bool false, .int .i64 0] 134)
            simp only [World.size_alloc] at hn hmm
            refine ⟨hn 0, hn 1, hn 2, hn 3, fun j => ?_, by rw [htlH.out]; exact hmm, Own.nil _ _, by omega, by simp [Value.ownBlock], by simp [Value.ownBlock]⟩
            have := World.frozen?_alloc_new ((wa.alloc (.cells #[.string te, .string ke, .int .i64 ta, .bool ps, .int .i64 se] 79)).alloc (.map #[] 0)) #[.map (some (wa.heap.size + 1)), .slice none 0 0, .bool false, .int .i64 0] 134 j
            simpa [World.size_alloc] using this
          have hg5 := hg5H.out
          have honM : Only (fun n => n = M) (((wa.alloc (.cells #[.string te, .string ke, .int .i64 ta, .bool ps, .int .i64 se] 79)).alloc (.map #[] 0)).alloc (.cells #[.map (some (wa.heap.size + 1)), .slice none 0 0, .bool false, .int .i64 0] 134)) w5 := ⟨hg5.os, hg5.tape, hg5.output, hg5.size, fun n hn hne => hg5.block n hn (fun e => hne (by injection e))⟩
          have he5 := heE.only honM (fun n hn hM => by subst hM; rcases hn with h | h | h <;> first | omega | cases h)
          have hbE : Below (wa.alloc (.cells #[.string te, .string ke, .int .i64 ta, .bool ps, .int .i64 se] 79)).heap.size (wa.alloc (.cells #[.string te, .string ke, .int .i64 ta, .bool ps, .int .i64 se] 79)) (((wa.alloc (.cells #[.string te, .string ke, .int .i64 ta, .bool ps, .int .i64 se] 79)).alloc (.map #[] 0)).alloc (.cells #[.map (some (wa.heap.size + 1)), .slice none 0 0, .bool false, .int .i64 0] 134)) := ((Below.refl _ _).alloc (Nat.le_refl _) _).alloc (by simp) _
          have hfam5 := (hfamcH.out.below hbE).grownM hg5
          have hbE2 := hbaH.out.trans (hbE.mono hbaH.out.size)
          have hb5 := hbE2.trans (grown_below hg5 hwM hbE2.size)
          have hs5 : wa.heap.size + 1 + 1 < w5.heap.size := by have := hg5.size; simp at this; omega
          have hb5s := hb5.size
          have hwas : w.heap.size ≤ wa.heap.size := hbH.out.size
          have hp : 0 ≤ p ∧ p ≤ 3000 := hpB
          have hq : 0 ≤ q ∧ q ≤ 3000 := hqB
          have hhs := hhsH.out
          rw [hstH.out, Option.getD_none] at hhs
          refine (see_any _ w.heap.size (wa.heap.size + 1 + 1) (wa.heap.size + 1) 0 (.slice none 0 0) (tl (l.take k) te) hst0 ⟨te, ke, ta, ps, se⟩ many window good he5 hb5s hgkH.out hatH.out j1 j2 j3 p q hgk0H.out hp hq (by simp [hst0]) (by simp [hst0]) (by omega)).mono ?_
          rintro e' w6 ⟨rfl, v', c', he6, hc6, hv6, hon⟩
          simp only at he6 hc6 hv6
          rw [htsH.out] at he6
          obtain ⟨X, hX⟩ : ∃ X, stepH many window good (shakenB (p, q) ps) ⟨te, ke, ta, ps, se⟩ hst0 = X := ⟨_, rfl⟩
          rw [hX] at he6 hhs
          have hMl := hm5H.out.lt
          have hfoot : ∀ n, foot ⟨wa.heap.size + 1 + 1, wa.heap.size + 1, v', c', X⟩ n → n < w5.heap.size → (n = wa.heap.size + 1 + 1 ∨ n = wa.heap.size + 1 ∨ (Value.slice none 0 0).ownBlock = some n) := by
            rintro n (h | h | h) hn
            · exact .inl h
            · exact .inr (.inl h)
            · exact .inr (.inr (hv6 n h hn))
          have hF : ∀ n, (n = wa.heap.size + 1 + 1 ∨ n = wa.heap.size + 1 ∨ (Value.slice none 0 0).ownBlock = some n) → wa.heap.size < n := by
            rintro n (h | h | h)
            · omega
            · omega
            · cases h
          have hge6 : ∀ n, foot ⟨wa.heap.size + 1 + 1, wa.heap.size + 1, v', c', X⟩ n → w.heap.size ≤ n := fun n h => by
            rcases Nat.lt_or_ge n w5.heap.size with hn | hn
            · have := hF n (hfoot n h hn); omega
            · omega
          have hfam6 := hfam5.put te ⟨wa.heap.size + 1 + 1, wa.heap.size + 1, v', c', X⟩ _ hon hfoot (fun s e2 hs he2 n h1 h2 => by have h3 := (hfamH.out.he s e2 he2).foot_lt n h1; have h4 := hF n h2; omega) (fun h => by have := hF M h; omega) hMl he6 (fun s hs => htoH.out s hs) (by simp only; omega) hge6
          rw [← hhs] at hfam6
          have hb6 := hb5.trans (only_below hon (fun n h => by have := hF n h; omega) hb5s)
          have hmap6 : TMap KB valP w6 M (ptrs (upd fam te ⟨wa.heap.size + 1 + 1, wa.heap.size + 1, v', c', X⟩)) (if (ptrs fam te).isSome = true then cM else cM + 1) := by
            rw [ptrs_upd]
            exact tmap_only hm5H.out hon (fun h => by have := hF M h; omega)
          have hle := ite_le_succ ((ptrs fam te).isSome = true) cM
          have R : AsRel l many window good at_ M w (.int .i64 (k + 1)) w6 := ⟨k + 1, _, _, hkc, by go_num, hmap6, by omega, hfam6, hb6⟩
          clear he6 hc6 hv6 hon hfoot hge6 hfam6 hb6 hmap6 hF hX hhs hle he5 heE honM hbE hfam5 hbE2 hb5 hg5 x0 x1 x2 x3 x4 hlk5 hlk
          have RH := Lib.hid R
          clear R
          go_wp2
          refine ⟨?rel, ?measure⟩
          case measure => (simp [intOf]; omega)
          case rel => first | exact RH.out | exact ⟨rfl, RH.out⟩ | ((try refine ⟨rfl, ?_⟩); (repeat apply Exists.intro); refine ⟨RH.out, ?_⟩; ((repeat' apply And.intro) <;> rfl))
      · have hkc : k = cntAt l at_ := by
          rcases Nat.lt_or_ge k (cntAt l at_) with h | h
          · obtain ⟨r, hr, h2⟩ := cntAt_in h
            rw [hx] at hr
            injection hr with hr
            subst hr
            exact absurd h2 hcut
          · omega
        have hmb := hmapc
        have hfam := hfamc
        have hbb := hba
        have hMwb := hmb.lt
        have hgt : at_ < ta := by omega
        have hgd2 : decide (at_ < ta) = true := decide_eq_true hgt
        clear hmap hmapc hfamc hba hbc hb hcut hk
        have hxH := Lib.hid hx
        clear hx
        have hatH := Lib.hid hat
        clear hat
        have hgdH := Lib.hid hgd
        clear hgd
        have hgkH := Lib.hid hgk
        clear hgk
        have hfamH := Lib.hid hfam
        clear hfam
        have hbbH := Lib.hid hbb
        clear hbb
        have hkcH := Lib.hid hkc
        clear hkc
        have hzz : (wa.alloc (.cells #[.string te, .string ke, .int .i64 ta, .bool ps, .int .i64 se] 79)).heap.size = (wa.heap.size + 1) := by first | rfl | simp
        have hz1 : (wa.alloc (.cells #[.string te, .string ke, .int .i64 ta, .bool ps, .int .i64 se] 79)).heap.size ≤ (wa.heap.size + 1) := by rw [hzz]; exact Nat.le_refl _
        have hz2 : (wa.heap.size + 1) ≤ (wa.alloc (.cells #[.string te, .string ke, .int .i64 ta, .bool ps, .int .i64 se] 79)).heap.size := by rw [hzz]; exact Nat.le_refl _
        have hzzH := Lib.hid hzz
        clear hzz
        go_wp2_with (at_range; go_loud (refine wpList_trange rfl (.tmp 74) 130 rfl Tryd.underlying130 rfl hmb ?_); intro w3 hr3 hg3 hs3; have hr3H := Lib.hid hr3; clear hr3; have hg3H := Lib.hid hg3; clear hg3)
        try go_frame
        try simp only [World.size_alloc]
        go_loopw [16] (fun v wr => RgRel fam M cM (wa.heap.size + 1) (wa.alloc (.cells #[.string te, .string ke, .int .i64 ta, .bool ps, .int .i64 se] 79)) v wr) (fun v wr => wr.rangeLeft M (wa.heap.size + 1))
        case atStart =>
          have hr3 : TRange KB valP w3 M (wa.heap.size + 1) cM (ptrs fam) (fun x => (ptrs fam x).isSome) cM := by first | exact hr3H.out | (have h := hr3H.out; rw [hzzH.out] at h; exact h)
          refine ⟨_, cM, [], none, 0, 0, rfl, hr3, Own.nil _ _, List.nodup_nil, fun s hs => ⟨fun h => (by cases h), ?_⟩, by simp, (Below.refl _ _).grown hg3H.out (Nat.le_refl _) (fun k hk => by cases hk), by omega⟩
          rintro ⟨h1, e, h2, _⟩
          unfold ptrs at h1
          rw [h2] at h1
          cases h1
        case round =>
          obtain ⟨left, cnt, L, A3, n3, cap3, rfl, hr, hown, hnd, hmem, hcn, hb3, hsz3⟩ := hrel
          have hrl := hr.left_eq
          have hn3 := hown.len
          have hb3s := hb3.size
          have hrH := Lib.hid hr
          clear hr
          have hownH := Lib.hid hown
          clear hown
          have hndH := Lib.hid hnd
          clear hnd
          have hmemH := Lib.hid hmem
          clear hmem
          have hb3H := Lib.hid hb3
          clear hb3
          have hrlH := Lib.hid hrl
          clear hrl
          go_wp2_with (at_next; go_loud (refine wpList_tnext rfl (.tmp 75) rfl rfl injP hrH.out ?_ ?_))
          · intro hc0 hl0
            have hl0H := Lib.hid hl0
            clear hl0
            go_wp2_with fail
            refine (sort_own A3 n3 cap3 L wr _ hownH.out (by omega)).mono ?_
            rintro e w4 ⟨rfl, hown4, hg4⟩
            have hb4 : Below (wa.alloc (.cells #[.string te, .string ke, .int .i64 ta, .bool ps, .int .i64 se] 79)).heap.size (wa.alloc (.cells #[.string te, .string ke, .int .i64 ta, .bool ps, .int .i64 se] 79)) w4 := hb3H.out.trans ((Below.refl _ _).grown hg4 hb3s (fun k hk => by have := (hownH.out.1.lt k hk).1; omega))
            have hsl := hown4.slAt
            have hans : AsideAns l many window good at_ 0 (sortB L) := by
              rw [AsideAns, if_pos rfl]
              refine ⟨rising_sorted (nodup_dat hndH.out), fun s => ?_⟩
              rw [mem_sortB]
              constructor
              · intro h
                obtain ⟨_, e, h1, h2⟩ := (hmemH.out s (hownH.out.2 s h)).1 h
                refine ⟨e.x, ?_, h2⟩
                rw [← hkcH.out, ← hfamH.out.st s, h1]; rfl
              · rintro ⟨x, h1, h2⟩
                rw [← hkcH.out] at h1
                have h3 := hfamH.out.st s
                rw [h1] at h3
                obtain ⟨e, he, rfl⟩ := Option.map_eq_some_iff.1 h3
                have hs : s.size ≤ maxLen := by
                  obtain ⟨r, hr, rfl⟩ := (hstK_mem many window good l k s).2 (by rw [h1]; rfl)
                  exact (hokH.out r ((List.take_subset _ _) hr)).1
                exact (hmemH.out s hs).2 ⟨hl0H.out s hs, e, he, h2⟩
            have hbz := hbbH.out.trans (hb4.mono hbbH.out.size)
            clear hown4 hg4 hb4
            have hslH := Lib.hid hsl
            clear hsl
            have hansH := Lib.hid hans
            clear hans
            have hbzH := Lib.hid hbz
            clear hbz
            go_wp2
            go_ret2
            exact ⟨A3, n3, cap3, sortB L, rfl, hslH.out, hansH.out, by omega, hbzH.out⟩
          · intro tn y w4 cnt4 hgood hleft hf hr4 hlt4 hg4 hs4 hen
            obtain ⟨e, hfe, rfl⟩ : ∃ e, fam tn = some e ∧ some e.b = y := by
              unfold ptrs at hf
              exact Option.map_eq_some_iff.1 hf
            replace hen : (Instr.entry (.pointer (some ⟨(wa.heap.size + 1), 0, none⟩))).run Tryd.prog w4 = .ok (.tuple #[.string tn, .pointer (some ⟨e.b, 0, none⟩)]) w4 := hen
            have hgd : tn.size ≤ maxLen := hgood
            have hb4 : Below (wa.alloc (.cells #[.string te, .string ke, .int .i64 ta, .bool ps, .int .i64 se] 79)).heap.size (wa.alloc (.cells #[.string te, .string ke, .int .i64 ta, .bool ps, .int .i64 se] 79)) w4 := hb3H.out.trans (grown_below hg4 (by omega) hb3s)
            have he4 := (hfamH.out.he tn e hfe).below hb4
            have ca := he4.c2
            have hown4 : Own RStr 9 w4 ((wa.heap.size + 1) + 1) (.slice A3 n3 cap3) L := hownH.out.kept hg4 (by
              cases hv : (Value.slice A3 n3 cap3).ownBlock with
              | none => exact .inl rfl
              | some g => exact .inr (fun e => by injection e with e; have := (hownH.out.1.lt g hv).1; omega)) (fun _ _ h => h)
            have hleft2 : ∀ s, s.size ≤ maxLen → ((left s && !decide (s = tn)) = false ↔ left s = false ∨ s = tn) := fun s hs => by cases hL : left s <;> by_cases e0 : s = tn <;> simp [e0]
            have hnL : tn ∉ L := fun h => by have := ((hmemH.out tn hgd).1 h).1; rw [hleft] at this; cases this
            have hs4g := hg4.size
            obtain ⟨aw, haw⟩ : ∃ b, e.x.aside = b := ⟨_, rfl⟩
            rw [haw] at ca
            clear he4 hgood hf hleft hg4 hs4
            have hlr : w4.rangeLeft M (wa.heap.size + 1) < wr.rangeLeft M (wa.heap.size + 1) := by rw [hr4.left_eq, hrlH.out]; exact hlt4
            cases aw
            · have R : RgRel fam M cM (wa.heap.size + 1) (wa.alloc (.cells #[.string te, .string ke, .int .i64 ta, .bool ps, .int .i64 se] 79)) (.slice A3 n3 cap3) w4 := by
                refine ⟨_, cnt4, L, A3, n3, cap3, rfl, hr4, hown4, hndH.out, fun s hs => ?_, by omega, hb4, by omega⟩
                rw [hmemH.out s hs, hleft2 s hs]
                constructor
                · rintro ⟨h1, h2⟩; exact ⟨.inl h1, h2⟩
                · rintro ⟨h1 | h1, e', h2, h3⟩
                  · exact ⟨h1, e', h2, h3⟩
                  · subst h1
                    rw [hfe] at h2
                    injection h2 with h2
                    subst h2
                    rw [haw] at h3; cases h3
              have hr4H := Lib.hid hr4
              clear hr4
              have hfeH := Lib.hid hfe
              clear hfe
              have hb4H := Lib.hid hb4
              clear hb4
              have hown4H := Lib.hid hown4
              clear hown4
              have hleft2H := Lib.hid hleft2
              clear hleft2
              have hnLH := Lib.hid hnL
              clear hnL
              have hawH := Lib.hid haw
              clear haw
              have RH := Lib.hid R
              clear R
              have hlrH := Lib.hid hlr
              clear hlr
              go_wp2
              refine ⟨?rel, ?measure⟩
              case measure => exact hlrH.out
              case rel => first | exact RH.out | exact ⟨rfl, RH.out⟩ | ((try refine ⟨rfl, ?_⟩); (repeat apply Exists.intro); refine ⟨RH.out, ?_⟩; ((repeat' apply And.intro) <;> rfl))
            · have hr5 := hr4.alloc (.cells #[.string tn] 9)
              have hown5 := hown4.alloc (.cells #[.string tn] 9)
              have hb5 : Below (wa.alloc (.cells #[.string te, .string ke, .int .i64 ta, .bool ps, .int .i64 se] 79)).heap.size (wa.alloc (.cells #[.string te, .string ke, .int .i64 ta, .bool ps, .int .i64 se] 79)) (w4.alloc (.cells #[.string tn] 9)) := hb4.alloc hb4.size _
              have hltb := hr4.lt
              have hr4H := Lib.hid hr4
              clear hr4
              have hr5H := Lib.hid hr5
              clear hr5
              have hfeH := Lib.hid hfe
              clear hfe
              have hb4H := Lib.hid hb4
              clear hb4
              have hb5H := Lib.hid hb5
              clear hb5
              have hown4H := Lib.hid hown4
              clear hown4
              have hown5H := Lib.hid hown5
              clear hown5
              have hleft2H := Lib.hid hleft2
              clear hleft2
              have hnLH := Lib.hid hnL
              clear hnL
              have hawH := Lib.hid haw
              clear haw
              have hlrH := Lib.hid hlr
              clear hlr
              have hgdH := Lib.hid hgd
              clear hgd
              go_wp2_with (at_builtin; go_loud (refine wpList_app rfl (.tmp 85) (.tmp 87) 28 rfl Tryd.underlying28 elem_StrA (by decide) rfl hown5H.out (some ⟨w4.heap.size, 0, none⟩) 1 1 [tn] rfl (slAt_new _ _ _ hgdH.out) ?nn ?ok ?c1 ?c2 ?c3 (n3 + 1) ?c4 ?_))
              case nn => intro h; cases h
              case ok => exact fun _ _ _ _ h => h
              case c1 => rw [hn3]; simp [maxLen] <;> omega
              case c2 => rw [hn3]; omega
              case c3 => simp <;> omega
              case c4 => omega
              intro A' c' w8 hown8 hg8 hat8 hb8
              have hr8 := hr5H.out.kept hg8 (fun e => by have := (hown5H.out.1.lt M e.symm).1; have := hMwb; omega) (fun e => by have := (hown5H.out.1.lt _ e.symm).1; omega)
              have R : RgRel fam M cM (wa.heap.size + 1) (wa.alloc (.cells #[.string te, .string ke, .int .i64 ta, .bool ps, .int .i64 se] 79)) (.slice A' (n3 + 1) c') w8 := by
                refine ⟨_, cnt4, L ++ [tn], A', n3 + 1, c', rfl, hr8, hown8, ?_, fun s hs => ?_, ?_, hb5H.out.trans (hb8.mono (by omega)), by have := hg8.size; simp at this; omega⟩
                · rw [List.nodup_append]
                  refine ⟨hndH.out, by simp, fun a ha b hb => ?_⟩
                  rw [List.mem_singleton] at hb
                  subst hb
                  rintro rfl
                  exact hnLH.out ha
                · rw [List.mem_append, List.mem_singleton, hmemH.out s hs, hleft2H.out s hs]
                  constructor
                  · rintro (⟨h1, h2⟩ | rfl)
                    · exact ⟨.inl h1, h2⟩
                    · exact ⟨.inr rfl, e, hfeH.out, hawH.out⟩
                  · rintro ⟨h1 | h1, h2⟩
                    · exact .inl ⟨h1, h2⟩
                    · exact .inr h1
                · rw [List.length_append, List.length_singleton]; omega
              have hlr8 : w8.rangeLeft M (wa.heap.size + 1) < wr.rangeLeft M (wa.heap.size + 1) := by rw [hr8.left_eq, hrlH.out]; exact hlt4
              clear hg8 hat8 hb8 hown8 hr8
              have RH := Lib.hid R
              clear R
              have hlr8H := Lib.hid hlr8
              clear hlr8
              go_wp2
              refine ⟨?rel, ?measure⟩
              case measure => exact hlr8H.out
              case rel => first | exact RH.out | exact ⟨rfl, RH.out⟩ | ((try refine ⟨rfl, ?_⟩); (repeat apply Exists.intro); refine ⟨RH.out, ?_⟩; ((repeat' apply And.intro) <;> rfl))
    · have hkc : k = cntAt l at_ := by omega
      have hmb := hmap
      have hbb := hb
      have hMwb := hMw
      clear hmap hb hk
      have hfamH := Lib.hid hfam
      clear hfam
      have hbbH := Lib.hid hbb
      clear hbb
      have hkcH := Lib.hid hkc
      clear hkc
      have hzz : wa.heap.size = wa.heap.size := by first | rfl | simp
      have hz1 : wa.heap.size ≤ wa.heap.size := by rw [hzz]; exact Nat.le_refl _
      have hz2 : wa.heap.size ≤ wa.heap.size := by rw [hzz]; exact Nat.le_refl _
      have hzzH := Lib.hid hzz
      clear hzz
      go_wp2_with (at_range; go_loud (refine wpList_trange rfl (.tmp 74) 130 rfl Tryd.underlying130 rfl hmb ?_); intro w3 hr3 hg3 hs3; have hr3H := Lib.hid hr3; clear hr3; have hg3H := Lib.hid hg3; clear hg3)
      try go_frame
      try simp only [World.size_alloc]
      go_loopw [16] (fun v wr => RgRel fam M cM wa.heap.size wa v wr) (fun v wr => wr.rangeLeft M wa.heap.size)
      case atStart =>
        have hr3 : TRange KB valP w3 M wa.heap.size cM (ptrs fam) (fun x => (ptrs fam x).isSome) cM := by first | exact hr3H.out | (have h := hr3H.out; rw [hzzH.out] at h; exact h)
        refine ⟨_, cM, [], none, 0, 0, rfl, hr3, Own.nil _ _, List.nodup_nil, fun s hs => ⟨fun h => (by cases h), ?_⟩, by simp, (Below.refl _ _).grown hg3H.out (Nat.le_refl _) (fun k hk => by cases hk), by omega⟩
        rintro ⟨h1, e, h2, _⟩
        unfold ptrs at h1
        rw [h2] at h1
        cases h1
      case round =>
        obtain ⟨left, cnt, L, A3, n3, cap3, rfl, hr, hown, hnd, hmem, hcn, hb3, hsz3⟩ := hrel
        have hrl := hr.left_eq
        have hn3 := hown.len
        have hb3s := hb3.size
        have hrH := Lib.hid hr
        clear hr
        have hownH := Lib.hid hown
        clear hown
        have hndH := Lib.hid hnd
        clear hnd
        have hmemH := Lib.hid hmem
        clear hmem
        have hb3H := Lib.hid hb3
        clear hb3
        have hrlH := Lib.hid hrl
        clear hrl
        go_wp2_with (at_next; go_loud (refine wpList_tnext rfl (.tmp 75) rfl rfl injP hrH.out ?_ ?_))
        · intro hc0 hl0
          have hl0H := Lib.hid hl0
          clear hl0
          go_wp2_with fail
          refine (sort_own A3 n3 cap3 L wr _ hownH.out (by omega)).mono ?_
          rintro e w4 ⟨rfl, hown4, hg4⟩
          have hb4 : Below wa.heap.size wa w4 := hb3H.out.trans ((Below.refl _ _).grown hg4 hb3s (fun k hk => by have := (hownH.out.1.lt k hk).1; omega))
          have hsl := hown4.slAt
          have hans : AsideAns l many window good at_ 0 (sortB L) := by
            rw [AsideAns, if_pos rfl]
            refine ⟨rising_sorted (nodup_dat hndH.out), fun s => ?_⟩
            rw [mem_sortB]
            constructor
            · intro h
              obtain ⟨_, e, h1, h2⟩ := (hmemH.out s (hownH.out.2 s h)).1 h
              refine ⟨e.x, ?_, h2⟩
              rw [← hkcH.out, ← hfamH.out.st s, h1]; rfl
            · rintro ⟨x, h1, h2⟩
              rw [← hkcH.out] at h1
              have h3 := hfamH.out.st s
              rw [h1] at h3
              obtain ⟨e, he, rfl⟩ := Option.map_eq_some_iff.1 h3
              have hs : s.size ≤ maxLen := by
                obtain ⟨r, hr, rfl⟩ := (hstK_mem many window good l k s).2 (by rw [h1]; rfl)
                exact (hokH.out r ((List.take_subset _ _) hr)).1
              exact (hmemH.out s hs).2 ⟨hl0H.out s hs, e, he, h2⟩
          have hbz := hbbH.out.trans (hb4.mono hbbH.out.size)
          clear hown4 hg4 hb4
          have hslH := Lib.hid hsl
          clear hsl
          have hansH := Lib.hid hans
          clear hans
          have hbzH := Lib.hid hbz
          clear hbz
          go_wp2
          go_ret2
          exact ⟨A3, n3, cap3, sortB L, rfl, hslH.out, hansH.out, by omega, hbzH.out⟩
        · intro tn y w4 cnt4 hgood hleft hf hr4 hlt4 hg4 hs4 hen
          obtain ⟨e, hfe, rfl⟩ : ∃ e, fam tn = some e ∧ some e.b = y := by
            unfold ptrs at hf
            exact Option.map_eq_some_iff.1 hf
          replace hen : (Instr.entry (.pointer (some ⟨wa.heap.size, 0, none⟩))).run Tryd.prog w4 = .ok (.tuple #[.string tn, .pointer (some ⟨e.b, 0, none⟩)]) w4 := hen
          have hgd : tn.size ≤ maxLen := hgood
          have hb4 : Below wa.heap.size wa w4 := hb3H.out.trans (grown_below hg4 (by omega) hb3s)
          have he4 := (hfamH.out.he tn e hfe).below hb4
          have ca := he4.c2
          have hown4 : Own RStr 9 w4 (wa.heap.size + 1) (.slice A3 n3 cap3) L := hownH.out.kept hg4 (by
            cases hv : (Value.slice A3 n3 cap3).ownBlock with
            | none => exact .inl rfl
            | some g => exact .inr (fun e => by injection e with e; have := (hownH.out.1.lt g hv).1; omega)) (fun _ _ h => h)
          have hleft2 : ∀ s, s.size ≤ maxLen → ((left s && !decide (s = tn)) = false ↔ left s = false ∨ s = tn) := fun s hs => by cases hL : left s <;> by_cases e0 : s = tn <;> simp [e0]
          have hnL : tn ∉ L := fun h => by have := ((hmemH.out tn hgd).1 h).1; rw [hleft] at this; cases this
          have hs4g := hg4.size
          obtain ⟨aw, haw⟩ : ∃ b, e.x.aside = b := ⟨_, rfl⟩
          rw [haw] at ca
          clear he4 hgood hf hleft hg4 hs4
          have hlr : w4.rangeLeft M wa.heap.size < wr.rangeLeft M wa.heap.size := by rw [hr4.left_eq, hrlH.out]; exact hlt4
          cases aw
          · have R : RgRel fam M cM wa.heap.size wa (.slice A3 n3 cap3) w4 := by
              refine ⟨_, cnt4, L, A3, n3, cap3, rfl, hr4, hown4, hndH.out, fun s hs => ?_, by omega, hb4, by omega⟩
              rw [hmemH.out s hs, hleft2 s hs]
              constructor
              · rintro ⟨h1, h2⟩; exact ⟨.inl h1, h2⟩
              · rintro ⟨h1 | h1, e', h2, h3⟩
                · exact ⟨h1, e', h2, h3⟩
                · subst h1
                  rw [hfe] at h2
                  injection h2 with h2
                  subst h2
                  rw [haw] at h3; cases h3
            have hr4H := Lib.hid hr4
            clear hr4
            have hfeH := Lib.hid hfe
            clear hfe
            have hb4H := Lib.hid hb4
            clear hb4
            have hown4H := Lib.hid hown4
            clear hown4
            have hleft2H := Lib.hid hleft2
            clear hleft2
            have hnLH := Lib.hid hnL
            clear hnL
            have hawH := Lib.hid haw
            clear haw
            have RH := Lib.hid R
            clear R
            have hlrH := Lib.hid hlr
            clear hlr
            go_wp2
            refine ⟨?rel, ?measure⟩
            case measure => exact hlrH.out
            case rel => first | exact RH.out | exact ⟨rfl, RH.out⟩ | ((try refine ⟨rfl, ?_⟩); (repeat apply Exists.intro); refine ⟨RH.out, ?_⟩; ((repeat' apply And.intro) <;> rfl))
          · have hr5 := hr4.alloc (.cells #[.string tn] 9)
            have hown5 := hown4.alloc (.cells #[.string tn] 9)
            have hb5 : Below wa.heap.size wa (w4.alloc (.cells #[.string tn] 9)) := hb4.alloc hb4.size _
            have hltb := hr4.lt
            have hr4H := Lib.hid hr4
            clear hr4
            have hr5H := Lib.hid hr5
            clear hr5
            have hfeH := Lib.hid hfe
            clear hfe
            have hb4H := Lib.hid hb4
            clear hb4
            have hb5H := Lib.hid hb5
            clear hb5
            have hown4H := Lib.hid hown4
            clear hown4
            have hown5H := Lib.hid hown5
            clear hown5
            have hleft2H := Lib.hid hleft2
            clear hleft2
            have hnLH := Lib.hid hnL
            clear hnL
            have hawH := Lib.hid haw
            clear haw
            have hlrH := Lib.hid hlr
            clear hlr
            have hgdH := Lib.hid hgd
            clear hgd
            go_wp2_with (at_builtin; go_loud (refine wpList_app rfl (.tmp 85) (.tmp 87) 28 rfl Tryd.underlying28 elem_StrA (by decide) rfl hown5H.out (some ⟨w4.heap.size, 0, none⟩) 1 1 [tn] rfl (slAt_new _ _ _ hgdH.out) ?nn ?ok ?c1 ?c2 ?c3 (n3 + 1) ?c4 ?_))
            case nn => intro h; cases h
            case ok => exact fun _ _ _ _ h => h
            case c1 => rw [hn3]; simp [maxLen] <;> omega
            case c2 => rw [hn3]; omega
            case c3 => simp <;> omega
            case c4 => omega
            intro A' c' w8 hown8 hg8 hat8 hb8
            have hr8 := hr5H.out.kept hg8 (fun e => by have := (hown5H.out.1.lt M e.symm).1; have := hMwb; omega) (fun e => by have := (hown5H.out.1.lt _ e.symm).1; omega)
            have R : RgRel fam M cM wa.heap.size wa (.slice A' (n3 + 1) c') w8 := by
              refine ⟨_, cnt4, L ++ [tn], A', n3 + 1, c', rfl, hr8, hown8, ?_, fun s hs => ?_, ?_, hb5H.out.trans (hb8.mono (by omega)), by have := hg8.size; simp at this; omega⟩
              · rw [List.nodup_append]
                refine ⟨hndH.out, by simp, fun a ha b hb => ?_⟩
                rw [List.mem_singleton] at hb
                subst hb
                rintro rfl
                exact hnLH.out ha
              · rw [List.mem_append, List.mem_singleton, hmemH.out s hs, hleft2H.out s hs]
                constructor
                · rintro (⟨h1, h2⟩ | rfl)
                  · exact ⟨.inl h1, h2⟩
                  · exact ⟨.inr rfl, e, hfeH.out, hawH.out⟩
                · rintro ⟨h1 | h1, h2⟩
                  · exact .inl ⟨h1, h2⟩
                  · exact .inr h1
              · rw [List.length_append, List.length_singleton]; omega
            have hlr8 : w8.rangeLeft M wa.heap.size < wr.rangeLeft M wa.heap.size := by rw [hr8.left_eq, hrlH.out]; exact hlt4
            clear hg8 hat8 hb8 hown8 hr8
            have RH := Lib.hid R
            clear R
            have hlr8H := Lib.hid hlr8
            clear hlr8
            go_wp2
            refine ⟨?rel, ?measure⟩
            case measure => exact hlr8H.out
            case rel => first | exact RH.out | exact ⟨rfl, RH.out⟩ | ((try refine ⟨rfl, ?_⟩); (repeat apply Exists.intro); refine ⟨RH.out, ?_⟩; ((repeat' apply And.intro) <;> rfl))

def AsideOut (l : List TestRun) (many window good at_ c : Int) (w : World) (e : Ending) (w' : World) : Prop :=
  ∃ A' n' c' L, e = .returned (.tuple #[.slice A' n' c', .int .i64 c]) ∧ SlAt RStr w' A' n' L ∧ AsideAns l many window good at_ c L ∧ n' ≤ 3000 ∧ Below w.heap.size w w'
theorem aside_nil (l : List TestRun) (many window good at_ c : Int) (w w' : World) (hc : c ≠ 0) (hb : Below w.heap.size w w') : AsideOut l many window good at_ c w (.returned (.tuple #[.slice none 0 0, .int .i64 c])) w' :=
  ⟨none, 0, 0, [], rfl, ⟨rfl, fun h => by omega, fun x hx => by cases hx⟩, by rw [AsideAns, if_neg hc], by omega, hb⟩
set_option maxRecDepth 100000 in
set_option maxHeartbeats 2000000 in
theorem aside_any (A : Option Addr) (len cap : Nat) (l : List TestRun) (many window good at_ : Int) (w : World) (hm : MaxLenAt w) (hl : SlAt RTestRun w A len l) (c : Int) (hF : asideF l many window good at_ = c) :
    Calls Tryd.prog 41 #[.slice A len cap, .int .i64 many, .int .i64 window, .int .i64 good, .int .i64 at_] w (AsideOut l many window good at_ c w) := by
  unfold asideF at hF
  by_cases hh : histF l = 0
  · rw [if_pos hh] at hF
    by_cases h4 : inR 1 100 many = true ∧ inR 1 1000000000 window = true ∧ inR 1 100 good = true ∧ inR 0 1000000000 at_ = true
    · rw [if_pos h4] at hF
      subst hF
      exact aside_ok A len cap l many window good at_ w hm hl hh h4.1 h4.2.1 h4.2.2.1 h4.2.2.2
    · rw [if_neg h4] at hF
      subst hF
      have hmH := Lib.hid hm
      clear hm
      have hlH := Lib.hid hl
      clear hl
      have hhH := Lib.hid hh
      clear hh
      by_cases i1 : inR 1 100 many = true
      · by_cases i2 : inR 1 1000000000 window = true
        · by_cases i3 : inR 1 100 good = true
          · have i4 : inR 0 1000000000 at_ = false := by
              cases h : inR 0 1000000000 at_
              · rfl
              · exact absurd ⟨i1, i2, i3, h⟩ h4
            clear h4
            go_enter Tryd.func41, Tryd.ntmps41
            go_wp2_with fail
            refine (hist_any A len cap l _ hmH.out hlH.out 0 hhH.out).mono ?_
            rintro e w1 ⟨rfl, hw1⟩
            have hw1H := Lib.hid hw1
            clear hw1
            go_wp2_with (go_at_call 93; refine (within_p _ _ _ _).mono ?_; rintro e wz ⟨rfl, rfl⟩)
            go_ret2
            exact aside_nil _ _ _ _ _ _ _ _ (by decide) hw1H.out
          · have i3 : inR 1 100 good = false := by simpa using i3
            clear h4
            go_enter Tryd.func41, Tryd.ntmps41
            go_wp2_with fail
            refine (hist_any A len cap l _ hmH.out hlH.out 0 hhH.out).mono ?_
            rintro e w1 ⟨rfl, hw1⟩
            have hw1H := Lib.hid hw1
            clear hw1
            go_wp2_with (go_at_call 93; refine (within_p _ _ _ _).mono ?_; rintro e wz ⟨rfl, rfl⟩)
            go_ret2
            exact aside_nil _ _ _ _ _ _ _ _ (by decide) hw1H.out
        · have i2 : inR 1 1000000000 window = false := by simpa using i2
          clear h4
          go_enter Tryd.func41, Tryd.ntmps41
          go_wp2_with fail
          refine (hist_any A len cap l _ hmH.out hlH.out 0 hhH.out).mono ?_
          rintro e w1 ⟨rfl, hw1⟩
          have hw1H := Lib.hid hw1
          clear hw1
          go_wp2_with (go_at_call 93; refine (within_p _ _ _ _).mono ?_; rintro e wz ⟨rfl, rfl⟩)
          go_ret2
          exact aside_nil _ _ _ _ _ _ _ _ (by decide) hw1H.out
      · have i1 : inR 1 100 many = false := by simpa using i1
        clear h4
        go_enter Tryd.func41, Tryd.ntmps41
        go_wp2_with fail
        refine (hist_any A len cap l _ hmH.out hlH.out 0 hhH.out).mono ?_
        rintro e w1 ⟨rfl, hw1⟩
        have hw1H := Lib.hid hw1
        clear hw1
        go_wp2_with (go_at_call 93; refine (within_p _ _ _ _).mono ?_; rintro e wz ⟨rfl, rfl⟩)
        go_ret2
        exact aside_nil _ _ _ _ _ _ _ _ (by decide) hw1H.out
  · rw [if_neg hh] at hF
    obtain ⟨d, hd⟩ : ∃ d, histF l = d := ⟨_, rfl⟩
    rw [hd] at hF hh
    subst hF
    have hh1 : (d != 0) = true := by simpa using hh
    have hmH := Lib.hid hm
    clear hm
    have hlH := Lib.hid hl
    clear hl
    have hdH := Lib.hid hd
    clear hd
    have hhH := Lib.hid hh
    clear hh
    go_enter Tryd.func41, Tryd.ntmps41
    go_wp2_with fail
    refine (hist_any A len cap l _ hmH.out hlH.out d hdH.out).mono ?_
    rintro e w1 ⟨rfl, hw1⟩
    have hw1H := Lib.hid hw1
    clear hw1
    go_wp2
    go_ret2
    exact aside_nil _ _ _ _ _ _ _ _ hhH.out hw1H.out
end Go.Proofs.YtoakhcajhfponaaDoor.C10
