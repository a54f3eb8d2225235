/-
  Plain law: what is true of loads where no step is due, and of the loads that Settle leads to.
  Conditions: none.
-/
import Derived.Test.YtnkodcknbeahcaaBalN
set_option linter.unusedSimpArgs false
set_option linter.unusedVariables false
namespace Go.Proofs
open Go.Sk

theorem firstFrom_none_all {xs : List Int} : ∀ {n i : Nat}, firstFrom xs n i = none → ∀ j, i ≤ j → j < i + n → shiftAt xs j = none
  | 0, i, _, j, h1, h2 => by omega
  | n + 1, i, h, j, h1, h2 => by
    simp only [firstFrom] at h
    split at h
    · cases h
    · rename_i hs
      by_cases e : j = i
      · subst e; exact hs
      · exact firstFrom_none_all h j (by omega) (by omega)

theorem shiftAt_none_iff {xs : List Int} {i : Nat} (h : shiftAt xs i = none) : nth xs (i + 1) ≤ 2 * nth xs i + 4 ∧ nth xs i ≤ 2 * nth xs (i + 1) + 4 := by
  unfold shiftAt at h
  split at h
  · cases h
  · split at h
    · cases h
    · omega

theorem settled_near {r : List Int} (hv : valid r = true) (h : stepOf r = none) {i : Nat} (hi : i + 1 < r.length) : nth r (i + 1) ≤ 2 * nth r i + 4 ∧ nth r i ≤ 2 * nth r (i + 1) + 4 := by
  unfold stepOf at h
  rw [if_pos hv] at h
  split at h
  · cases h
  · rename_i hs
    exact shiftAt_none_iff (firstFrom_none_all hs i (by omega) (by omega))

theorem mostAt_max (xs : List Int) : ∀ i, ∀ j, j < i → nth xs j ≤ nth xs (mostAt xs i)
  | 0, j, h => by omega
  | i + 1, j, h => by
    have ih := mostAt_max xs i
    simp only [mostAt]
    by_cases e : j = i
    · subst e; split <;> omega
    · have := ih j (by omega)
      split <;> omega
theorem leastAt_min (xs : List Int) : ∀ i, ∀ j, j < i → nth xs (leastAt xs i) ≤ nth xs j
  | 0, j, h => by omega
  | i + 1, j, h => by
    have ih := leastAt_min xs i
    simp only [leastAt]
    by_cases e : j = i
    · subst e; split <;> omega
    · have := ih j (by omega)
      split <;> omega

theorem settled_far {r : List Int} (hv : valid r = true) (h : stepOf r = none) {i j : Nat} (hi : i < r.length) (hj : j < r.length) : nth r i ≤ 12 * nth r j + 24 := by
  have hgi := valid_get hv hi
  have hgj := valid_get hv hj
  by_cases h3 : r.length < 3
  · have : i = j ∨ i + 1 = j ∨ i = j + 1 := by omega
    rcases this with e | e | e
    · subst e; omega
    · subst e; have := settled_near hv h (i := i) hj; omega
    · subst e; have := settled_near hv h (i := j) hi; omega
  · have hn := h
    unfold stepOf at hn
    rw [if_pos hv] at hn
    split at hn
    · cases hn
    · rw [if_neg h3] at hn
      unfold moveOf at hn
      simp only at hn
      split at hn
      · cases hn
      · rename_i hm
        have m1 := mostAt_max r r.length i hi
        have l1 := leastAt_min r r.length j hj
        have ll := leastAt_lt r r.length (Nat.le_refl _) (by omega)
        have key : nth r (toOf r (leastAt r r.length)) ≤ 2 * nth r (leastAt r r.length) + 4 := by
          unfold toOf
          generalize leastAt r r.length = l at ll
          split
          · rename_i hc
            have := settled_near hv h (i := l) (by omega)
            omega
          · rename_i hc
            have := settled_near hv h (i := l - 1) (by omega)
            rw [show l - 1 + 1 = l by omega] at this
            omega
        omega

theorem settles_keep : ∀ {ss : List Bal} {x r : List Int}, valid x = true → Settles x ss r → valid r = true ∧ stepOf r = none ∧ r.length = x.length ∧ sumTo r r.length = sumTo x x.length ∧ ((stepOf x).isNone = decide (ss.length = 0))
  | [], x, r, hv, ⟨h1, h2⟩ => by subst h2; exact ⟨hv, h1, rfl, rfl, by simp [h1]⟩
  | b :: ss, x, r, hv, ⟨h1, h2⟩ => by
    obtain ⟨y, a1, a2, a3, a4, a5, a6⟩ := step_ok h1
    rw [a1] at h2
    obtain ⟨b1, b2, b3, b4, _⟩ := settles_keep a4 h2
    exact ⟨b1, b2, by omega, by omega, by simp [h1]⟩

theorem settles_bad {x r : List Int} {ss : List Bal} (hv : valid x = false) (h : Settles x ss r) : ss = [] ∧ r = x := by
  cases ss with
  | nil => exact ⟨rfl, h.2⟩
  | cons b ss =>
    have := h.1
    rw [stepOf_bad hv] at this
    cases this

theorem settles_det : ∀ {a b : List Bal} {x r q : List Int}, Settles x a r → Settles x b q → a = b ∧ r = q
  | [], [], _, _, _, ⟨_, h1⟩, ⟨_, h2⟩ => ⟨rfl, h1.trans h2.symm⟩
  | [], _ :: _, _, _, _, ⟨h1, _⟩, ⟨h2, _⟩ => by rw [h1] at h2; cases h2
  | _ :: _, [], _, _, _, ⟨h1, _⟩, ⟨h2, _⟩ => by rw [h1] at h2; cases h2
  | a :: l, b :: m, _, _, _, ⟨h1, h2⟩, ⟨h3, h4⟩ => by
    rw [h1] at h3
    cases h3
    obtain ⟨rfl, rfl⟩ := settles_det h2 h4
    exact ⟨rfl, rfl⟩

theorem settles_len {r : List Int} : ∀ (ss : List Bal) (x : List Int), Settles x ss r → (ss.length : Int) ≤ sq x ∧ (ss = [] ∨ sq x ≤ 67108864) ∧ r.length = x.length
  | [], x, h => by
    obtain ⟨_, rfl⟩ := h
    exact ⟨sq_nonneg r, .inl rfl, rfl⟩
  | b :: ss, x, h => by
    obtain ⟨h1, h2⟩ := h
    obtain ⟨y, f1, f2, f3, f4, f5⟩ := step_falls h1
    have h2' : Settles y ss r := by rw [f1] at h2; exact h2
    obtain ⟨i1, i2, i3⟩ := settles_len ss y h2'
    have hq : sq y < sq x := f5
    have h3 := sq_le (stepOf_cases h1).1
    simp only [List.length_cons]
    exact ⟨by omega, .inr h3, by omega⟩
theorem settles_few {ss : List Bal} {x r : List Int} (h : Settles x ss r) : ss.length ≤ 100000000 := by
  obtain ⟨h1, h2, _⟩ := settles_len _ _ h
  rcases h2 with rfl | h2
  · simp
  · omega

/-- The elements of a list of slices. -/
def lstq (gs : List Bool) (ids lens : List Nat) : Nat → List SV := fun i => [.slc (gs.getD i false) (ids.getD i 0) 0 0 (lens.getD i 0)]

theorem okL_valid {n : Nat} {x : List Int} (h : okL n x) (hn : n ≤ 64) : valid x = true := valid_all (by have := h.1; omega) h.2

end Go.Proofs
