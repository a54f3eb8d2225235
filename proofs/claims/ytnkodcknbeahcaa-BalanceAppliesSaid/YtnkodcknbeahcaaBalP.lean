/-
  Plain law: a step that is due can be applied, keeps the number and the sum of the loads, and lets the sum of the squares fall.
  Conditions: none.
-/
import Derived.Test.YtnkodcknbeahcaaBalG
set_option linter.unusedSimpArgs false
set_option linter.unusedVariables false
namespace Go.Proofs
open Go.Sk

def sumF (f : Int → Int) (l : List Int) : Int := (l.map f).sum

theorem sumF_append (f : Int → Int) (a b : List Int) : sumF f (a ++ b) = sumF f a + sumF f b := by simp [sumF]

theorem sumF_set (f : Int → Int) : ∀ (l : List Int) (k : Nat) (v : Int), k < l.length → sumF f (l.set k v) = sumF f l - f (nth l k) + f v
  | [], _, _, h => by simp at h
  | a :: l, 0, v, _ => by simp [sumF, nth]; omega
  | a :: l, k + 1, v, h => by
    have ih := sumF_set f l k v (by simpa using h)
    simp only [sumF, List.set_cons_succ, List.map_cons, List.sum_cons] at ih ⊢
    have : nth (a :: l) (k + 1) = nth l k := by simp [nth]
    rw [this, ih]; omega

theorem sumF_take (f : Int → Int) (l : List Int) {i : Nat} (h : i < l.length) : sumF f (l.take (i + 1)) = sumF f (l.take i) + f (nth l i) := by
  rw [List.take_add_one, sumF_append, nth_lt h]
  simp [sumF, h]

theorem sumF_outTo (f : Int → Int) (l : List Int) (a s : Nat) (c : Int) : ∀ i, i ≤ l.length → sumF f (outTo l a s c i) = sumF f (l.take i) - (if a < i then f (nth l a) else 0) + (if s < i then f c else 0)
  | 0, _ => by simp [outTo, sumF]
  | i + 1, h => by
    have ih := sumF_outTo f l a s c i (by omega)
    simp only [outTo, sumF_append, sumF_take f l (show i < l.length by omega), ih]
    have h0 : sumF f [] = 0 := rfl
    have h1 : ∀ x, sumF f [x] = f x := fun x => by simp [sumF]
    by_cases ha : i = a <;> by_cases hs : i = s
    · subst ha; subst hs
      simp [h0, h1]
    · subst ha
      have e1 : ¬ (i : Int) = (s : Int) := by omega
      simp only [ne_eq, not_true_eq_false, ↓reduceIte, e1, h0, Nat.lt_irrefl, Nat.lt_succ_self]
      by_cases e : s < i
      · rw [if_pos e, if_pos (by omega)]; omega
      · rw [if_neg e, if_neg (by omega)]; omega
    · subst hs
      have e1 : ¬ (i : Int) = (a : Int) := by omega
      simp only [ne_eq, e1, not_false_eq_true, ↓reduceIte, h1, Nat.lt_irrefl, Nat.lt_succ_self]
      by_cases e : a < i
      · rw [if_pos e, if_pos (by omega)]; omega
      · rw [if_neg e, if_neg (by omega)]; omega
    · have e1 : ¬ (i : Int) = (a : Int) := by omega
      have e2 : ¬ (i : Int) = (s : Int) := by omega
      simp only [ne_eq, e1, e2, not_false_eq_true, ↓reduceIte, h0, h1]
      by_cases e : a < i <;> by_cases e' : s < i
      · rw [if_pos e, if_pos e', if_pos (by omega), if_pos (by omega)]; omega
      · rw [if_pos e, if_neg e', if_pos (by omega), if_neg (by omega)]; omega
      · rw [if_neg e, if_pos e', if_neg (by omega), if_pos (by omega)]; omega
      · rw [if_neg e, if_neg e', if_neg (by omega), if_neg (by omega)]; omega

theorem sumF_one (l : List Int) : sumF (fun _ => 1) l = l.length := by
  induction l with
  | nil => rfl
  | cons a l ih => simp only [sumF, List.map_cons, List.sum_cons, List.length_cons] at ih ⊢; omega

theorem sq_shift {a b c : Int} (h1 : 1 ≤ c) (h2 : c + 1 ≤ a - b) : (a - c) * (a - c) + (b + c) * (b + c) < a * a + b * b := by
  have h : 0 < c * (a - b - c) := Int.mul_pos (by omega) (by omega)
  grind

theorem sq_move {m l t c : Int} (h1 : 0 ≤ l) (h2 : 0 ≤ t) (h3 : 4 * (l + t) + 8 < m) (hc : c = m / 2) : (t + l) * (t + l) + (m - c) * (m - c) + c * c < m * m + t * t + l * l := by
  have e : m = 2 * c ∨ m = 2 * c + 1 := by omega
  have h4 : 0 ≤ (l + t) * (c - 2 * (l + t) - 3) := Int.mul_nonneg (by omega) (by omega)
  have h5 : 0 ≤ l * t := Int.mul_nonneg h1 h2
  have h6 : 0 ≤ l * l := Int.mul_nonneg h1 h1
  have h7 : 0 ≤ t * t := Int.mul_nonneg h2 h2
  have h8 : 0 < c * c := Int.mul_pos (by omega) (by omega)
  have h9 : 0 ≤ c * (c - 2 * (l + t) - 3) := Int.mul_nonneg (by omega) (by omega)
  rcases e with rfl | rfl <;> grind

theorem firstFrom_spec {xs : List Int} : ∀ {n i : Nat} {b : Bal}, firstFrom xs n i = some b → ∃ j, i ≤ j ∧ j < i + n ∧ shiftAt xs j = some b
  | 0, _, _, h => by simp [firstFrom] at h
  | n + 1, i, b, h => by
    simp only [firstFrom] at h
    split at h
    · rename_i b' hb
      cases h
      exact ⟨i, Nat.le_refl _, by omega, hb⟩
    · obtain ⟨j, h1, h2, h3⟩ := firstFrom_spec h
      exact ⟨j, by omega, by omega, h3⟩

/-- What a step that is due is. -/
theorem stepOf_cases {xs : List Int} {b : Bal} (h : stepOf xs = some b) : valid xs = true ∧ ((∃ i, i + 1 < xs.length ∧ shiftAt xs i = some b) ∨ (3 ≤ xs.length ∧ moveOf xs = some b)) := by
  unfold stepOf at h
  split at h
  · rename_i hv
    refine ⟨hv, ?_⟩
    split at h
    · rename_i b' hb
      cases h
      obtain ⟨j, h1, h2, h3⟩ := firstFrom_spec hb
      exact .inl ⟨j, by omega, h3⟩
    · split at h
      · cases h
      · exact .inr ⟨by omega, h⟩
  · cases h

def Falls (xs : List Int) (b : Bal) (ys : List Int) : Prop :=
  applyOf xs b = (ys, 0) ∧ ys.length = xs.length ∧ valid ys = true ∧ sumF (fun x => x) ys = sumF (fun x => x) xs ∧ sumF (fun x => x * x) ys < sumF (fun x => x * x) xs

theorem shift_falls {xs : List Int} (hv : valid xs = true) {f t : Nat} {c : Int} (hf : f < xs.length) (ht : t < xs.length) (hft : f = t + 1 ∨ t = f + 1) (h : nth xs f > 2 * nth xs t + 4) (hc : c = (nth xs f - nth xs t) / 2) :
    Falls xs ⟨1, f, t, 0, c⟩ (shifted xs ⟨1, f, t, 0, c⟩) := by
  have hvf := valid_get hv hf
  have hvt := valid_get hv ht
  have hl := valid_len hv
  have hs : shifted xs ⟨1, f, t, 0, c⟩ = (xs.set f (nth xs f - c)).set t (nth xs t + c) := by simp [shifted]
  have hne : f ≠ t := by omega
  have hlen : (shifted xs ⟨1, f, t, 0, c⟩).length = xs.length := by simp [shifted]
  have hval : valid (shifted xs ⟨1, f, t, 0, c⟩) = true := by
    refine valid_all (by omega) fun j hj => ?_
    rw [hs]
    by_cases e1 : t = j
    · subst e1; rw [nth_set_eq (by simpa using ht)]; omega
    · rw [nth_set_ne e1]
      by_cases e2 : f = j
      · subst e2; rw [nth_set_eq hf]; omega
      · rw [nth_set_ne e2]; exact valid_get hv (by omega)
  have hsum : ∀ F : Int → Int, sumF F (shifted xs ⟨1, f, t, 0, c⟩) = sumF F xs - F (nth xs f) + F (nth xs f - c) - F (nth xs t) + F (nth xs t + c) := fun F => by
    rw [hs, sumF_set F _ t _ (by simpa using ht), sumF_set F xs f _ hf, nth_set_ne hne]
  refine ⟨?_, hlen, hval, by rw [hsum]; omega, ?_⟩
  · have hr : rangeOk xs.length ⟨1, f, t, 0, c⟩ = true := by simp only [rangeOk, decide_eq_true_eq]; omega
    unfold applyOf
    rw [if_neg (by rw [hv]; simp), if_neg (by rw [hr]; simp), if_pos rfl, if_neg (by simp; omega), if_pos hval]
  · rw [hsum]
    have := sq_shift (a := nth xs f) (b := nth xs t) (c := c) (by omega) (by omega)
    omega

theorem move_falls {xs : List Int} (hv : valid xs = true) {l t m : Nat} {c : Int} (hl : l < xs.length) (ht : t < xs.length) (hm : m < xs.length) (hlt : l = t + 1 ∨ t = l + 1) (h : nth xs m > 4 * (nth xs l + nth xs t) + 8) (hc : c = nth xs m / 2) :
    Falls xs ⟨2, l, t, m, c⟩ (moved xs ⟨2, l, t, m, c⟩) := by
  have hvl := valid_get hv hl
  have hvt := valid_get hv ht
  have hvm := valid_get hv hm
  have hn := valid_len hv
  have hml : m ≠ l := fun e => by subst e; omega
  have hmt : m ≠ t := fun e => by subst e; omega
  have hj : joined xs ⟨2, l, t, m, c⟩ = xs.set t (nth xs t + nth xs l) := by simp [joined]
  have hjm : nth (joined xs ⟨2, l, t, m, c⟩) m = nth xs m := by rw [hj, nth_set_ne (Ne.symm hmt)]
  have hg : given xs ⟨2, l, t, m, c⟩ = (xs.set t (nth xs t + nth xs l)).set m (nth xs m - c) := by
    unfold given; simp only [Int.toNat_natCast]; rw [hjm, hj]
  have hglen : (given xs ⟨2, l, t, m, c⟩).length = xs.length := by rw [hg]; simp
  have hgl : nth (given xs ⟨2, l, t, m, c⟩) l = nth xs l := by
    rw [hg, nth_set_ne hml, nth_set_ne (by omega)]
  have hsum : ∀ F : Int → Int, sumF F (moved xs ⟨2, l, t, m, c⟩) = sumF F xs - F (nth xs t) + F (nth xs t + nth xs l) - F (nth xs m) + F (nth xs m - c) - F (nth xs l) + F c := fun F => by
    unfold moved
    rw [sumF_outTo F _ l m c xs.length (by omega), if_pos hl, if_pos hm, hgl, ← hglen, List.take_length, hg, sumF_set F _ m _ (by simpa using hm), sumF_set F xs t _ ht, nth_set_ne (Ne.symm hmt)]
  have hlen : (moved xs ⟨2, l, t, m, c⟩).length = xs.length := by
    have h1 := hsum (fun _ => 1)
    rw [sumF_one, sumF_one] at h1
    omega
  have hmem : ∀ i, i ≤ xs.length → ∀ x ∈ outTo (given xs ⟨2, l, t, m, c⟩) l m c i, 0 ≤ x ∧ x ≤ 1024 := by
    intro i
    induction i with
    | zero => intro _ x hx; simp [outTo] at hx
    | succ i ih =>
      intro hi x hx
      simp only [outTo, List.mem_append] at hx
      rcases hx with (hx | hx) | hx
      · exact ih (by omega) x hx
      · split at hx
        · simp only [List.mem_singleton] at hx
          subst hx
          rw [hg]
          by_cases e1 : m = i
          · subst e1; rw [nth_set_eq (by simpa using hm)]; omega
          · rw [nth_set_ne e1]
            by_cases e2 : t = i
            · subst e2; rw [nth_set_eq ht]; omega
            · rw [nth_set_ne e2]; exact valid_get hv (by omega)
        · simp at hx
      · split at hx
        · simp only [List.mem_singleton] at hx
          subst hx; omega
        · simp at hx
  have hval : valid (moved xs ⟨2, l, t, m, c⟩) = true := by
    refine valid_all (by omega) fun j hj => ?_
    rw [nth_lt hj]
    exact hmem xs.length (Nat.le_refl _) _ (List.getElem_mem hj)
  refine ⟨?_, hlen, hval, by rw [hsum]; omega, ?_⟩
  · have hr : rangeOk xs.length ⟨2, l, t, m, c⟩ = true := by simp only [rangeOk, decide_eq_true_eq]; omega
    unfold applyOf
    rw [if_neg (by rw [hv]; simp), if_neg (by rw [hr]; simp), if_neg (by simp), if_neg (by simp only [Int.toNat_natCast, hjm]; omega), if_pos hval]
  · rw [hsum]
    have := sq_move (m := nth xs m) (l := nth xs l) (t := nth xs t) (c := c) (by omega) (by omega) (by omega) hc
    omega

theorem toOf_lt {xs : List Int} {l : Nat} (hl : l < xs.length) (h3 : 3 ≤ xs.length) : toOf xs l < xs.length ∧ (l = toOf xs l + 1 ∨ toOf xs l = l + 1) := by
  unfold toOf; split <;> omega

/-- A step that is due can be applied, keeps the number and the sum of the loads, and lets the sum of the squares fall. -/
theorem step_falls {xs : List Int} {b : Bal} (h : stepOf xs = some b) : ∃ ys, Falls xs b ys := by
  obtain ⟨hv, ⟨i, hi, hs⟩ | ⟨h3, hm⟩⟩ := stepOf_cases h
  · unfold shiftAt at hs
    split at hs
    · cases hs
      exact ⟨_, shift_falls hv (f := i + 1) (t := i) hi (by omega) (.inl rfl) (by omega) rfl⟩
    · split at hs
      · cases hs
        exact ⟨_, shift_falls hv (f := i) (t := i + 1) (by omega) hi (.inr rfl) (by omega) rfl⟩
      · cases hs
  · unfold moveOf at hm
    simp only at hm
    split at hm
    · cases hm
      have hl := leastAt_lt xs xs.length (Nat.le_refl _) (by omega)
      have hmm := mostAt_lt xs xs.length (Nat.le_refl _) (by omega)
      obtain ⟨h1, h2⟩ := toOf_lt hl h3
      exact ⟨_, move_falls hv hl h1 hmm h2 (by omega) rfl⟩
    · cases hm

end Go.Proofs
