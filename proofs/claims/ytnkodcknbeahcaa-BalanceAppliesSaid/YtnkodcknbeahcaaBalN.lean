/-
  Plain facts on sums and potentials; lists of lists as the laws' loops meet them.
  Conditions: none.
-/
import Derived.Test.YtnkodcknbeahcaaBalM
set_option linter.unusedSimpArgs false
set_option linter.unusedVariables false
namespace Go.Proofs
open Go.Sk
theorem Try.tyIntss : tyOf Try.prog 34 = ⟨true, .slice 22, 1, 24, []⟩ := by kernel_rfl
theorem Try.tyBool : tyOf Try.prog 4 = ⟨true, .bool, 1, 1, []⟩ := by kernel_rfl
theorem Try.szInts : szOf Try.prog 22 = 1 := by kernel_rfl
theorem Try.zInts : zeroOf Try.prog 22 = some [.nils] := by kernel_rfl

theorem sumF_snoc (f : Int → Int) (l : List Int) (x : Int) : sumF f (l ++ [x]) = sumF f l + f x := by simp [sumF]
theorem take_snoc {l : List Int} {i : Nat} (h : i < l.length) : l.take (i + 1) = l.take i ++ [nth l i] := by
  rw [nth_lt h, List.take_append_getElem]
theorem sumTo_take (xs : List Int) : ∀ i, i ≤ xs.length → sumTo xs i = sumF (fun x => x) (xs.take i)
  | 0, _ => by simp [sumTo, sumF]
  | i + 1, h => by rw [take_snoc (by omega), sumF_snoc, sumTo, sumTo_take xs i (by omega)]
theorem sumTo_all (xs : List Int) : sumTo xs xs.length = sumF (fun x => x) xs := by
  rw [sumTo_take xs _ (Nat.le_refl _), List.take_length]

theorem potTo_take {xs : List Int} (hv : valid xs = true) : ∀ i, i ≤ xs.length → potTo xs i = sumF (fun x => x * x) (xs.take i) ∧ 0 ≤ potTo xs i ∧ potTo xs i ≤ 1048576 * i
  | 0, _ => by simp [potTo, sumF]
  | i + 1, h => by
    obtain ⟨h1, h2, h3⟩ := potTo_take hv i (by omega)
    have hg := valid_get hv (i := i) (by omega)
    have hl := valid_len hv
    have ha : 0 ≤ nth xs i * nth xs i := Int.mul_nonneg hg.1 hg.1
    have hb : nth xs i * nth xs i ≤ 1024 * 1024 := Int.mul_le_mul hg.2 hg.2 hg.1 (by omega)
    rw [take_snoc (by omega), sumF_snoc, potTo, wrap_in (n := nth xs i * nth xs i) (by omega), wrap_in (by omega), ← h1]
    refine ⟨rfl, by omega, by simp only [Int.natCast_add, Int.mul_add]; omega⟩
theorem pot_valid {xs : List Int} (hv : valid xs = true) : pot xs = sumF (fun x => x * x) xs := by
  rw [pot, (potTo_take hv _ (Nat.le_refl _)).1, List.take_length]

/-- The elements of a list of own slices with neighbouring names. -/
def lsts (b : Nat) (l : List Nat) : Nat → List SV := fun i => [.slc true (b + i) 0 0 (l.getD i 0)]
theorem all2 {p : Nat → Prop} : (∀ i, i < 2 → p i) ↔ p 0 ∧ p 1 := ⟨fun h => ⟨h 0 (by omega), h 1 (by omega)⟩, fun h i hi => by
  have e : i = 0 ∨ i = 1 := by omega
  rcases e with rfl | rfl
  · exact h.1
  · exact h.2⟩
theorem all3 {p : Nat → Prop} : (∀ i, i < 3 → p i) ↔ p 0 ∧ p 1 ∧ p 2 := ⟨fun h => ⟨h 0 (by omega), h 1 (by omega), h 2 (by omega)⟩, fun h i hi => by
  have e : i = 0 ∨ i = 1 ∨ i = 2 := by omega
  rcases e with rfl | rfl | rfl
  · exact h.1
  · exact h.2.1
  · exact h.2.2⟩
theorem all4 {p : Nat → Prop} : (∀ i, i < 4 → p i) ↔ p 0 ∧ p 1 ∧ p 2 ∧ p 3 := ⟨fun h => ⟨h 0 (by omega), h 1 (by omega), h 2 (by omega), h 3 (by omega)⟩, fun h i hi => by
  have e : i = 0 ∨ i = 1 ∨ i = 2 ∨ i = 3 := by omega
  rcases e with rfl | rfl | rfl | rfl
  · exact h.1
  · exact h.2.1
  · exact h.2.2.1
  · exact h.2.2.2⟩

/-- Loads that a law makes. -/
def okL (n : Nat) (x : List Int) : Prop := x.length ≤ n ∧ ∀ j, j < x.length → 0 ≤ nth x j ∧ nth x j ≤ 1024

theorem step_ok {x : List Int} {b : Bal} (h : stepOf x = some b) : ∃ y, applyOf x b = (y, 0) ∧ y.length = x.length ∧ valid x = true ∧ valid y = true ∧ sumTo y y.length = sumTo x x.length ∧ pot y < pot x := by
  obtain ⟨y, h1, h2, h3, h4, h5⟩ := step_falls h
  have hv := (stepOf_cases h).1
  exact ⟨y, h1, h2, hv, h3, by rw [sumTo_all, sumTo_all]; exact h4, by rw [pot_valid h3, pot_valid hv]; exact h5⟩

end Go.Proofs
