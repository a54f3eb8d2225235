/-
  What the walks of the balance chapter share: the types' facts, how loads are written down.
  Conditions: none; facts of this program and lemmas.
-/
import Derived.Test.YtnkodcknbeahcaaSkR
import Derived.Test.YtnkodcknbeahcaaChecked
set_option linter.unusedSimpArgs false
set_option linter.unusedVariables false
namespace Go.Proofs
open Go.Sk

theorem Try.tyInts : tyOf Try.prog 22 = ⟨true, .slice 3, 1, 24, []⟩ := by kernel_rfl
theorem Try.tyInt : tyOf Try.prog 3 = ⟨true, .int .i64, 1, 8, []⟩ := by kernel_rfl
theorem Try.szInt : szOf Try.prog 3 = 1 := by kernel_rfl
theorem Try.zInt : zeroOf Try.prog 3 = some [.int .i64 0] := by kernel_rfl
theorem Try.tyBal : tyOf Try.prog 24 = ⟨true, .struct, 5, 40, [(0, some false, 1), (1, some false, 1), (2, some false, 1), (3, some false, 1), (4, some false, 1)]⟩ := by kernel_rfl
theorem Try.szBal : szOf Try.prog 24 = 5 := by kernel_rfl
theorem Try.zBal : zeroOf Try.prog 24 = some [.int .i64 0, .int .i64 0, .int .i64 0, .int .i64 0, .int .i64 0] := by kernel_rfl
theorem Try.tyBals : tyOf Try.prog 35 = ⟨true, .slice 24, 1, 24, []⟩ := by kernel_rfl
theorem Try.mo : Try.prog.follows .mixedOrders = true := by kernel_rfl

/-- An element of a list of numbers. -/
def nth (l : List Int) (i : Nat) : Int := l.getD i 0

/-- A list of numbers, as the rows of a block. -/
def ints (xs : List Int) : Nat → List SV := fun i => [.int .i64 (nth xs i)]


theorem nth_lt {l : List Int} {i : Nat} (h : i < l.length) : nth l i = l[i] := by simp [nth, List.getD, h]

/-- A list of numbers that the callee reads. -/
def inRow (xs : List Int) : Nat × (Nat → Sk.Obj) := one (.row ⟨false, false, 3, 1, xs.length, ints xs⟩)
/-- A list of numbers that is the callee's own. -/
def ownRow (xs : List Int) : Nat × (Nat → Sk.Obj) := one (.row ⟨true, false, 3, 1, xs.length, ints xs⟩)

theorem ints_ren (ρ : Nat → Nat) (xs : List Int) : (fun i => SV.renL ρ (ints xs i)) = ints xs := by
  funext i; simp [ints, SV.renL, SV.ren]

theorem ints_ren' (ρ : Nat → Nat) (xs : List Int) (i : Nat) : SV.renL ρ (ints xs i) = ints xs i := by
  simp [ints, SV.renL, SV.ren]

theorem wrap_in {n : Int} (h : -9223372036854775808 ≤ n ∧ n ≤ 9223372036854775807) : IntKind.i64.wrap n = n := In64.wrap h

theorem nth_set_eq {xs : List Int} {k : Nat} {v : Int} (h : k < xs.length) : nth (xs.set k v) k = v := by simp [nth, List.getD, h]
theorem nth_set_ne {xs : List Int} {k j : Nat} {v : Int} (h : k ≠ j) : nth (xs.set k v) j = nth xs j := by simp [nth, List.getD, List.getElem?_set_ne h]
theorem ints_set {xs : List Int} {k : Nat} {v : Int} (h : k < xs.length) : (fun i => if i = k then [SV.int .i64 v] else ints xs i) = ints (xs.set k v) := by
  funext i
  split
  · rename_i e; subst e; simp only [ints, nth_set_eq h]
  · rename_i e; simp only [ints, nth_set_ne (Ne.symm e)]
theorem ints_put (xs : List Int) (k : Nat) (v : Int) (h : k < xs.length) : (fun i => if i = k then [SV.int .i64 v] else [SV.int .i64 (nth xs i)]) = ints (xs.set k v) := ints_set h
theorem nth_append_lt {xs ys : List Int} {i : Nat} (h : i < xs.length) : nth (xs ++ ys) i = nth xs i := by simp [nth, List.getD, List.getElem?_append_left h]
theorem nth_append_ge {xs ys : List Int} {i : Nat} (h : ¬ i < xs.length) : nth (xs ++ ys) i = nth ys (i - xs.length) := by simp [nth, List.getD, List.getElem?_append_right (Nat.le_of_not_lt h)]
theorem ints_append (xs ys : List Int) : (fun i => if i < xs.length then ints xs i else ints ys (i - xs.length)) = ints (xs ++ ys) := by
  funext i
  split
  · rename_i h; simp only [ints, nth_append_lt h]
  · rename_i h; simp only [ints, nth_append_ge h]

theorem rowsOf_one (v : Int) : rowsOf 1 1 [SV.int .i64 v] = ints [v] := rfl
theorem app_ints (xs ys : List Int) : app (ints xs) xs.length (ints ys) = ints (xs ++ ys) := ints_append xs ys

theorem toNat_succ (i : Nat) : ((i : Int) + 1).toNat = i + 1 := by omega
theorem toNat_pred (i : Nat) : ((i : Int) - 1).toNat = i - 1 := by omega

end Go.Proofs
