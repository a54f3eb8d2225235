/-
  What a slice of numbers that came in is, as the walks' names have it.
  Conditions: none.
-/
import Derived.Test.YtnkodcknbeahcaaSkT
import Derived.Test.YtnkodcknbeahcaaBalN
set_option linter.unusedSimpArgs false
set_option linter.unusedVariables false
namespace Go.Proofs.Ytnkodcknbeahcaa
open Go.ChangeShapes Go.WideShapes Go.RowKit Go.Sk Go.Proofs

theorem own : ownKnob Try.prog.godebug = none := by kernel_rfl
theorem laid : laidOutB Try.prog = true := by kernel_rfl
theorem rowed : mapsRowed Try.prog = true := by kernel_rfl
theorem fullS : ∀ t e, t < Try.prog.types.size → Try.prog.underlying t = some (.slice e) → 0 < Try.prog.cellsOf e := slices_full_of _ (by kernel_rfl)
theorem cInt : Try.prog.cellsOf 3 = 1 := by kernel_rfl
theorem uInts : Try.prog.underlying 22 = some (.slice 3) := by kernel_rfl
theorem uInt : Try.prog.underlying 3 = some (.int .i64) := by kernel_rfl
theorem uBool : Try.prog.underlying 4 = some .bool := by kernel_rfl

/-- A slice of numbers that came in, as the walk's names have it. -/
theorem ints_in {β : Env} {w : World} {v : Value} {q : Option Sk.Loc} {xs : List Int} (h : Ints w v q xs) {id : Nat} (hq : β id 0 = q) : den β (.slc false id 0 0 xs.length) v ∧ (Sk.Obj.row ⟨false, false, 3, 1, xs.length, ints xs⟩).holds β w q := by
  obtain ⟨_, _, ⟨a, c, rfl, hc, hp⟩, hm⟩ := h
  refine ⟨?_, ?_⟩
  · simp only [den, slcDen, Bool.false_eq_true, if_false]
    refine ⟨a, c, rfl, hc, fun h => ?_⟩
    obtain ⟨L, h1, h2⟩ := hp h
    exact ⟨L, hq.trans h1, by rw [h2]; simp⟩
  · rcases hm with hm | ⟨L, h1, h2, h3, h4⟩
    · exact .inl hm
    · refine .inr ⟨L, h1, h2, h3, fun i hi => ⟨rfl, fun j s hs => ?_⟩, fun h => by cases h⟩
      have hi' : i < xs.length := hi
      have e : j = 0 ∧ s = .int .i64 (nth xs i) := by
        cases j with
        | zero => simp [ints] at hs; exact ⟨rfl, hs.symm⟩
        | succ j => simp [ints] at hs
      obtain ⟨rfl, rfl⟩ := e
      refine ⟨rfl, _, ?_, rfl⟩
      rw [h2, Nat.mul_one, Nat.add_zero, h4 i hi', nth_lt hi']

theorem ints_lt (m : Nat) (xs : List Int) : (Sk.Obj.row ⟨false, false, 3, 1, xs.length, ints xs⟩).lt m := Sk.Obj.lt_row.2 fun i _ => by simp [ints, SV.ltL, SV.lt]


/-- One slice of numbers. -/
theorem top1 {f : FuncId} (h : ∀ ls : List Int, ls.length ≤ 9223372036854775807 → FSpec Try.prog f [.slc false 0 0 0 ls.length] ⟨1, [(0, inRow ls)]⟩ (fun s _ => s = .bool true)) (w : World) (v : Value) (q : Option Sk.Loc) (xs : List Int) (hi : Ints w v q xs) :
    Calls Try.prog f #[v] w fun e w' => e = .returned (.bool true) ∧ Below w.heap.size w w' := by
  have hq : (fun (_ _ : Nat) => q : Env) 0 0 = q := rfl
  obtain ⟨h1, h2⟩ := ints_in (β := fun _ _ => q) (id := 0) hi hq
  refine FSpec.top (h xs hi.len) (fun _ _ => q) w [v] (fun id k o ho => ?_) ⟨v, [], h1, rfl, rfl⟩ (by simp [SV.ltL, SV.lt])
  obtain ⟨c, F, hf, hk, rfl⟩ := look_find ho
  simp only [Sk.find, inRow, one] at hf
  split at hf
  · rename_i e
    subst e
    cases hf
    exact ⟨rfl, by show (0 : Nat) < 1; omega, ints_lt _ _, h2⟩
  · cases hf

/-- Two slices of numbers. -/
theorem top2 {f : FuncId} (h : ∀ ls raw : List Int, ls.length ≤ 9223372036854775807 → raw.length ≤ 9223372036854775807 → FSpec Try.prog f [.slc false 0 0 0 ls.length, .slc false 1 0 0 raw.length] ⟨2, [(0, inRow ls), (1, inRow raw)]⟩ (fun s _ => s = .bool true)) (w : World) (v v1 : Value) (q q1 : Option Sk.Loc) (xs ys : List Int) (hi : Ints w v q xs) (hi1 : Ints w v1 q1 ys) :
    Calls Try.prog f #[v, v1] w fun e w' => e = .returned (.bool true) ∧ Below w.heap.size w w' := by
  obtain ⟨h1, h2⟩ := ints_in (β := fun id _ => if id = 0 then q else q1) (id := 0) hi rfl
  obtain ⟨h3, h4⟩ := ints_in (β := fun id _ => if id = 0 then q else q1) (id := 1) hi1 rfl
  refine FSpec.top (h xs ys hi.len hi1.len) (fun id _ => if id = 0 then q else q1) w [v, v1] (fun id k o ho => ?_) ⟨v, [v1], h1, ⟨v1, [], h3, rfl, rfl⟩, rfl⟩ (by simp [SV.ltL, SV.lt])
  obtain ⟨c, F, hf, hk, rfl⟩ := look_find ho
  simp only [Sk.find, inRow, one] at hf
  split at hf
  · rename_i e
    subst e
    cases hf
    exact ⟨rfl, by show (0 : Nat) < 2; omega, ints_lt _ _, h2⟩
  · split at hf
    · rename_i e
      subst e
      cases hf
      exact ⟨rfl, by show (1 : Nat) < 2; omega, ints_lt _ _, h4⟩
    · cases hf

end Go.Proofs.Ytnkodcknbeahcaa
