/-
  BalanceFalls: for every list the law returns true, and the list reads as before.
  Conditions: none.
-/
import Derived.Test.YtnkodcknbeahcaaRows
import Derived.Test.YtnkodcknbeahcaaSkT
import Derived.Test.YtnkodcknbeahcaaBalO
namespace Go.Proofs.Ytnkodcknbeahcaa
open Go.ChangeShapes Go.WideShapes Go.RowKit Go.Sk Go.Proofs

theorem own : ownKnob Try.prog.godebug = none := by kernel_rfl
theorem laid : laidOutB Try.prog = true := by kernel_rfl
theorem rowed : mapsRowed Try.prog = true := by kernel_rfl
theorem fullS : ∀ t e, t < Try.prog.types.size → Try.prog.underlying t = some (.slice e) → 0 < Try.prog.cellsOf e := slices_full_of _ (by kernel_rfl)
theorem cInt : Try.prog.cellsOf 3 = 1 := by kernel_rfl
theorem uInts : Try.prog.underlying 22 = some (.slice 3) := by kernel_rfl
theorem uInt : Try.prog.underlying 3 = some (.int .i64) := by kernel_rfl
theorem uBool : Try.prog.underlying 4 = some .bool := by kernel_rfl

/-- A slice of numbers that came in, as the walk's names have it. -/
theorem ints_in {β : Env} {w : World} {v : Value} {q : Option Sk.Loc} {xs : List Int} (h : Ints w v q xs) {id : Nat} (hq : β id 0 = q) : den β (.slc false id 0 0 xs.length) v ∧ (Sk.Obj.row ⟨false, false, 3, 1, xs.length, ints xs⟩).holds β w q := by
  obtain ⟨_, _, ⟨a, c, rfl, hc, hp⟩, hm⟩ := h
  refine ⟨?_, ?_⟩
  · simp only [den, slcDen, Bool.false_eq_true, if_false]
    refine ⟨a, c, rfl, hc, fun h => ?_⟩
    obtain ⟨L, h1, h2⟩ := hp h
    exact ⟨L, hq.trans h1, by rw [h2]; simp⟩
  · rcases hm with hm | ⟨L, h1, h2, h3, h4⟩
    · exact .inl hm
    · refine .inr ⟨L, h1, h2, h3, fun i hi => ⟨rfl, fun j s hs => ?_⟩, fun h => by cases h⟩
      have hi' : i < xs.length := hi
      have e : j = 0 ∧ s = .int .i64 (nth xs i) := by
        cases j with
        | zero => simp [ints] at hs; exact ⟨rfl, hs.symm⟩
        | succ j => simp [ints] at hs
      obtain ⟨rfl, rfl⟩ := e
      refine ⟨rfl, _, ?_, rfl⟩
      rw [h2, Nat.mul_one, Nat.add_zero, h4 i hi', nth_lt hi']

theorem ints_lt (m : Nat) (xs : List Int) : (Sk.Obj.row ⟨false, false, 3, 1, xs.length, ints xs⟩).lt m := Sk.Obj.lt_row.2 fun i _ => by simp [ints, SV.ltL, SV.lt]

theorem falls_true (w : World) (v : Value) (q : Option Sk.Loc) (xs : List Int) (h : Ints w v q xs) :
    Calls Try.prog 4 #[v] w fun e w' => e = .returned (.bool true) ∧ Below w.heap.size w w' := by
  have hq : (fun (_ _ : Nat) => q : Env) 0 0 = q := rfl
  obtain ⟨h1, h2⟩ := ints_in (β := fun _ _ => q) (id := 0) h hq
  refine FSpec.top (falls_spec xs h.len) (fun _ _ => q) w [v] (fun id k o ho => ?_) ⟨v, [], h1, rfl, rfl⟩ (by simp [SV.ltL, SV.lt])
  obtain ⟨c, F, hf, hk, rfl⟩ := look_find ho
  simp only [Sk.find, inRow, one] at hf
  split at hf
  · rename_i e
    subst e
    cases hf
    exact ⟨rfl, by show (0 : Nat) < 1; omega, ints_lt _ _, h2⟩
  · cases hf

namespace fallsTop
theorem lifted (os : Os) (started : os.Started) (H : Type) (enc : TypeId × Value → H) :
    ReturnsInHanded {} Try.checked os 4 .any (Rows.balanceFallsSpec.pre6 enc Try.prog Try.f4 Rows.balanceFallsRow.domain false) (Rows.balanceFallsSpec.post enc Try.prog Try.f4 false true false false) := by
  refine returnsInHanded_of_change (C := Try.checked) own started (by kernel_rfl) Try.func4
    (ChangeSpec.witness6 (enc := enc) (C := Try.checked) false ⟨#[], #[.slice none 0 0], []⟩ 8 (by kernel_rfl) (by kernel_rfl) (by kernel_rfl) (by kernel_rfl)) ?_
  intro W base args ds gs before hval hW _ _
  have hW' := hW
  obtain ⟨p, q, hA0, hV, rfl, _, _⟩ := hW
  have hA : DataW.TrodAll enc Try.prog W 0 (fun _ => true) true Try.f4.params.toList args.toList ds p := hA0
  have hval' : ∀ (j : Nat) t v, Try.f4.params[j]? = some t → args[j]? = some v → Value.okWide Try.prog W .any base t v := hval
  rw [Try.params4] at hA hval'
  obtain ⟨v0, vs0, d0, ds0, p0, q0, hargs, rfl, rfl, h0, r0⟩ := trodAll_cons hA
  obtain ⟨rfl, rfl, rfl⟩ := trodAll_nil r0
  obtain rfl : args = #[v0] := by cases args; simp_all
  obtain ⟨q, xs, hx⟩ := open_in uInts uInt cInt (hval' 0 _ v0 rfl rfl) h0
  refine (falls_true W v0 q xs hx).mono fun e W' ⟨he, hb⟩ => ?_
  subst he
  refine ⟨_, rfl, law_post laid rowed fullS (by decide +kernel) rfl hW' hb rfl uBool fun ds hd => ?_⟩
  have hd' : ds.length = 1 := hd
  match ds, hd' with
  | [_], _ => rfl

theorem proved : Rows.BalanceFallsSaid :=
  OpenClaim.holds_of_wide 4 Try.f4 rfl rfl rfl rfl rfl rfl rfl ⟨rfl, rfl, rfl, rfl, rfl⟩ rfl rfl rfl rfl rfl (by kernel_rfl) Try.func4 (by kernel_rfl)
    (of_decide_eq_true (by kernel_rfl)) (by unfold Func.isWrapper; first | (rw [if_pos (by decide +kernel)]; kernel_rfl) | (rw [if_neg (by decide +kernel)]; exact ⟨rfl, rfl⟩))
    (fun os started H enc _ => lifted os started H enc)
end fallsTop
#print axioms fallsTop.proved
end Go.Proofs.Ytnkodcknbeahcaa
