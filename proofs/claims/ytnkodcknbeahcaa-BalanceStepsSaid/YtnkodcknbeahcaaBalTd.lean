/-
  BalanceSteps: for every input the law returns true, and the input reads as before.
  Conditions: none.
-/
import Derived.Test.YtnkodcknbeahcaaRows
import Derived.Test.YtnkodcknbeahcaaBalQ
import Derived.Test.YtnkodcknbeahcaaBalV
set_option linter.unusedSimpArgs false
set_option linter.unusedVariables false
namespace Go.Proofs.Ytnkodcknbeahcaa.balanceStepsTop
open Go.ChangeShapes Go.WideShapes Go.RowKit Go.Sk Go.Proofs

theorem lifted (os : Os) (started : os.Started) (H : Type) (enc : TypeId × Value → H) :
    ReturnsInHanded {} Try.checked os 5 .any (Rows.balanceStepsSpec.pre6 enc Try.prog Try.f5 Rows.balanceStepsRow.domain false) (Rows.balanceStepsSpec.post enc Try.prog Try.f5 false true false false) := by
  refine returnsInHanded_of_change (C := Try.checked) own started (by kernel_rfl) Try.func5
    (ChangeSpec.witness6 (enc := enc) (C := Try.checked) false ⟨#[], #[.slice none 0 0, .slice none 0 0], []⟩ 8 (by kernel_rfl) (by kernel_rfl) (by kernel_rfl) (by kernel_rfl)) ?_
  intro W base args ds gs before hval hW _ _
  have hW1 := hW
  obtain ⟨p, q, hA0, hV, rfl, _, _⟩ := hW
  have hA : DataW.TrodAll enc Try.prog W 0 (fun _ => true) true Try.f5.params.toList args.toList ds p := hA0
  have hval1 : ∀ (j : Nat) t v, Try.f5.params[j]? = some t → args[j]? = some v → Value.okWide Try.prog W .any base t v := hval
  rw [Try.params5] at hA hval1
  obtain ⟨v0, vs0, d0, ds0, p0, q0, ha0, rfl, rfl, h0, r0⟩ := trodAll_cons hA
  obtain ⟨v1, vs1, d1, ds1, p1, q1, ha1, rfl, rfl, h1, r1⟩ := trodAll_cons r0
  obtain ⟨rfl, rfl, rfl⟩ := trodAll_nil r1
  obtain rfl : args = #[v0, v1] := by cases args; simp_all
  obtain ⟨q0, xs0, hx0⟩ := open_in uInts uInt cInt (hval1 0 _ v0 rfl rfl) h0
  obtain ⟨q1, xs1, hx1⟩ := open_in uInts uInt cInt (hval1 1 _ v1 rfl rfl) h1
  refine (top2 steps_spec W v0 v1 _ _ _ _ hx0 hx1).mono fun e W1 ⟨he, hb⟩ => ?_
  subst he
  refine ⟨_, rfl, law_post laid rowed fullS (by decide +kernel) rfl hW1 hb rfl uBool fun ds hd => ?_⟩
  have hd1 : ds.length = 2 := hd
  match ds, hd1 with
  | [_, _], _ => rfl

theorem proved : Rows.BalanceStepsSaid :=
  OpenClaim.holds_of_wide 5 Try.f5 rfl rfl rfl rfl rfl rfl rfl ⟨rfl, rfl, rfl, rfl, rfl⟩ rfl rfl rfl rfl rfl (by kernel_rfl) Try.func5 (by kernel_rfl)
    (of_decide_eq_true (by kernel_rfl)) (by unfold Func.isWrapper; first | (rw [if_pos (by decide +kernel)]; kernel_rfl) | (rw [if_neg (by decide +kernel)]; exact ⟨rfl, rfl⟩))
    (fun os started H enc _ => lifted os started H enc)
end Go.Proofs.Ytnkodcknbeahcaa.balanceStepsTop
#print axioms Go.Proofs.Ytnkodcknbeahcaa.balanceStepsTop.proved
