/-
  BalanceApplies: for every input the law returns true, and the input reads as before.
  Conditions: none.
-/
import Derived.Test.YtnkodcknbeahcaaRows
import Derived.Test.YtnkodcknbeahcaaBalQ
import Derived.Test.YtnkodcknbeahcaaBalW
set_option linter.unusedSimpArgs false
set_option linter.unusedVariables false
namespace Go.Proofs.Ytnkodcknbeahcaa.balanceAppliesTop
open Go.ChangeShapes Go.WideShapes Go.RowKit Go.Sk Go.Proofs

theorem uBal : Try.prog.underlying 24 = some (.struct (Try.prog.fieldsOf 24)) := by kernel_rfl
theorem cBal : Try.prog.cellsOf 24 = 5 := by kernel_rfl
theorem fBal : intFields Try.prog (Try.prog.fieldsOf 24) 5 = true := by kernel_rfl

theorem bal_in {H : Type} {enc : TypeId × Value → H} {w : World} {base : Nat} {v : Value} {d : DataW H} {p : List MemPlace} (hv : Value.okWide Try.prog w .any base 24 v) (h : DataW.Trod enc Try.prog w 0 (fun _ => true) true 24 v d p) :
    ∃ s : Bal, ∀ β : Env, den β (.agg s.sv) v := by
  obtain ⟨cs, rfl, hsz⟩ := okWide_struct uBal hv
  obtain ⟨fuel, hf⟩ := h
  obtain ⟨zs, hl, hz⟩ := open_intsS uBal cBal fBal hf
  match zs, hl with
  | [a, b, c, d, e], _ =>
    refine ⟨⟨a, b, c, d, e⟩, fun β => ?_⟩
    have hcs : cs = [Value.int .i64 a, .int .i64 b, .int .i64 c, .int .i64 d, .int .i64 e].toArray := by
      have h2 : cs.toList = [Value.int .i64 a, .int .i64 b, .int .i64 c, .int .i64 d, .int .i64 e] := hz
      rw [← h2]
    simp only [den]
    exact ⟨_, ⟨_, _, rfl, ⟨_, _, rfl, ⟨_, _, rfl, ⟨_, _, rfl, ⟨_, _, rfl, rfl, rfl⟩, rfl⟩, rfl⟩, rfl⟩, rfl⟩, by rw [hcs]⟩

theorem top (w : World) (v v1 v2 : Value) (q q1 : Option Sk.Loc) (xs ys : List Int) (s : Bal) (hi : Ints w v q xs) (hi1 : Ints w v1 q1 ys) (hs : ∀ β : Env, den β (.agg s.sv) v2) :
    Calls Try.prog 3 #[v, v1, v2] w fun e w' => e = .returned (.bool true) ∧ Below w.heap.size w w' := by
  obtain ⟨h1, h2⟩ := ints_in (β := fun id _ => if id = 0 then q else q1) (id := 0) hi rfl
  obtain ⟨h3, h4⟩ := ints_in (β := fun id _ => if id = 0 then q else q1) (id := 1) hi1 rfl
  refine FSpec.top (applies_spec xs ys s hi.len hi1.len) (fun id _ => if id = 0 then q else q1) w [v, v1, v2] (fun id k o ho => ?_) ⟨v, [v1, v2], h1, ⟨v1, [v2], h3, ⟨v2, [], hs _, rfl, rfl⟩, rfl⟩, rfl⟩ (by simp [SV.ltL, SV.lt, Bal.sv])
  obtain ⟨c, F, hf, hk, rfl⟩ := look_find ho
  simp only [Sk.find, inRow, one] at hf
  split at hf
  · rename_i e
    subst e
    cases hf
    exact ⟨rfl, by show (0 : Nat) < 2; omega, ints_lt _ _, h2⟩
  · split at hf
    · rename_i e
      subst e
      cases hf
      exact ⟨rfl, by show (1 : Nat) < 2; omega, ints_lt _ _, h4⟩
    · cases hf

theorem lifted (os : Os) (started : os.Started) (H : Type) (enc : TypeId × Value → H) :
    ReturnsInHanded {} Try.checked os 3 .any (Rows.balanceAppliesSpec.pre6 enc Try.prog Try.f3 Rows.balanceAppliesRow.domain false) (Rows.balanceAppliesSpec.post enc Try.prog Try.f3 false true false false) := by
  refine returnsInHanded_of_change (C := Try.checked) own started (by kernel_rfl) Try.func3
    (ChangeSpec.witness6 (enc := enc) (C := Try.checked) false ⟨#[], #[.slice none 0 0, .slice none 0 0, .agg #[.int .i64 0, .int .i64 0, .int .i64 0, .int .i64 0, .int .i64 0]], []⟩ 8 (by kernel_rfl) (by kernel_rfl) (by kernel_rfl) (by kernel_rfl)) ?_
  intro W base args ds gs before hval hW _ _
  have hW1 := hW
  obtain ⟨p, q, hA0, hV, rfl, _, _⟩ := hW
  have hA : DataW.TrodAll enc Try.prog W 0 (fun _ => true) true Try.f3.params.toList args.toList ds p := hA0
  have hval1 : ∀ (j : Nat) t v, Try.f3.params[j]? = some t → args[j]? = some v → Value.okWide Try.prog W .any base t v := hval
  rw [Try.params3] at hA hval1
  obtain ⟨v0, vs0, d0, ds0, p0, q0, ha0, rfl, rfl, h0, r0⟩ := trodAll_cons hA
  obtain ⟨v1, vs1, d1, ds1, p1, q1, ha1, rfl, rfl, h1, r1⟩ := trodAll_cons r0
  obtain ⟨v2, vs2, d2, ds2, p2, q2, ha2, rfl, rfl, h2, r2⟩ := trodAll_cons r1
  obtain ⟨rfl, rfl, rfl⟩ := trodAll_nil r2
  obtain rfl : args = #[v0, v1, v2] := by cases args; simp_all
  obtain ⟨q0, xs0, hx0⟩ := open_in uInts uInt cInt (hval1 0 _ v0 rfl rfl) h0
  obtain ⟨q1, xs1, hx1⟩ := open_in uInts uInt cInt (hval1 1 _ v1 rfl rfl) h1
  obtain ⟨s, hs⟩ := bal_in (hval1 2 _ v2 rfl rfl) h2
  refine (top W v0 v1 v2 _ _ _ _ s hx0 hx1 hs).mono fun e W1 ⟨he, hb⟩ => ?_
  subst he
  refine ⟨_, rfl, law_post laid rowed fullS (by decide +kernel) rfl hW1 hb rfl uBool fun ds hd => ?_⟩
  have hd1 : ds.length = 3 := hd
  match ds, hd1 with
  | [_, _, _], _ => rfl

theorem proved : Rows.BalanceAppliesSaid :=
  OpenClaim.holds_of_wide 3 Try.f3 rfl rfl rfl rfl rfl rfl rfl ⟨rfl, rfl, rfl, rfl, rfl⟩ rfl rfl rfl rfl rfl (by kernel_rfl) Try.func3 (by kernel_rfl)
    (of_decide_eq_true (by kernel_rfl)) (by unfold Func.isWrapper; first | (rw [if_pos (by decide +kernel)]; kernel_rfl) | (rw [if_neg (by decide +kernel)]; exact ⟨rfl, rfl⟩))
    (fun os started H enc _ => lifted os started H enc)
end Go.Proofs.Ytnkodcknbeahcaa.balanceAppliesTop
#print axioms Go.Proofs.Ytnkodcknbeahcaa.balanceAppliesTop.proved
