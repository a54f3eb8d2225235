/-
  A frame for walks, nineteenth part: comparison of structs of numbers, Bools and strings.
  Conditions: none; lemmas over any program.
-/
import Derived.Test.YtnkodcknbeahcaaSkR
import Derived.Laws.StructEq
set_option linter.unusedSimpArgs false
set_option linter.unusedVariables false
namespace Go.Sk
open Go.RowKit

def scEq (P : Program) (t : TypeId) : SV → SV → Prop
  | .int k _, .int k' _ => k = k' ∧ ∃ q, P.underlying t = some (.int q)
  | .bool _, .bool _ => P.underlying t = some .bool
  | .str _, .str _ => P.underlying t = some .string
  | _, _ => False

def okEq (P : Program) : List (Bool × TypeId × Nat) → Nat → List SV → List SV → Prop
  | [], _, [], [] => True
  | (b, t, off) :: fs, i, a :: la, c :: lb => (b = false ∧ off = i ∧ isAggT P t = some false ∧ scEq P t a c) ∧ okEq P fs (i + 1) la lb
  | _, _, _, _ => False

theorem eqL_cons (a b : SV) (l r : List SV) : eqL (a :: l) (b :: r) = (eqS a b && eqL l r) := by
  cases l <;> cases r <;> simp [eqL]

theorem run_part {P : Program} {t : TypeId} (ha : isAggT P t = some false) (pre : List Value) (v : Value) (r : List Value) (w : World) : (part t (pre ++ v :: r).toArray pre.length).run P w = .ok v w := by
  unfold isAggT at ha
  cases hu : P.underlying t with
  | none => rw [hu] at ha; cases ha
  | some d =>
    rw [hu] at ha
    simp only [Option.map_some, Option.some.injEq] at ha
    simp [part, isAgg_run hu, ha]

theorem run_scEq {P : Program} {β : Env} {t : TypeId} {a c : SV} {va vc : Value} (h : scEq P t a c) (ha : den β a va) (hc : den β c vc) (d : Nat) (w : World) : (Op.equalIn (d + 1) t va vc).run P w = .ok (eqS a c) w := by
  unfold scEq at h
  split at h
  · obtain ⟨rfl, q, hq⟩ := h
    simp only [den] at ha hc
    subst ha hc
    exact run_equalIn_int w d t _ q _ _ hq
  · simp only [den] at ha hc
    subst ha hc
    exact run_equalIn_bool' w d t _ _ h
  · simp only [den] at ha hc
    subst ha hc
    rw [run_equalIn_string w d t _ _ h, ← beq_toListBytes]
    rfl
  · exact h.elim

theorem run_eqFields {P : Program} {β : Env} (d : Nat) (w : World) : ∀ (fs : List Field) (la lb : List SV) (pre pre' ra rb : List Value), okEq P (fs.map fun f => (f.name == "_", f.type, f.offset)) pre.length la lb → pre.length = pre'.length → denL β la ra → denL β lb rb →
    (Op.eqFields (d + 1) (pre ++ ra).toArray (pre' ++ rb).toArray fs).run P w = .ok (eqL la lb) w
  | [], [], [], _, _, _, _, _, _, _, _ => by simp [Op.eqFields, eqL]
  | f :: fs, a :: la, c :: lb, pre, pre', ra, rb, h, hl, ha, hc => by
    simp only [List.map_cons, okEq] at h
    obtain ⟨⟨h1, h2, h3, h4⟩, h5⟩ := h
    simp only [denL] at ha hc
    obtain ⟨va, ra, hva, hra, rfl⟩ := ha
    obtain ⟨vc, rc, hvc, hrc, rfl⟩ := hc
    have hn : f.name ≠ "_" := by simpa using h1
    have p1 := run_part h3 pre va ra w
    have p2 := run_part h3 pre' vc rc w
    rw [← h2] at p1
    rw [← hl, ← h2] at p2
    have ih := run_eqFields d w fs la lb (pre ++ [va]) (pre' ++ [vc]) ra rc (by simpa using h5) (by simp [hl]) hra hrc
    simp only [List.append_assoc, List.singleton_append] at ih
    simp only [Op.eqFields, if_pos hn, Sem.run_bind, p1, p2, Result.andThen_ok, run_scEq h4 hva hvc, eqL_cons]
    cases eqS a c with
    | false => simp
    | true => simpa using ih
  | [], [], _ :: _, _, _, _, _, h, _, _, _ => by simp [okEq] at h
  | [], _ :: _, [], _, _, _, _, h, _, _, _ => by simp [okEq] at h
  | [], _ :: _, _ :: _, _, _, _, _, h, _, _, _ => by simp [okEq] at h
  | _ :: _, [], _, _, _, _, _, h, _, _, _ => by simp [okEq] at h
  | _ :: _, _ :: _, [], _, _, _, _, h, _, _, _ => by simp [okEq] at h

/-- Structs of numbers, Bools and strings are compared field by field. -/
theorem EqT.of {P : Program} {t : TypeId} {la lb : List SV} (fs : List (Bool × TypeId × Nat)) (hg : P.eqGuardType P.depth t = false) (hh : P.stoodInHeld t = false) (hu : P.underlying t = some (.struct (P.fieldsOf t)))
    (hf : ((P.fieldsOf t).toList.map fun f => (f.name == "_", f.type, f.offset)) = fs) (h : okEq P fs 0 la lb) : EqT P t la lb := by
  intro β xs ys hx hy x y op w _
  simp only [Sem.run_bind, run_eqGuard_agg w op t x y _ _ hg, Result.andThen_ok]
  show (Op.equalIn (9999 + 1) t _ _).run P w = _
  rw [run_equalIn_struct w 9999 t _ _ hu hh]
  subst hf
  exact run_eqFields 9998 w _ la lb [] [] xs ys h rfl hx hy

end Go.Sk

namespace Go.Sk
/-- What is known is told anew, as one state among many. -/
theorem Cs.any {X : Cx} {Q : Exit → Fr → AH → Prop} {fr : Fr} {H : AH} {l : List Code} {σ : Type} {c : Code} (I : σ → Prop) (F : σ → Fr) (G : σ → AH) (h : ∃ s, I s ∧ ∃ ρ, Gives X ρ fr H (F s) (G s)) (rest : ∀ s, I s → Cs X (c :: l) Q (F s) (G s)) : Cs X (c :: l) Q fr H := by
  obtain ⟨s, hs, ρ, hg⟩ := h
  exact Cs.give ρ hg (rest s hs)
end Go.Sk

namespace Go.Sk
/-- A slice of the call's own is a slice. -/
theorem Cs.soft {X : Cx} {Q : Exit → Fr → AH → Prop} {fr : Fr} {H : AH} {l : List Code} {c : Code} (t : Nat) {g : Bool} {id k o n : Nat} (hg : get fr t = some (.slc g id k o n)) (h : Cs X (c :: l) Q ((t, .slc false id k o n) :: fr) H) : Cs X (c :: l) Q fr H := fun β a w hF hS => by
  refine h β a w ⟨hF.defers, hF.size, fun u s hs => ?_⟩ hS
  simp only [get] at hs
  split at hs
  · rename_i he
    subst he
    cases hs
    obtain ⟨h0, v, h1, h2⟩ := hF.get _ _ hg
    refine ⟨h0, v, h1, ?_⟩
    cases g with
    | false => exact h2
    | true => exact SV.wk_den (a := .slc true id k o n) ⟨rfl, rfl, rfl, rfl⟩ h2
  · exact hF.get u s hs
end Go.Sk
