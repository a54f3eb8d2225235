/-
  A frame for walks, fifteenth part: what a function does, stated once; how a caller uses it.
  Conditions: none; definitions and lemmas over any program.
-/
import Derived.Test.YtnkodcknbeahcaaSkN
set_option linter.unusedSimpArgs false
set_option linter.unusedVariables false
namespace Go.Sk
open Go.RowKit

theorem Ent.of {P : Program} {f : FuncId} {fn : Func} (hf : P.funcs[f]? = some fn) (hn : (fn.name == "runtime.NumGoroutine") = false) (hb : fn.body.isNone = false) : Ent P f := fun as w => by
  simp only [callFunc, Sem.run_bind, run_program, Result.andThen_ok, hf, hn, hb, Bool.false_eq_true, if_false, Sem.run_pure]

/-- All is owned; what has an old name was owned before. -/
def OwnAll (H0 : AH) (os : List (Nat × Nat × (Nat → Obj))) : Prop := ∀ x ∈ os, (∀ k, (x.2.2 k).own = true) ∧ (H0.nxt ≤ x.1 ∨ ∃ y ∈ H0.os, y.1 = x.1 ∧ y.2.1 = x.2.1 ∧ (y.2.2 0).own = true)

/-- What a function does, begun where H0 is all that is known: a value and new knowledge, of which R holds. -/
def FSpec (P : Program) (f : FuncId) (args : List SV) (H0 : AH) (R : SV → AH → Prop) : Prop :=
  Ent P f ∧ ∀ (X : Cx) (β : Env) (w : World) (vs : List Value), X.P = P → X.m0 = H0.nxt → X.w0 = w → X.β0 = β → (X.own0 = fun id k => ∃ o, look H0.os id k = some o ∧ o.own = true) → St X β H0 w → denL β args vs → SV.ltL H0.nxt args →
    Calls P f vs.toArray w fun e w' => ∃ v, e = .returned v ∧ ∃ β' s H', R s H' ∧ OwnAll H0 H'.os ∧ den β' s v ∧ s.lt H'.nxt ∧ St X β' H' w'

/-! ### The results of a function -/
def resK (P : Program) (H : AH) (fr : Fr) : List ResultVar → (List SV → Prop) → Prop
  | [], k => k []
  | .tmp t :: l, k => opdK fr true (.tmp t) fun s => resK P H fr l fun r => k (s :: r)
  | .cell t ty :: l, k => opdK fr true (.tmp t) fun s => loadK P H [] true ty s fun s' => resK P H fr l fun r => k (s' :: r)

def resF (tmps : Array Value) : ResultVar → Sem Value
  | .tmp t => pure (tmps.getD t undef)
  | .cell q t => do loadVar t (← asAddr (tmps.getD q undef))

theorem resK_ok {X : Cx} {β : Env} {H : AH} {w : World} (hS : St X β H w) {fr : Fr} {a : Act} (hF : FrOk X β H.nxt fr a) : ∀ {l : List ResultVar} {k : List SV → Prop}, resK X.P H fr l k →
    ∃ ss vs, k ss ∧ denL β ss vs ∧ SV.ltL H.nxt ss ∧ (l.mapM (resF a.tmps)).run X.P w = .ok vs w
  | [], k, h => ⟨[], [], h, rfl, trivial, by simp⟩
  | .tmp t :: l, k, h => by
    obtain ⟨s, h1, h2⟩ := opdK_ok hF h
    obtain ⟨ss, vs, h3, h4, h5, h6⟩ := resK_ok hS hF h1
    have he : a.eval (.tmp t) = a.tmps.getD t undef := rfl
    refine ⟨s :: ss, _ :: vs, h3, ⟨_, _, (h2 rfl).1, h4, rfl⟩, ⟨(h2 rfl).2, h5⟩, ?_⟩
    simp only [List.mapM_cons, Sem.run_bind, Sem.run_pure, Result.andThen_ok, h6, he, resF]
  | .cell q t :: l, k, h => by
    obtain ⟨s, h1, h2⟩ := opdK_ok hF h
    obtain ⟨s', h3, h4⟩ := loadK_ok hS h1 (fun _ => (h2 rfl).1)
    obtain ⟨h5, v', h6, h7⟩ := h4 rfl
    obtain ⟨ss, vs, h8, h9, h10, h11⟩ := resK_ok hS hF h3
    have he : a.eval (.tmp q) = a.tmps.getD q undef := rfl
    have hr := h7 w (Kp.refl _ _)
    refine ⟨s' :: ss, v' :: vs, h8, ⟨_, _, h6, h9, rfl⟩, ⟨h5, h10⟩, ?_⟩
    -- the slot holds an address
    have hp : ∃ ad, a.tmps.getD q undef = .pointer (some ad) := by
      have hd := (h2 rfl).1
      rw [he] at hd
      unfold loadK at h1
      split at h1
      · simp only [den] at hd
        obtain ⟨L, _, e⟩ := hd
        exact ⟨_, e⟩
      · exact h1.elim
    obtain ⟨ad, had⟩ := hp
    rw [he, had] at hr
    simp only [Instr.loadAt, Instr.sureAddr, Sem.run_bind, Sem.run_pure, Result.andThen_ok] at hr
    simp only [List.mapM_cons, Sem.run_bind, Sem.run_pure, Result.andThen_ok, resF, had, asAddr, hr, h11]

def resV : List SV → SV
  | [s] => s
  | l => .tup l

theorem results_run {fn : Func} {tmps : Array Value} {P : Program} {w : World} {vs : List Value} (h : (fn.results.toList.mapM (resF tmps)).run P w = .ok vs w) :
    (results fn tmps).run P w = .ok (match vs with | [v] => v | vs => .tuple vs.toArray) w := by
  have he : results fn tmps = (do let vs ← fn.results.mapM (resF tmps); pure (if h : vs.size = 1 then vs[0] else .tuple vs)) := by
    unfold results
    congr 1
  rw [he, Array.mapM_eq_mapM_toList]
  simp only [Sem.run_bind, Sem.run_map, h, Result.andThen_ok, Sem.run_pure]
  cases vs with
  | nil => rfl
  | cons v l =>
    cases l with
    | nil => rfl
    | cons u l => rfl

/-- What is asked where a function ends: the value, other names, and R. -/
def PostF (X : Cx) (H0 : AH) (rs : List ResultVar) (R : SV → AH → Prop) : Exit → Fr → AH → Prop
  | .normal, fr, H | .ret, fr, H => resK X.P H fr rs fun ss => ∃ ρ s H', resV ss = s.ren ρ ∧ s.lt H'.nxt ∧ Gives X ρ [] H [] H' ∧ OwnAll H0 H'.os ∧ R s H'
  | _, _, _ => False

def argFr : Nat → List SV → Fr
  | _, [] => []
  | i, s :: l => (i, s) :: argFr (i + 1) l

theorem argFr_get : ∀ (l : List SV) (i t : Nat) (s : SV), get (argFr i l) t = some s → i ≤ t ∧ l[t - i]? = some s
  | [], _, _, _, h => by simp [argFr, get] at h
  | s0 :: l, i, t, s, h => by
    simp only [argFr, get] at h
    split at h
    · rename_i he
      cases h; subst he
      simp
    · rename_i he
      obtain ⟨h1, h2⟩ := argFr_get l (i + 1) t s h
      refine ⟨by omega, ?_⟩
      rw [show t - i = (t - (i + 1)) + 1 by omega]
      simpa using h2

theorem St.cast {X Y : Cx} {β : Env} {H : AH} {w : World} (h : St X β H w) (h1 : Y.w0 = X.w0) (h2 : Y.own0 = X.own0) (h3 : Y.m0 = X.m0) (h4 : Y.β0 = X.β0) : St Y β H w where
  os := by rw [h1]; exact h.os
  tape := by rw [h1]; exact h.tape
  output := by rw [h1]; exact h.output
  size := by rw [h1]; exact h.size
  fix := by rw [h3, h4]; exact h.fix
  holds := h.holds
  sep := h.sep
  old := by rw [h1]; exact h.old
  mine := by rw [h1, h2, h3]; exact h.mine
  keep := by rw [h2, h3]; exact h.keep
  m0 := by rw [h3]; exact h.m0
  lt := h.lt

/-- What a function does, from a walk of its body. -/
theorem FSpec.of {P : Program} {f : FuncId} {fn : Func} {c : Code} {args : List SV} {H0 : AH} {R : SV → AH → Prop} (wr : Bool) (hf : P.funcs[f]? = some fn) (hb : fn.body = some c) (hn : (fn.name == "runtime.NumGoroutine") = false) (ha : args.length ≤ fn.ntmps)
    (h : ∀ w0 own0 β0, Cw ⟨P, fn.ntmps, w0, own0, H0.nxt, β0, wr⟩ c (PostF ⟨P, fn.ntmps, w0, own0, H0.nxt, β0, wr⟩ H0 fn.results.toList R) (argFr 0 args) H0) : FSpec P f args H0 R := by
  refine ⟨Ent.of hf hn (by rw [hb]; rfl), fun X β w vs hP hm hw hβ ho hS hd hlt => ?_⟩
  subst hP
  let Y : Cx := ⟨X.P, fn.ntmps, X.w0, X.own0, H0.nxt, X.β0, wr⟩
  have hlen := denL_length hd
  refine calls_of_wp hf hb ?_
  have hS' : St Y β H0 w := hS.cast rfl rfl hm.symm rfl
  have hF : FrOk Y β H0.nxt (argFr 0 args) { tmps := vs.toArray ++ Array.replicate (fn.ntmps - vs.toArray.size) undef, defers := [] } := by
    refine ⟨rfl, by simp [Y]; omega, fun t s hs => ?_⟩
    obtain ⟨_, h1⟩ := argFr_get args 0 t s hs
    simp only [Nat.sub_zero] at h1
    obtain ⟨v, hv, hdv⟩ := denL_get hd t s h1
    have htl : t < vs.length := (List.getElem?_eq_some_iff.1 hv).1
    refine ⟨SV.ltL_get hlt t s h1, v, ?_, hdv⟩
    rw [Array.getElem?_append_left (by simpa using htl)]
    simpa using hv
  refine Code.wp_mono (fun e a w' hh => ?_) (h X.w0 X.own0 X.β0 β _ w hF hS')
  have fin : ∀ fr H, (∃ β, PostF Y H0 fn.results.toList R .ret fr H ∧ FrOk Y β H.nxt fr a ∧ St Y β H w') → a.defers = [] ∧ ∃ v, (results fn a.tmps).run X.P w' = .ok v w' ∧ ∃ u, Ending.returned v = .returned u ∧ ∃ β' s H', R s H' ∧ OwnAll H0 H'.os ∧ den β' s u ∧ s.lt H'.nxt ∧ St X β' H' w' := fun fr H ⟨β1, hp, hF1, hS1⟩ => by
    obtain ⟨ss, us, ⟨ρ, s, H', h1, h2, h3, h4, h5⟩, h6, h7, h8⟩ := resK_ok hS1 hF1 hp
    refine ⟨hF1.defers, _, results_run h8, _, rfl, β1.via ρ, s, H', h5, h4, ?_, h2, ((h3.st hS1).cast (Y := X) rfl rfl hm rfl)⟩
    rw [← den_ren, ← h1]
    have hl := denL_length h6
    match ss, us, h6, hl with
    | [s], [v], h6, _ =>
      simp only [denL] at h6
      obtain ⟨v', r, hv, hr, he⟩ := h6
      cases he
      exact hv
    | [], [], h6, _ => simp only [resV, den]; exact ⟨[], h6, rfl⟩
    | s :: s' :: ss, v :: v' :: us, h6, _ => simp only [resV, den]; exact ⟨_, h6, rfl⟩
  cases e with
  | normal =>
    obtain ⟨β1, fr, H, hp, hF1, hS1⟩ := hh
    exact fin fr H ⟨β1, hp, hF1, hS1⟩
  | ret =>
    obtain ⟨β1, fr, H, hp, hF1, hS1⟩ := hh
    exact fin fr H ⟨β1, hp, hF1, hS1⟩
  | exit id => obtain ⟨β1, fr, H, hp, _⟩ := hh; exact hp.elim
  | goto l => obtain ⟨β1, fr, H, hp, _⟩ := hh; exact hp.elim
  | panic ch => exact hh.elim
  | outgrown => exact hh.elim

end Go.Sk
