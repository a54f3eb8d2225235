/-
  A frame for walks, fifth part: slices of slices, conversions, lengths, built values.
  Conditions: none; definitions and lemmas over any program.
-/
import Derived.Test.YtnkodcknbeahcaaSkD
set_option linter.unusedSimpArgs false
set_option linter.unusedVariables false
namespace Go.Sk
open Go.RowKit

/-! ### x[lo:hi], x[lo:hi:max] -/
/-- A bound of a slice expression as a natural number. -/
def bndK (G : Bool) (x : Option SV) (dflt : Nat) (k : Nat → Prop) : Prop :=
  match x with
  | none => k dflt
  | some (.int _ z) => (G = true → 0 ≤ z) ∧ k z.toNat
  | _ => False

def sliceK (P : Program) (H : AH) (G : Bool) (t : TypeId) (s : SV) (lo hi mx : Option SV) (k : SV → Prop) : Prop :=
  match s with
  | .slc _ id kk o n =>
    match (tyOf P t).kd, find H.os id with
    | .slice e, some (c, F) =>
      match F kk with
      | .row r =>
        bndK G hi n fun h => bndK G lo 0 fun l => bndK G mx n fun m =>
          (G = true → l ≤ h ∧ h ≤ m ∧ m ≤ n ∧ (hi.isSome = true ∨ mx.isSome = false) ∧ kk < c ∧ szOf P e = r.sz ∧ szOf P e ≠ 0 ∧ (tyOf P t).ok = true) ∧ k (.slc false id kk (o + l) (h - l))
      | _ => False
    | _, _ => False
  | .str s =>
    bndK G hi s.size fun h => bndK G lo 0 fun l =>
      (G = true → l ≤ h ∧ h ≤ s.size ∧ mx = none ∧ (tyOf P t).kd = .string ∧ (tyOf P t).ok = true) ∧ k (.str (s.extract l h))
  | _ => False

/-- What a bound denotes. -/
def denO (β : Env) : Option SV → Option Value → Prop
  | none, none => True
  | some s, some v => den β s v
  | _, _ => False

theorem bndK_ok {β : Env} {G : Bool} {x : Option SV} {v : Option Value} {d : Nat} {k : Nat → Prop} (h : bndK G x d k) (hv : G = true → denO β x v) :
    ∃ n, k n ∧ (G = true → (x = none ∧ v = none ∧ n = d) ∨ ∃ kd z, x.isSome = true ∧ v = some (.int kd z) ∧ 0 ≤ z ∧ n = z.toNat) := by
  unfold bndK at h
  split at h
  · refine ⟨d, h, fun hG => .inl ⟨rfl, ?_, rfl⟩⟩
    have := hv hG
    cases v with
    | none => rfl
    | some v => simp [denO] at this
  · rename_i kd z
    refine ⟨_, h.2, fun hG => .inr ⟨kd, z, rfl, ?_, h.1 hG, rfl⟩⟩
    have := hv hG
    cases v with
    | none => simp [denO] at this
    | some v => simp only [denO, den] at this; rw [this]
  · exact h.elim

theorem run_sliceBound (P : Program) (w : World) (kd : IntKind) (z : Int) (y : Nat) (code : BoundsCode) (h0 : 0 ≤ z) (h1 : z ≤ y) : (Instr.sliceBound (.int kd z) y code).run P w = .ok z.toNat w := by
  simp [Instr.sliceBound, asIntOf, h0, h1]

theorem run_sliceBounds {P : Program} {w : World} {isS : Bool} {len cap l h m : Nat} {lo hi mx : Option Value}
    (hm : (mx = none ∧ m = cap) ∨ ∃ kd z, mx = some (.int kd z) ∧ 0 ≤ z ∧ m = z.toNat) (hmc : m ≤ cap)
    (hh : (hi = none ∧ h = len ∧ mx = none) ∨ ∃ kd z, hi = some (.int kd z) ∧ 0 ≤ z ∧ h = z.toNat) (hhm : h ≤ m)
    (hl : (lo = none ∧ l = 0) ∨ ∃ kd z, lo = some (.int kd z) ∧ 0 ≤ z ∧ l = z.toNat) (hlh : l ≤ h) :
    (Instr.sliceBounds isS len cap lo hi mx).run P w = .ok (l, h, m) w := by
  unfold Instr.sliceBounds
  rcases hm with ⟨rfl, rfl⟩ | ⟨kd, z, rfl, z0, rfl⟩
  · rcases hh with ⟨rfl, rfl, _⟩ | ⟨kd, z, rfl, z0, rfl⟩
    · rcases hl with ⟨rfl, rfl⟩ | ⟨kd, z, rfl, z0, rfl⟩
      · simp
      · simp [run_sliceBound P w kd z _ _ z0 (show z ≤ (h : Int) by omega)]
    · rcases hl with ⟨rfl, rfl⟩ | ⟨kd', z', rfl, z0', rfl⟩
      · simp [run_sliceBound P w kd z _ _ z0 (show z ≤ (m : Int) by omega)]
      · simp [run_sliceBound P w kd z _ _ z0 (show z ≤ (m : Int) by omega), run_sliceBound P w kd' z' _ _ z0' (show z' ≤ ((z.toNat : Nat) : Int) by omega)]
  · rcases hh with ⟨_, _, h⟩ | ⟨kd', z', rfl, z0', rfl⟩
    · cases h
    · rcases hl with ⟨rfl, rfl⟩ | ⟨kd'', z'', rfl, z0'', rfl⟩
      · simp [run_sliceBound P w kd z _ _ z0 (show z ≤ (cap : Int) by omega), run_sliceBound P w kd' z' _ _ z0' (show z' ≤ ((z.toNat : Nat) : Int) by omega)]
      · simp [run_sliceBound P w kd z _ _ z0 (show z ≤ (cap : Int) by omega), run_sliceBound P w kd' z' _ _ z0' (show z' ≤ ((z.toNat : Nat) : Int) by omega), run_sliceBound P w kd'' z'' _ _ z0'' (show z'' ≤ ((z'.toNat : Nat) : Int) by omega)]

theorem sliceK_ok {X : Cx} {β : Env} {H : AH} {w : World} (hS : St X β H w) {G : Bool} {t : TypeId} {s : SV} {v : Value} {lo hi mx : Option SV} {vlo vhi vmx : Option Value} {k : SV → Prop}
    (h : sliceK X.P H G t s lo hi mx k) (hv : G = true → den β s v ∧ s.lt H.nxt) (hlo : G = true → denO β lo vlo) (hhi : G = true → denO β hi vhi) (hmx : G = true → denO β mx vmx) :
    ∃ s', k s' ∧ (G = true → s'.lt H.nxt ∧ ∃ v', den β s' v' ∧ Yld X.P (Instr.sliceAt t v vlo vhi vmx) v') := by
  unfold sliceK at h
  split at h
  · rename_i g id kk o n
    split at h
    · rename_i e c F hkd hf
      split at h
      · rename_i r hr
        obtain ⟨hN, h, hh⟩ := bndK_ok h hhi
        obtain ⟨lN, h, hl⟩ := bndK_ok h hlo
        obtain ⟨mN, h, hm⟩ := bndK_ok h hmx
        refine ⟨_, h.2, fun hG => ?_⟩
        obtain ⟨c1, c2, c3, c4, hk, hsz, hsz0, hok⟩ := h.1 hG
        obtain ⟨hd, hlt⟩ := hv hG
        simp only [den] at hd
        obtain ⟨inf, d, e1, e2, e3⟩ := tyOf_ok hok
        rw [e3] at hkd
        have hd' := kdOf_slice hkd
        subst hd'
        obtain ⟨ei, hei, hei2⟩ := szOf_pos hsz0
        obtain ⟨a, cp, rfl, hnc⟩ := slcDen_len hd
        -- the capacity that stands in the place of the third bound
        have hmv : (vmx = none ∧ mx = none) ∨ ∃ kd z, vmx = some (.int kd z) ∧ 0 ≤ z ∧ mN = z.toNat := by
          rcases hm hG with ⟨q1, q2, _⟩ | ⟨kd, z, _, q2, q3, q4⟩
          · exact .inl ⟨q2, q1⟩
          · exact .inr ⟨kd, z, q2, q3, q4⟩
        let m' := if vmx = none then cp else mN
        have hm' : (vmx = none ∧ m' = cp) ∨ ∃ kd z, vmx = some (.int kd z) ∧ 0 ≤ z ∧ m' = z.toNat := by
          rcases hmv with ⟨q, _⟩ | ⟨kd, z, q, q1, q2⟩
          · exact .inl ⟨q, by simp [m', q]⟩
          · exact .inr ⟨kd, z, q, q1, by simp [m', q, q2]⟩
        have hm'c : m' ≤ cp := by
          simp only [m']; split
          · exact Nat.le_refl _
          · omega
        have hhm' : hN ≤ m' := by
          simp only [m']; split
          · omega
          · omega
        have hh' : (vhi = none ∧ hN = n ∧ vmx = none) ∨ ∃ kd z, vhi = some (.int kd z) ∧ 0 ≤ z ∧ hN = z.toNat := by
          rcases hh hG with ⟨q1, q2, q3⟩ | ⟨kd, z, _, q2, q3, q4⟩
          · refine .inl ⟨q2, q3, ?_⟩
            rcases c4 with c4 | c4
            · rw [q1] at c4; cases c4
            · rcases hm hG with ⟨_, q, _⟩ | ⟨_, _, q, _⟩
              · exact q
              · rw [q] at c4; cases c4
          · exact .inr ⟨kd, z, q2, q3, q4⟩
        have hl' : (vlo = none ∧ lN = 0) ∨ ∃ kd z, vlo = some (.int kd z) ∧ 0 ≤ z ∧ lN = z.toNat := by
          rcases hl hG with ⟨_, q2, q3⟩ | ⟨kd, z, _, q2, q3, q4⟩
          · exact .inl ⟨q2, q3⟩
          · exact .inr ⟨kd, z, q2, q3, q4⟩
        have hlook := look_of_find hf hk
        rw [hr] at hlook
        refine ⟨hlt, .slice (if m' = lN then a else a.map (·.add (lN * ei.size))) (hN - lN) (m' - lN), ?_, fun w => ?_⟩
        · simp only [den, slcDen, Bool.false_eq_true, if_false]
          refine ⟨_, _, rfl, by omega, fun hpos => ?_⟩
          obtain ⟨L, c', hb, he⟩ := slcDen_addr hd (by omega)
          have hLsz : L.sz = r.sz := by
            rcases hS.holds _ _ _ hlook with ⟨_, hq⟩ | ⟨L', hq, h1, _⟩
            · rw [hb] at hq; cases hq
            · rw [hb] at hq; cases hq; exact h1
          simp only [Value.slice.injEq] at he
          obtain ⟨rfl, _, _⟩ := he
          refine ⟨L, hb, ?_⟩
          rw [if_neg (by omega)]
          have hes : ei.size = L.sz := by omega
          simp [addr_add, hes, Nat.add_mul, Nat.add_assoc]
        · have hsb := run_sliceBounds (P := X.P) (w := w) (isS := true) hm' hm'c hh' hhm' hl' c1
          simp [Instr.sliceAt, Instr.slice, run_underlying e2, hsb, sizeOf_run hei]
      · exact h.elim
    · exact h.elim
  · rename_i s
    obtain ⟨hN, h, hh⟩ := bndK_ok h hhi
    obtain ⟨lN, h, hl⟩ := bndK_ok h hlo
    refine ⟨_, h.2, fun hG => ?_⟩
    obtain ⟨c1, c2, c3, hkd, hok⟩ := h.1 hG
    obtain ⟨hd, _⟩ := hv hG
    simp only [den] at hd
    subst hd c3
    have hvm : vmx = none := by
      have := hmx hG
      cases vmx with
      | none => rfl
      | some _ => simp [denO] at this
    subst hvm
    obtain ⟨inf, d, e1, e2, e3⟩ := tyOf_ok hok
    rw [e3] at hkd
    have hd' := kdOf_string hkd
    subst hd'
    have hh' : (vhi = none ∧ hN = s.size ∧ (none : Option Value) = none) ∨ ∃ kd z, vhi = some (.int kd z) ∧ 0 ≤ z ∧ hN = z.toNat := by
      rcases hh hG with ⟨_, q2, q3⟩ | ⟨kd, z, _, q2, q3, q4⟩
      · exact .inl ⟨q2, q3, rfl⟩
      · exact .inr ⟨kd, z, q2, q3, q4⟩
    have hl' : (vlo = none ∧ lN = 0) ∨ ∃ kd z, vlo = some (.int kd z) ∧ 0 ≤ z ∧ lN = z.toNat := by
      rcases hl hG with ⟨_, q2, q3⟩ | ⟨kd, z, _, q2, q3, q4⟩
      · exact .inl ⟨q2, q3⟩
      · exact .inr ⟨kd, z, q2, q3, q4⟩
    refine ⟨trivial, _, rfl, fun w => ?_⟩
    have hsb := run_sliceBounds (P := X.P) (w := w) (isS := false) (len := s.size) (cap := s.size) (m := s.size) (.inl ⟨rfl, rfl⟩) (Nat.le_refl _) hh' c2 hl' c1
    simp [Instr.sliceAt, Instr.slice, run_underlying e2, hsb]
  · exact h.elim

/-! ### Conversions, unary operators, len, min, max -/
def convK (P : Program) (wr G : Bool) (src dst : TypeId) (s : SV) (k : SV → Prop) : Prop :=
  match s with
  | .int _ n =>
    match (tyOf P dst).kd with
    | .int .i64 => (G = true → (tyOf P src).ok = true ∧ (tyOf P dst).ok = true) ∧ (if wr then k (.int .i64 (IntKind.i64.wrap n)) else (G = true → In64 n) ∧ k (.int .i64 n))
    | .int kd => (G = true → (tyOf P src).ok = true ∧ (tyOf P dst).ok = true) ∧ k (.int kd (kd.wrap n))
    | _ => False
  | .str x => (G = true → (tyOf P dst).kd = .string ∧ (tyOf P src).ok = true ∧ (tyOf P dst).ok = true) ∧ k (.str x)
  | _ => False

theorem convK_ok {P : Program} {β : Env} {m : Nat} {wr G : Bool} {src dst : TypeId} {s : SV} {v : Value} {k : SV → Prop} (h : convK P wr G src dst s k) (hv : G = true → den β s v) :
    ∃ s', k s' ∧ (G = true → s'.lt m ∧ ∃ v', den β s' v' ∧ Yld P (convert src dst v) v') := by
  have int (kd kd' : IntKind) (n : Int) (hkd : (tyOf P dst).kd = .int kd) (h1 : (tyOf P src).ok = true) (h2 : (tyOf P dst).ok = true) : Yld P (convert src dst (.int kd' n)) (.int kd (kd.wrap n)) := fun w => by
    obtain ⟨_, d1, _, e1, _⟩ := tyOf_ok h1
    obtain ⟨_, d2, _, e2, e3⟩ := tyOf_ok h2
    rw [e3] at hkd
    have := kdOf_int hkd
    subst this
    simp [convert, run_underlying e1, run_underlying e2, Conv.intToInt]
  unfold convK at h
  split at h
  · rename_i kd' n
    split at h
    · rename_i hkd
      obtain ⟨hc, h⟩ := h
      split at h
      · refine ⟨_, h, fun hG => ⟨trivial, _, rfl, ?_⟩⟩
        have := hv hG; simp only [den] at this; subst this
        exact int .i64 kd' n hkd (hc hG).1 (hc hG).2
      · refine ⟨_, h.2, fun hG => ⟨trivial, _, rfl, ?_⟩⟩
        have := hv hG; simp only [den] at this; subst this
        have h2 := int .i64 kd' n hkd (hc hG).1 (hc hG).2
        rwa [(h.1 hG).wrap] at h2
    · rename_i kd _ hkd
      refine ⟨_, h.2, fun hG => ⟨trivial, _, rfl, ?_⟩⟩
      have := hv hG; simp only [den] at this; subst this
      exact int kd kd' n hkd (h.1 hG).1 (h.1 hG).2
    · exact h.elim
  · rename_i x
    refine ⟨_, h.2, fun hG => ⟨trivial, _, rfl, fun w => ?_⟩⟩
    obtain ⟨hkd, h1, h2⟩ := h.1 hG
    have := hv hG; simp only [den] at this; subst this
    obtain ⟨_, d1, _, e1, _⟩ := tyOf_ok h1
    obtain ⟨_, d2, _, e2, e3⟩ := tyOf_ok h2
    rw [e3] at hkd
    have := kdOf_string hkd
    subst this
    simp [convert, run_underlying e1, run_underlying e2]
  · exact h.elim

def unK (wr G : Bool) (op : UnOp) (s : SV) (k : SV → Prop) : Prop :=
  match op, s with
  | .not, .bool b => k (.bool (!b))
  | .neg, .int kd n => arithK wr G kd (0 - n) k
  | _, _ => False

theorem unK_ok {P : Program} {β : Env} {m : Nat} {wr G : Bool} {op : UnOp} {s : SV} {v : Value} {k : SV → Prop} (h : unK wr G op s k) (hv : G = true → den β s v) :
    ∃ s', k s' ∧ (G = true → s'.lt m ∧ ∃ v', den β s' v' ∧ Yld P (Op.unary op v) v') := by
  unfold unK at h
  split at h
  · refine ⟨_, h, fun hG => ⟨trivial, _, rfl, fun w => ?_⟩⟩
    have := hv hG; simp only [den] at this; subst this
    simp [Op.unary]
  · rename_i kd n
    obtain ⟨s', hk, hs⟩ := arithK_ok h
    refine ⟨s', hk, fun hG => ?_⟩
    have := hv hG; simp only [den] at this; subst this
    rw [hs hG]
    exact ⟨trivial, _, rfl, fun w => by simp [Op.unary, Op.intArith]⟩
  · exact h.elim

def lenK (P : Program) (G : Bool) (t : TypeId) (s : SV) (k : SV → Prop) : Prop :=
  match s with
  | .slc _ _ _ _ n => (G = true → (∃ e, (tyOf P t).kd = .slice e) ∧ (tyOf P t).ok = true) ∧ k (.int .i64 n)
  | .nils => (G = true → (∃ e, (tyOf P t).kd = .slice e) ∧ (tyOf P t).ok = true) ∧ k (.int .i64 0)
  | .str x => (G = true → (tyOf P t).kd = .string ∧ (tyOf P t).ok = true) ∧ k (.int .i64 x.size)
  | _ => False

theorem lenK_ok {P : Program} {β : Env} {m : Nat} {G : Bool} {t ty : TypeId} {s : SV} {v : Value} {k : SV → Prop} (h : lenK P G t s k) (hv : G = true → den β s v) :
    ∃ s', k s' ∧ (G = true → s'.lt m ∧ ∃ v', den β s' v' ∧ Yld P (Builtin.len_ #[t] ty #[v]) v') := by
  unfold lenK at h
  split at h
  · refine ⟨_, h.2, fun hG => ⟨trivial, _, rfl, fun w => ?_⟩⟩
    obtain ⟨⟨e, hkd⟩, hok⟩ := h.1 hG
    obtain ⟨_, d, _, e2, e3⟩ := tyOf_ok hok
    rw [e3] at hkd
    have := kdOf_slice hkd
    subst this
    have hd := hv hG
    simp only [den] at hd
    obtain ⟨a, c, rfl, _⟩ := slcDen_len hd
    simp [Builtin.len_, run_underlying e2, goInt]
  · refine ⟨_, h.2, fun hG => ⟨trivial, _, rfl, fun w => ?_⟩⟩
    obtain ⟨⟨e, hkd⟩, hok⟩ := h.1 hG
    obtain ⟨_, d, _, e2, e3⟩ := tyOf_ok hok
    rw [e3] at hkd
    have := kdOf_slice hkd
    subst this
    have hd := hv hG
    simp only [den] at hd
    subst hd
    simp [Builtin.len_, run_underlying e2, goInt]
  · refine ⟨_, h.2, fun hG => ⟨trivial, _, rfl, fun w => ?_⟩⟩
    obtain ⟨hkd, hok⟩ := h.1 hG
    obtain ⟨_, d, _, e2, e3⟩ := tyOf_ok hok
    rw [e3] at hkd
    have := kdOf_string hkd
    subst this
    have hd := hv hG
    simp only [den] at hd
    subst hd
    simp [Builtin.len_, run_underlying e2, goInt]
  · exact h.elim

/-- max, min of integers, folded from the left. -/
def foldInt (f : Int → Int → Int) : Int → List SV → Option Int
  | x, [] => some x
  | x, .int _ y :: l => foldInt f (f x y) l
  | _, _ => none

def mmK (f : Int → Int → Int) (l : List SV) (k : SV → Prop) : Prop :=
  match l with
  | .int kd x :: l => match foldInt f x l with
    | some z => k (.int kd z)
    | none => False
  | _ => False

theorem max_fold {P : Program} {β : Env} (kd : IntKind) : ∀ (l : List SV) (vs : List Value) (x z : Int) (w : World), denL β l vs → foldInt max x l = some z → (vs.foldlM Builtin.max2 (.int kd x)).run P w = .ok (.int kd z) w
  | [], vs, x, z, w, h, hz => by simp only [denL] at h; subst h; simp [foldInt] at hz; subst hz; simp
  | s :: l, vs, x, z, w, h, hz => by
    simp only [denL] at h
    obtain ⟨v, r, hv, hr, rfl⟩ := h
    cases s <;> simp only [foldInt] at hz <;> first | cases hz | skip
    rename_i kd' y
    simp only [den] at hv
    subst hv
    have hmx : (if y > x then y else x) = max x y := by omega
    simp only [List.foldlM_cons, Sem.run_bind, Builtin.max2, Sem.run_pure, Result.andThen_ok, hmx]
    exact max_fold kd l r _ z w hr hz

theorem min_fold {P : Program} {β : Env} (kd : IntKind) : ∀ (l : List SV) (vs : List Value) (x z : Int) (w : World), denL β l vs → foldInt min x l = some z → (vs.foldlM Builtin.min2 (.int kd x)).run P w = .ok (.int kd z) w
  | [], vs, x, z, w, h, hz => by simp only [denL] at h; subst h; simp [foldInt] at hz; subst hz; simp
  | s :: l, vs, x, z, w, h, hz => by
    simp only [denL] at h
    obtain ⟨v, r, hv, hr, rfl⟩ := h
    cases s <;> simp only [foldInt] at hz <;> first | cases hz | skip
    rename_i kd' y
    simp only [den] at hv
    subst hv
    have hmx : (if y < x then y else x) = min x y := by omega
    simp only [List.foldlM_cons, Sem.run_bind, Builtin.min2, Sem.run_pure, Result.andThen_ok, hmx]
    exact min_fold kd l r _ z w hr hz

theorem mmK_max {P : Program} {β : Env} {m : Nat} {l : List SV} {vs : List Value} {ats : Array TypeId} {ty : TypeId} {k : SV → Prop} {G : Bool} (h : mmK max l k) (hv : G = true → denL β l vs) :
    ∃ s', k s' ∧ (G = true → s'.lt m ∧ ∃ v', den β s' v' ∧ Yld P (Builtin.max_ ats ty vs.toArray) v') := by
  unfold mmK at h
  split at h
  · rename_i kd x l
    split at h
    · rename_i z hz
      refine ⟨_, h, fun hG => ⟨trivial, _, rfl, fun w => ?_⟩⟩
      have hd := hv hG
      simp only [denL] at hd
      obtain ⟨v, r, hv1, hr, rfl⟩ := hd
      have hv' : v = .int kd x := hv1
      subst hv'
      exact max_fold kd l r x z w hr hz
    · exact h.elim
  · exact h.elim

theorem mmK_min {P : Program} {β : Env} {m : Nat} {l : List SV} {vs : List Value} {ats : Array TypeId} {ty : TypeId} {k : SV → Prop} {G : Bool} (h : mmK min l k) (hv : G = true → denL β l vs) :
    ∃ s', k s' ∧ (G = true → s'.lt m ∧ ∃ v', den β s' v' ∧ Yld P (Builtin.min_ ats ty vs.toArray) v') := by
  unfold mmK at h
  split at h
  · rename_i kd x l
    split at h
    · rename_i z hz
      refine ⟨_, h, fun hG => ⟨trivial, _, rfl, fun w => ?_⟩⟩
      have hd := hv hG
      simp only [denL] at hd
      obtain ⟨v, r, hv1, hr, rfl⟩ := hd
      have hv' : v = .int kd x := hv1
      subst hv'
      exact min_fold kd l r x z w hr hz
    · exact h.elim
  · exact h.elim

end Go.Sk
