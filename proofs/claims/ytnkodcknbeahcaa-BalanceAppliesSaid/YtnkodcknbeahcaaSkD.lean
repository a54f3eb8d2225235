/-
  A frame for walks, fourth part: addresses, fields, indexes, slices, conversions, built values; one function over all quiet operations.
  Conditions: none; definitions and lemmas over any program.
-/
import Derived.Test.YtnkodcknbeahcaaSkC
set_option linter.unusedSimpArgs false
set_option linter.unusedVariables false
namespace Go.Sk
open Go.RowKit

def faddrK (P : Program) (G : Bool) (t : TypeId) (f : Nat) (s : SV) (k : SV → Prop) : Prop :=
  match s with
  | .ptr id kk i j =>
    match (tyOf P t).offs[f]? with
    | some (off, _, sz) => (G = true → sz ≠ 0 ∧ (tyOf P t).ok = true) ∧ k (.ptr id kk i (j + off))
    | none => False
  | _ => False

theorem offs_get {P : Program} {t : TypeId} (hok : (tyOf P t).ok = true) {f off sz : Nat} {ag : Option Bool} (h : (tyOf P t).offs[f]? = some (off, ag, sz)) :
    ∃ fs fld, P.underlying t = some (.struct fs) ∧ fs[f]? = some fld ∧ fld.offset = off ∧ isAggT P fld.type = ag ∧ szOf P fld.type = sz := by
  obtain ⟨i, d, hi, hd, e⟩ := tyOf_ok hok
  rw [e] at h
  cases d <;> simp [offsOf] at h
  rename_i fs
  obtain ⟨fld, h1, h2, h3, h4⟩ := h
  exact ⟨fs, fld, hd, h1, h2, h3, h4⟩

theorem faddrK_ok {P : Program} {β : Env} {m : Nat} {G : Bool} {t : TypeId} {f : Nat} {s : SV} {v : Value} {k : SV → Prop} (h : faddrK P G t f s k) (hv : G = true → den β s v ∧ s.lt m) :
    ∃ s', k s' ∧ (G = true → s'.lt m ∧ ∃ v', den β s' v' ∧ Yld P (Instr.fieldAt t v f) v') := by
  unfold faddrK at h
  split at h
  · rename_i id kk i j
    split at h
    · rename_i off ag sz ho
      refine ⟨_, h.2, fun hG => ?_⟩
      obtain ⟨hsz, hok⟩ := h.1 hG
      obtain ⟨fs, fld, h1, h2, h3, h4, h5⟩ := offs_get hok ho
      obtain ⟨hd, hl⟩ := hv hG
      simp only [den] at hd
      obtain ⟨L, hb, rfl⟩ := hd
      refine ⟨hl, .pointer (some ⟨L.blk, L.off + i * L.sz + (j + off), none⟩), by simp only [den]; exact ⟨L, hb, rfl⟩, fun w => ?_⟩
      obtain ⟨inf, hi, hi2⟩ := szOf_pos (P := P) (t := fld.type) (by omega)
      have : inf.size ≠ 0 := by omega
      simp [Instr.fieldAt, run_underlying h1, h2, Instr.sureAddr, fieldPlace, sizeOf_run hi, this, addr_add, h3, Nat.add_assoc]
    · exact h.elim
  · exact h.elim

def partK (G : Bool) (l : List SV) (x : Option (Nat × Option Bool × Nat)) (k : SV → Prop) : Prop :=
  match x with
  | some (off, some true, sz) => (G = true → sz ≠ 0 ∧ off + sz ≤ l.length) ∧ k (.agg ((l.drop off).take sz))
  | some (off, some false, _) => match l[off]? with | some s => k s | none => False
  | _ => False

theorem denL_drop {β : Env} : ∀ {l : List SV} {vs : List Value} (n : Nat), denL β l vs → denL β (l.drop n) (vs.drop n)
  | _, _, 0, h => by simpa using h
  | [], vs, n + 1, h => by simp only [denL] at h; subst h; simp [denL]
  | s :: l, vs, n + 1, h => by
    simp only [denL] at h
    obtain ⟨v, r, _, hr, rfl⟩ := h
    simpa using denL_drop n hr
theorem denL_take {β : Env} : ∀ {l : List SV} {vs : List Value} (n : Nat), denL β l vs → denL β (l.take n) (vs.take n)
  | _, _, 0, h => by simp [denL]
  | [], vs, n + 1, h => by simp only [denL] at h; subst h; simp [denL]
  | s :: l, vs, n + 1, h => by
    simp only [denL] at h
    obtain ⟨v, r, hv, hr, rfl⟩ := h
    exact ⟨v, r.take n, hv, denL_take n hr, by simp⟩
theorem ltL_drop {m : Nat} {l : List SV} (n : Nat) (h : SV.ltL m l) : SV.ltL m (l.drop n) :=
  SV.ltL_of_get fun j s hs => SV.ltL_get h (n + j) s (by simpa [List.getElem?_drop] using hs)
theorem ltL_take {m : Nat} {l : List SV} (n : Nat) (h : SV.ltL m l) : SV.ltL m (l.take n) :=
  SV.ltL_of_get fun j s hs => by
    rw [List.getElem?_take] at hs
    split at hs
    · exact SV.ltL_get h j s hs
    · cases hs

theorem partK_ok {P : Program} {β : Env} {m : Nat} {G : Bool} {ft : TypeId} {off : Nat} {l : List SV} {vs : List Value} {k : SV → Prop} (h : partK G l (some (off, isAggT P ft, szOf P ft)) k)
    (hv : G = true → denL β l vs ∧ SV.ltL m l) : ∃ s', k s' ∧ (G = true → s'.lt m ∧ ∃ v', den β s' v' ∧ Yld P (part ft vs.toArray off) v') := by
  unfold partK at h
  split at h
  · rename_i off' sz' he
    simp only [Option.some.injEq, Prod.mk.injEq] at he
    obtain ⟨rfl, hag, rfl⟩ := he
    refine ⟨_, h.2, fun hG => ?_⟩
    obtain ⟨hd, hl⟩ := hv hG
    obtain ⟨inf, hi, hi2⟩ := szOf_pos (h.1 hG).1
    refine ⟨by simp only [SV.lt]; exact ltL_take _ (ltL_drop _ hl), .agg ((vs.drop off).take (szOf P ft)).toArray, by simp only [den]; exact ⟨_, denL_take _ (denL_drop _ hd), rfl⟩, fun w => ?_⟩
    unfold isAggT at hag
    cases hu : P.underlying ft with
    | none => simp [hu] at hag
    | some d =>
      have hda : (kdOf d).agg = true := by simpa [hu] using hag
      simp [part, isAgg_run hu, hda, sizeOf_run hi, ← hi2, List.extract_eq_take_drop]
  · rename_i off' sz' he
    simp only [Option.some.injEq, Prod.mk.injEq] at he
    obtain ⟨rfl, hag, rfl⟩ := he
    split at h
    · rename_i s hs
      refine ⟨s, h, fun hG => ?_⟩
      obtain ⟨hd, hl⟩ := hv hG
      obtain ⟨v, hv1, hv2⟩ := denL_get hd _ s hs
      refine ⟨SV.ltL_get hl _ s hs, v, hv2, fun w => ?_⟩
      unfold isAggT at hag
      cases hu : P.underlying ft with
      | none => simp [hu] at hag
      | some d =>
        have hda : (kdOf d).agg = false := by simpa [hu] using hag
        simp [part, isAgg_run hu, hda, hv1]
    · exact h.elim
  · exact h.elim

def fieldK (P : Program) (G : Bool) (t : TypeId) (f : Nat) (s : SV) (k : SV → Prop) : Prop :=
  match s with
  | .agg l => (G = true → (tyOf P t).ok = true) ∧ partK G l ((tyOf P t).offs[f]?) k
  | _ => False

theorem fieldK_ok {P : Program} {β : Env} {m : Nat} {G : Bool} {t : TypeId} {f : Nat} {s : SV} {v : Value} {k : SV → Prop} (h : fieldK P G t f s k) (hv : G = true → den β s v ∧ s.lt m) :
    ∃ s', k s' ∧ (G = true → s'.lt m ∧ ∃ v', den β s' v' ∧ Yld P (Instr.field t v f) v') := by
  unfold fieldK at h
  split at h
  · rename_i l
    cases G with
    | false =>
      obtain ⟨_, h⟩ := h
      unfold partK at h
      split at h
      · exact ⟨_, h.2, fun hG => by cases hG⟩
      · split at h
        · exact ⟨_, h, fun hG => by cases hG⟩
        · exact h.elim
      · exact h.elim
    | true =>
      obtain ⟨hok, h⟩ := h
      obtain ⟨hd, hl⟩ := hv rfl
      simp only [den, SV.lt] at hd hl
      obtain ⟨vs, hvs, rfl⟩ := hd
      cases ho : (tyOf P t).offs[f]? with
      | none => rw [ho] at h; exact h.elim
      | some x =>
        obtain ⟨off, ag, sz⟩ := x
        obtain ⟨fs, fld, h1, h2, h3, h4, h5⟩ := offs_get (hok rfl) ho
        rw [ho, ← h4, ← h5] at h
        obtain ⟨s', hk, hs'⟩ := partK_ok (β := β) (m := m) (vs := vs) h (fun _ => ⟨hvs, hl⟩)
        refine ⟨s', hk, fun hG => ?_⟩
        obtain ⟨a, v', b, c⟩ := hs' hG
        refine ⟨a, v', b, fun w => ?_⟩
        simp [Instr.field, run_underlying h1, h2, asAgg, h3, c w]
  · exact h.elim

/-! ### Indexes -/
def strsOf : List SV → Option (List ByteArray)
  | [] => some []
  | .str s :: l => (strsOf l).map (s :: ·)
  | _ => none
def intsOf (kd : IntKind) : List SV → Option (List Int)
  | [] => some []
  | .int k n :: l => if k = kd then (intsOf kd l).map (n :: ·) else none
  | _ => none

theorem strsOf_get : ∀ {l : List SV} {ss : List ByteArray}, strsOf l = some ss → ∀ i, i < l.length → l[i]? = some (.str (ss.getD i default))
  | [], _, _, i, hi => by simp at hi
  | .str s :: l, ss, h, i, hi => by
    simp only [strsOf, Option.map_eq_some_iff] at h
    obtain ⟨r, hr, rfl⟩ := h
    cases i with
    | zero => simp
    | succ i => simpa using strsOf_get hr i (by simpa using hi)

theorem intsOf_get {kd : IntKind} : ∀ {l : List SV} {ss : List Int}, intsOf kd l = some ss → ∀ i, i < l.length → l[i]? = some (.int kd (ss.getD i default))
  | [], _, _, i, hi => by simp at hi
  | .int k n :: l, ss, h, i, hi => by
    simp only [intsOf] at h
    split at h
    · rename_i hk
      subst hk
      simp only [Option.map_eq_some_iff] at h
      obtain ⟨r, hr, rfl⟩ := h
      cases i with
      | zero => simp
      | succ i => simpa using intsOf_get hr i (by simpa using hi)
    · cases h

def byteAt (s : ByteArray) (i : Nat) : Int := ((s[i]?).getD 0).toNat

def iaddrK (P : Program) (H : AH) (G : Bool) (t : TypeId) (s ix : SV) (k : SV → Prop) : Prop :=
  match s, ix with
  | .slc _ id kk o n, .int _ z =>
    match (tyOf P t).kd, find H.os id with
    | .slice e, some (c, F) =>
      match F kk with
      | .row r => (G = true → (0 ≤ z ∧ z < n) ∧ kk < c ∧ szOf P e = r.sz ∧ szOf P e ≠ 0 ∧ (tyOf P t).ok = true) ∧ k (.ptr id kk (o + z.toNat) 0)
      | _ => False
    | _, _ => False
  | .ptr id kk i j, .int _ z =>
    match (tyOf P t).kd with
    | .array n e => (G = true → (0 ≤ z ∧ z < n) ∧ szOf P e ≠ 0 ∧ (tyOf P t).ok = true) ∧ k (.ptr id kk i (j + z.toNat * szOf P e))
    | _ => False
  | _, _ => False

/-- A slice that is not empty: its address. -/
theorem slcDen_addr {β : Env} {g : Bool} {id k o n : Nat} {v : Value} (h : slcDen β g id k o n v) (hn : 0 < n) : ∃ L c, β id k = some L ∧ v = .slice (some ⟨L.blk, L.off + o * L.sz, none⟩) n c := by
  unfold slcDen at h
  cases g with
  | false =>
    simp only [Bool.false_eq_true, if_false] at h
    obtain ⟨a, c, rfl, hc, ha⟩ := h
    obtain ⟨L, hb, rfl⟩ := ha hn
    exact ⟨L, c, hb, rfl⟩
  | true =>
    simp only [if_true] at h
    rcases h with ⟨_, h0, _⟩ | ⟨L, hb, ho, hoff, _, rfl⟩
    · omega
    · exact ⟨L, L.cap, hb, by simp [ho, hoff]⟩

theorem slcDen_len {β : Env} {g : Bool} {id k o n : Nat} {v : Value} (h : slcDen β g id k o n v) : ∃ a c, v = .slice a n c ∧ n ≤ c := by
  unfold slcDen at h
  cases g with
  | false =>
    simp only [Bool.false_eq_true, if_false] at h
    obtain ⟨a, c, rfl, hc, _⟩ := h
    exact ⟨a, c, rfl, hc⟩
  | true =>
    simp only [if_true] at h
    rcases h with ⟨_, rfl, _, rfl⟩ | ⟨L, hb, ho, hoff, hc, rfl⟩
    · exact ⟨_, _, rfl, Nat.le_refl _⟩
    · exact ⟨_, _, rfl, hc⟩

theorem iaddrK_ok {X : Cx} {β : Env} {H : AH} {w : World} (hS : St X β H w) {G : Bool} {t : TypeId} {s ix : SV} {v vi : Value} {k : SV → Prop} (h : iaddrK X.P H G t s ix k) (hv : G = true → den β s v ∧ s.lt H.nxt) (hi : G = true → den β ix vi) :
    ∃ s', k s' ∧ (G = true → s'.lt H.nxt ∧ ∃ v', den β s' v' ∧ Yld X.P (Instr.indexAt t v vi) v') := by
  unfold iaddrK at h
  split at h
  · rename_i g id kk o n kd z
    split at h
    · rename_i e c F hkd hf
      split at h
      · rename_i r hr
        refine ⟨_, h.2, fun hG => ?_⟩
        obtain ⟨⟨z0, z1⟩, hk, hsz, hsz0, hok⟩ := h.1 hG
        obtain ⟨hd, hl⟩ := hv hG
        have hdi := hi hG
        simp only [den] at hd hdi
        subst hdi
        obtain ⟨L, cc, hb, rfl⟩ := slcDen_addr hd (by omega)
        have hlook := look_of_find hf hk
        rw [hr] at hlook
        obtain ⟨inf, d, e1, e2, e3⟩ := tyOf_ok hok
        rw [e3] at hkd
        have hd' := kdOf_slice hkd
        subst hd'
        have hLsz : L.sz = r.sz := by
          have hh := hS.holds _ _ _ hlook
          rcases hh with ⟨h0, hq⟩ | ⟨L', hq, h1, _⟩
          · rw [hb] at hq; cases hq
          · rw [hb] at hq; cases hq; exact h1
        obtain ⟨ei, hei, hei2⟩ := szOf_pos hsz0
        refine ⟨hl, .pointer (some ⟨L.blk, L.off + (o + z.toNat) * L.sz + 0, none⟩), by simp only [den]; exact ⟨L, hb, rfl⟩, fun w => ?_⟩
        have hes : ei.size = L.sz := by omega
        simp [Instr.indexAt, run_underlying e2, asIntOf, z0, z1, sizeOf_run hei, hes, addr_add, Nat.add_mul, Nat.add_assoc]
      · exact h.elim
    · exact h.elim
  · rename_i id kk i j kd z
    split at h
    · rename_i n e hkd
      refine ⟨_, h.2, fun hG => ?_⟩
      obtain ⟨⟨z0, z1⟩, hsz0, hok⟩ := h.1 hG
      obtain ⟨hd, hl⟩ := hv hG
      have hdi := hi hG
      simp only [den] at hd hdi
      subst hdi
      obtain ⟨L, hb, rfl⟩ := hd
      obtain ⟨inf, d, e1, e2, e3⟩ := tyOf_ok hok
      rw [e3] at hkd
      have hd' := kdOf_array hkd
      subst hd'
      obtain ⟨ei, hei, hei2⟩ := szOf_pos hsz0
      refine ⟨hl, .pointer (some ⟨L.blk, L.off + i * L.sz + (j + z.toNat * szOf X.P e), none⟩), by simp only [den]; exact ⟨L, hb, rfl⟩, fun w => ?_⟩
      simp [Instr.indexAt, run_underlying e2, asIntOf, Instr.sureAddr, z0, z1, sizeOf_run hei, hei2, addr_add, Nat.add_assoc]
    · exact h.elim
  · exact h.elim

def indexK (P : Program) (G : Bool) (t : TypeId) (s ix : SV) (k : SV → Prop) : Prop :=
  match s, ix with
  | .str s, .int _ z => (G = true → (0 ≤ z ∧ z < s.size) ∧ (tyOf P t).kd = .string ∧ (tyOf P t).ok = true) ∧ k (.int .u8 (byteAt s z.toNat))
  | .agg l, .int _ z =>
    match (tyOf P t).kd with
    | .array n e =>
      (G = true → (0 ≤ z ∧ z < n) ∧ n ≤ l.length ∧ szOf P e = 1 ∧ isAggT P e = some false ∧ (tyOf P t).ok = true) ∧
      match strsOf l with
      | some ss => k (.str (ss.getD z.toNat default))
      | none => match intsOf .i64 l with
        | some ss => k (.int .i64 (ss.getD z.toNat default))
        | none => False
    | _ => False
  | _, _ => False

theorem indexK_ok {P : Program} {β : Env} {m : Nat} {G : Bool} {t : TypeId} {s ix : SV} {v vi : Value} {k : SV → Prop} (h : indexK P G t s ix k) (hv : G = true → den β s v) (hi : G = true → den β ix vi) :
    ∃ s', k s' ∧ (G = true → s'.lt m ∧ ∃ v', den β s' v' ∧ Yld P (Instr.index t v vi) v') := by
  unfold indexK at h
  split at h
  · rename_i s kd z
    refine ⟨_, h.2, fun hG => ?_⟩
    obtain ⟨⟨z0, z1⟩, hkd, hok⟩ := h.1 hG
    have hd := hv hG
    have hdi := hi hG
    simp only [den] at hd hdi
    subst hd hdi
    obtain ⟨inf, d, e1, e2, e3⟩ := tyOf_ok hok
    rw [e3] at hkd
    have hd' := kdOf_string hkd
    subst hd'
    refine ⟨trivial, _, rfl, fun w => ?_⟩
    have hlt : z.toNat < s.size := by omega
    have hsome : s[z.toNat]? = some s[z.toNat] := by simp [hlt]
    simp [Instr.index, asIntOf, run_underlying e2, z0, hsome, byteAt]
  · rename_i l kd z
    split at h
    · rename_i n e hkd
      obtain ⟨hc, h⟩ := h
      have main : ∀ s', G = true → l[z.toNat]? = some s' → (∀ m, s'.lt m) → s'.lt m ∧ ∃ v', den β s' v' ∧ Yld P (Instr.index t v vi) v' := fun s' hG hs hl => by
        obtain ⟨⟨z0, z1⟩, hn, hsz, hag, hok⟩ := hc hG
        have hd := hv hG
        have hdi := hi hG
        simp only [den] at hd hdi
        subst hdi
        obtain ⟨vs, hvs, rfl⟩ := hd
        obtain ⟨inf, d, e1, e2, e3⟩ := tyOf_ok hok
        rw [e3] at hkd
        have hd' := kdOf_array hkd
        subst hd'
        obtain ⟨u, hu1, hu2⟩ := denL_get hvs _ _ hs
        obtain ⟨ei, hei, hei2⟩ := szOf_pos (P := P) (t := e) (by omega)
        refine ⟨hl m, u, hu2, fun w => ?_⟩
        unfold isAggT at hag
        cases hue : P.underlying e with
        | none => simp [hue] at hag
        | some d =>
          have hda : (kdOf d).agg = false := by simpa [hue] using hag
          simp [Instr.index, asIntOf, run_underlying e2, z0, z1, sizeOf_run hei, hei2, hsz, part, isAgg_run hue, hda, hu1]
      split at h
      · rename_i ss hss
        exact ⟨_, h, fun hG => main _ hG (strsOf_get hss _ (by have := hc hG; omega)) (fun _ => trivial)⟩
      · split at h
        · rename_i ss hss
          exact ⟨_, h, fun hG => main _ hG (intsOf_get hss _ (by have := hc hG; omega)) (fun _ => trivial)⟩
        · exact h.elim
    · exact h.elim
  · exact h.elim

end Go.Sk
