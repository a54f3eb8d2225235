/-
  A frame for walks, third part: the quiet operations, one function over all of them.
  Conditions: none; definitions and lemmas over any program.
-/
import Derived.Test.YtnkodcknbeahcaaSkB
set_option linter.unusedSimpArgs false
set_option linter.unusedVariables false
namespace Go.Sk
open Go.RowKit

/-- Worlds in which no block but those of B has changed. -/
def Kp (w : World) (B : Nat → Prop) (w' : World) : Prop := w.heap.size ≤ w'.heap.size ∧ ∀ b, b < w.heap.size → ¬ B b → w'.heap[b]? = w.heap[b]?

/-- The blocks of the call's own objects whose ids are in W. -/
def inW (β : Env) (H : AH) (W : List Nat) (b : Nat) : Prop := ∃ id k o L, id ∈ W ∧ look H.os id k = some o ∧ o.own = true ∧ β id k = some L ∧ L.blk = b

theorem Kp.refl (w : World) (B : Nat → Prop) : Kp w B w := ⟨Nat.le_refl _, fun _ _ _ => rfl⟩

theorem tyOf_ok {P : Program} {t : TypeId} (h : (tyOf P t).ok = true) : ∃ i d, P.info? t = some i ∧ P.underlying t = some d ∧ tyOf P t = ⟨true, kdOf d, i.size, i.bytes, offsOf P d⟩ := by
  unfold tyOf at *
  split at h
  · rename_i i d hi hd
    exact ⟨i, d, hi, hd, rfl⟩
  · cases h

theorem kdOf_struct {d : TypeDesc} (h : kdOf d = .struct) : ∃ fs, d = .struct fs := by cases d <;> simp [kdOf] at h; exact ⟨_, rfl⟩
theorem kdOf_slice {d : TypeDesc} {e : TypeId} (h : kdOf d = .slice e) : d = .slice e := by cases d <;> simp [kdOf] at h; subst h; rfl
theorem kdOf_array {d : TypeDesc} {n : Nat} {e : TypeId} (h : kdOf d = .array n e) : d = .array n e := by cases d <;> simp [kdOf] at h; obtain ⟨rfl, rfl⟩ := h; rfl
theorem kdOf_string {d : TypeDesc} (h : kdOf d = .string) : d = .string := by cases d <;> simp [kdOf] at h; rfl
theorem kdOf_int {d : TypeDesc} {k : IntKind} (h : kdOf d = .int k) : d = .int k := by cases d <;> simp [kdOf] at h; subst h; rfl
theorem kdOf_bool {d : TypeDesc} (h : kdOf d = .bool) : d = .bool := by cases d <;> simp [kdOf] at h; rfl
theorem kdOf_map {d : TypeDesc} {k e : TypeId} (h : kdOf d = .map k e) : d = .map k e := by cases d <;> simp [kdOf] at h; obtain ⟨rfl, rfl⟩ := h; rfl

theorem isAgg_run {P : Program} {t : TypeId} {d : TypeDesc} (hd : P.underlying t = some d) (w : World) : (isAgg t).run P w = .ok (kdOf d).agg w := by
  cases d <;> simp [isAgg, run_underlying hd, kdOf, Kd.agg]

theorem sizeOf_run {P : Program} {t : TypeId} {i : TypeInfo} (hi : P.info? t = some i) (w : World) : (sizeOf t).run P w = .ok i.size w := by
  simp [sizeOf, typeInfo, hi]

theorem szOf_pos {P : Program} {t : TypeId} (h : szOf P t ≠ 0) : ∃ i, P.info? t = some i ∧ i.size = szOf P t := by
  unfold szOf at *
  cases hi : P.info? t with
  | none => simp [hi] at h
  | some i => exact ⟨i, rfl, by simp⟩

/-! ### Loads -/
def loadK (P : Program) (H : AH) (W : List Nat) (G : Bool) (t : TypeId) (s : SV) (k : SV → Prop) : Prop :=
  match s with
  | .ptr id kk i j =>
    match find H.os id with
    | some (c, F) =>
      match F kk with
      | .row r =>
        (G = true → kk < c ∧ i < r.n ∧ W.contains id = false ∧ (tyOf P t).ok = true) ∧
        match (tyOf P t).kd.agg with
        | true => (G = true → j + (tyOf P t).size ≤ r.sz) ∧ k (.agg (((r.f i).drop j).take (tyOf P t).size))
        | false => match (r.f i)[j]? with | some s => k s | none => False
      | _ => False
    | none => False
  | _ => False

theorem St.cellsAt {X : Cx} {β : Env} {H : AH} {w : World} (hS : St X β H w) {id kk : Nat} {r : Row} (hl : look H.os id kk = some (.row r)) {i : Nat} (hi : i < r.n) :
    ∃ L, β id kk = some L ∧ L.blk < w.heap.size ∧ L.sz = r.sz ∧ (r.f i).length = r.sz ∧ ∀ (j : Nat) (s : SV), (r.f i)[j]? = some s → s.scalar = true ∧ s.lt H.nxt ∧ ∃ v, w.cell? ⟨L.blk, L.off + i * L.sz + j, none⟩ = some v ∧ den β s v := by
  have hh := hS.holds _ _ _ hl
  rcases hh with ⟨h0, _⟩ | ⟨L, hq, h1, h2, h3, _⟩
  · omega
  · refine ⟨L, hq, h2, h1, (h3 i hi).1, fun j s hs => ?_⟩
    obtain ⟨a, v, b, c⟩ := (h3 i hi).2 j s hs
    exact ⟨a, (hS.lt _ _ _ hl).2 i j s hi hs, v, b, c⟩

theorem St.notW {X : Cx} {β : Env} {H : AH} {w : World} (hS : St X β H w) {W : List Nat} {id kk : Nat} {o : Obj} (hl : look H.os id kk = some o) (hW : W.contains id = false) {L : Loc} (hb : β id kk = some L) : ¬ inW β H W L.blk := by
  rintro ⟨id', k', o', L', hm, hl', ho', hb', he⟩
  have := (hS.sep _ _ _ _ _ _ _ _ hl' hl ho' hb' hb he).1
  subst this
  simp at hW
  exact hW hm

theorem look_of_find {os : List (Nat × Nat × (Nat → Obj))} {id k c : Nat} {F : Nat → Obj} (h : find os id = some (c, F)) (hk : k < c) : look os id k = some (F k) := by
  simp [look, h, hk]

theorem addr_add (b o i : Nat) : (⟨b, o, none⟩ : Addr).add i = ⟨b, o + i, none⟩ := by
  unfold Addr.add
  split
  · simp [*]
  · rfl

theorem loadK_ok {X : Cx} {β : Env} {H : AH} {w : World} (hS : St X β H w) {W : List Nat} {G : Bool} {t : TypeId} {s : SV} {v : Value} {k : SV → Prop} (h : loadK X.P H W G t s k) (hv : G = true → den β s v) :
    ∃ s', k s' ∧ (G = true → s'.lt H.nxt ∧ ∃ v', den β s' v' ∧ ∀ w', Kp w (inW β H W) w' → (Instr.loadAt t v).run X.P w' = .ok v' w') := by
  unfold loadK at h
  split at h
  · rename_i id kk i j
    split at h
    · rename_i c F hf
      split at h
      · rename_i r hr
        obtain ⟨hc, h⟩ := h
        have main : G = true → ∃ (L : Loc) (inf : TypeInfo) (d : TypeDesc), L.sz = r.sz ∧ v = .pointer (some ⟨L.blk, L.off + i * L.sz + j, none⟩) ∧ X.P.info? t = some inf ∧ X.P.underlying t = some d ∧ tyOf X.P t = ⟨true, kdOf d, inf.size, inf.bytes, offsOf X.P d⟩ ∧ (r.f i).length = r.sz ∧
            ∀ (j' : Nat) (s : SV), (r.f i)[j']? = some s → s.scalar = true ∧ s.lt H.nxt ∧ ∃ u, den β s u ∧ ∀ w', Kp w (inW β H W) w' → w'.cell? ⟨L.blk, L.off + i * L.sz + j', none⟩ = some u := fun hG => by
          obtain ⟨h1, h2, h3, h4⟩ := hc hG
          have hl := look_of_find hf h1
          rw [hr] at hl
          obtain ⟨L, hb, hlt, hsz, hlen, hcell⟩ := hS.cellsAt hl h2
          have hd := hv hG
          simp only [den] at hd
          obtain ⟨L', hb', rfl⟩ := hd
          rw [hb] at hb'
          cases hb'
          obtain ⟨inf, d, e1, e2, e3⟩ := tyOf_ok h4
          refine ⟨L, inf, d, hsz, rfl, e1, e2, e3, hlen, fun j' s' hs' => ?_⟩
          obtain ⟨q1, q2, u, q3, q4⟩ := hcell j' s' hs'
          refine ⟨q1, q2, u, q4, fun w' hw' => ?_⟩
          exact (World.cell?_of_block (w := w) (a := ⟨L.blk, _, none⟩) (hw'.2 _ hlt (hS.notW hl h3 hb))).trans q3
        split at h
        · rename_i hag
          refine ⟨_, h.2, fun hG => ?_⟩
          obtain ⟨L, inf, d, hsz, rfl, e1, e2, e3, hlen, hcell⟩ := main hG
          have hsize : (tyOf X.P t).size = inf.size := by rw [e3]
          have hfit := h.1 hG
          rw [hsize] at hfit ⊢
          have hagd : (kdOf d).agg = true := by have := hag; rw [e3] at this; exact this
          have hll : (((r.f i).drop j).take inf.size).length = inf.size := by rw [List.length_take, List.length_drop, hlen]; omega
          have hget : ∀ (q : Nat) (s : SV), (((r.f i).drop j).take inf.size)[q]? = some s → (r.f i)[j + q]? = some s := fun q s hs => by
            rw [List.getElem?_take] at hs
            split at hs
            · simpa [List.getElem?_drop] using hs
            · cases hs
          refine ⟨by simp only [SV.lt]; exact SV.ltL_of_get fun q s hs => (hcell _ s (hget q s hs)).2.1, ?_⟩
          let f : Nat → Value := fun q => (w.cell? ⟨L.blk, L.off + i * L.sz + j + q, none⟩).getD undef
          have hf : ∀ (q : Nat) (s : SV), (((r.f i).drop j).take inf.size)[q]? = some s → den β s (f q) ∧ ∀ w', Kp w (inW β H W) w' → w'.cell? ⟨L.blk, L.off + i * L.sz + j + q, none⟩ = some (f q) := fun q s hs => by
            obtain ⟨_, _, u, hd, hu⟩ := hcell _ s (hget q s hs)
            have h0 := hu w (Kp.refl _ _)
            have hfq : f q = u := by simp only [f]; rw [Nat.add_assoc, h0]; rfl
            rw [hfq]
            exact ⟨hd, fun w' hw' => by rw [Nat.add_assoc]; exact hu w' hw'⟩
          refine ⟨.agg ((List.range inf.size).map f).toArray, ?_, fun w' hw' => ?_⟩
          · simp only [den]
            refine ⟨_, ?_, rfl⟩
            have := denL_mk (β := β) _ f (fun q s hs => (hf q s hs).1)
            rw [hll] at this
            exact this
          · have hcs : (loadCells ⟨L.blk, L.off + i * L.sz + j, none⟩ inf.size).run X.P w' = .ok ((List.range inf.size).map f).toArray w' := by
              have hr := run_loadCells_list (P := X.P) w' ⟨L.blk, L.off + i * L.sz + j, none⟩ ((List.range inf.size).map f) (fun q u hq => by
                rw [List.getElem?_map] at hq
                have hqlt : q < inf.size := by
                  rcases Nat.lt_or_ge q inf.size with h' | h'
                  · exact h'
                  · rw [List.getElem?_eq_none (by simpa using h')] at hq; cases hq
                rw [List.getElem?_range hqlt] at hq
                cases hq
                rw [addr_add]
                exact (hf q _ (List.getElem?_eq_getElem (by rw [hll]; exact hqlt))).2 w' hw')
              simpa using hr
            simp [Instr.loadAt, Instr.sureAddr, loadVar, isAgg_run e2, hagd, sizeOf_run e1, hcs]
        · rename_i hag
          split at h
          · rename_i s' hs'
            refine ⟨s', h, fun hG => ?_⟩
            obtain ⟨L, inf, d, hsz, rfl, e1, e2, e3, hlen, hcell⟩ := main hG
            have hagd : (kdOf d).agg = false := by have := hag; rw [e3] at this; exact this
            obtain ⟨_, q2, u, q3, q4⟩ := hcell j s' hs'
            refine ⟨q2, u, q3, fun w' hw' => ?_⟩
            simp [Instr.loadAt, Instr.sureAddr, loadVar, isAgg_run e2, hagd, q4 w' hw']
          · exact h.elim
      · exact h.elim
    · exact h.elim
  · exact h.elim

end Go.Sk
