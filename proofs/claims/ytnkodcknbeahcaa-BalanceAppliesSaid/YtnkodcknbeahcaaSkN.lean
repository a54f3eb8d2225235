/-
  A frame for walks, fourteenth part: other names for objects, knowledge given up, loops.
  Conditions: none; definitions and lemmas over any program.
-/
import Derived.Test.YtnkodcknbeahcaaSkM
import Derived.Deep.LoopGhost
set_option linter.unusedSimpArgs false
set_option linter.unusedVariables false
namespace Go.Sk
open Go.RowKit

mutual
/-- Other names for the objects. -/
def SV.ren (ρ : Nat → Nat) : SV → SV
  | .ptr id k i j => .ptr (ρ id) k i j
  | .slc g id k o n => .slc g (ρ id) k o n
  | .mp id k => .mp (ρ id) k
  | .fn f l => .fn f (SV.renL ρ l)
  | .agg l => .agg (SV.renL ρ l)
  | .tup l => .tup (SV.renL ρ l)
  | .gd g s => .gd g (SV.ren ρ s)
  | s => s
def SV.renL (ρ : Nat → Nat) : List SV → List SV
  | [] => []
  | s :: l => SV.ren ρ s :: SV.renL ρ l
end

def Env.via (β : Env) (ρ : Nat → Nat) : Env := fun id k => β (ρ id) k

mutual
theorem den_ren {β : Env} {ρ : Nat → Nat} : ∀ (s : SV) (v : Value), den β (s.ren ρ) v ↔ den (β.via ρ) s v
  | .int .., _ => Iff.rfl
  | .bool _, _ => Iff.rfl
  | .str _, _ => Iff.rfl
  | .nilp, _ => Iff.rfl
  | .nils, _ => Iff.rfl
  | .nilfn, _ => Iff.rfl
  | .raw _, _ => Iff.rfl
  | .ptr .., _ => Iff.rfl
  | .slc .., _ => Iff.rfl
  | .mp .., _ => Iff.rfl
  | .fn f l, v => by
    simp only [SV.ren, den]
    exact ⟨fun ⟨vs, h, e⟩ => ⟨vs, (denL_ren l vs).1 h, e⟩, fun ⟨vs, h, e⟩ => ⟨vs, (denL_ren l vs).2 h, e⟩⟩
  | .agg l, v => by
    simp only [SV.ren, den]
    exact ⟨fun ⟨vs, h, e⟩ => ⟨vs, (denL_ren l vs).1 h, e⟩, fun ⟨vs, h, e⟩ => ⟨vs, (denL_ren l vs).2 h, e⟩⟩
  | .tup l, v => by
    simp only [SV.ren, den]
    exact ⟨fun ⟨vs, h, e⟩ => ⟨vs, (denL_ren l vs).1 h, e⟩, fun ⟨vs, h, e⟩ => ⟨vs, (denL_ren l vs).2 h, e⟩⟩
  | .gd g s, v => by
    simp only [SV.ren, den]
    exact ⟨fun ⟨h, e⟩ => ⟨fun hg => (den_ren s v).1 (h hg), e⟩, fun ⟨h, e⟩ => ⟨fun hg => (den_ren s v).2 (h hg), e⟩⟩
theorem denL_ren {β : Env} {ρ : Nat → Nat} : ∀ (l : List SV) (vs : List Value), denL β (SV.renL ρ l) vs ↔ denL (β.via ρ) l vs
  | [], _ => Iff.rfl
  | s :: l, vs => by
    simp only [SV.renL, denL]
    exact ⟨fun ⟨v, r, h1, h2, e⟩ => ⟨v, r, (den_ren s v).1 h1, (denL_ren l r).1 h2, e⟩, fun ⟨v, r, h1, h2, e⟩ => ⟨v, r, (den_ren s v).2 h1, (denL_ren l r).2 h2, e⟩⟩
end

mutual
theorem lt_ren {ρ : Nat → Nat} {m m' : Nat} (h : ∀ id, id < m → ρ id < m') : ∀ (s : SV), s.lt m → (s.ren ρ).lt m'
  | .int .., _ => trivial
  | .bool _, _ => trivial
  | .str _, _ => trivial
  | .nilp, _ => trivial
  | .nils, _ => trivial
  | .nilfn, _ => trivial
  | .raw _, _ => trivial
  | .ptr .., hl => h _ hl
  | .slc .., hl => h _ hl
  | .mp .., hl => h _ hl
  | .fn _ l, hl => ltL_ren h l hl
  | .agg l, hl => ltL_ren h l hl
  | .tup l, hl => ltL_ren h l hl
  | .gd _ s, hl => fun hg => lt_ren h s (hl hg)
theorem ltL_ren {ρ : Nat → Nat} {m m' : Nat} (h : ∀ id, id < m → ρ id < m') : ∀ (l : List SV), SV.ltL m l → SV.ltL m' (SV.renL ρ l)
  | [], _ => trivial
  | s :: l, hl => ⟨lt_ren h s hl.1, ltL_ren h l hl.2⟩
end

theorem renL_eq (ρ : Nat → Nat) : ∀ l : List SV, SV.renL ρ l = l.map (SV.ren ρ)
  | [] => rfl
  | s :: l => by simp [SV.renL, renL_eq ρ l]

theorem scalar_ren (ρ : Nat → Nat) (s : SV) : (s.ren ρ).scalar = s.scalar := by cases s <;> rfl

/-- What one row says gives what another one says, under other names. -/
def rowGives (ρ : Nat → Nat) (r r' : Row) : Prop :=
  (r'.own = true → r.own = true ∧ r'.e = r.e) ∧ r'.sz = r.sz ∧ r'.n ≤ r.n ∧ ∀ i, i < r'.n → r.f i = SV.renL ρ (r'.f i)

def objGives (ρ : Nat → Nat) : Obj → Obj → Prop
  | .row r, .row r' => rowGives ρ r r'
  | .blk w p, .blk w' p' => (w' = true → w = true) ∧ p = p'
  | _, _ => False

theorem objGives_own {ρ : Nat → Nat} {o o' : Obj} (h : objGives ρ o o') (ho : o'.own = true) : o.own = true := by
  cases o <;> cases o' <;> simp only [objGives] at h
  · exact (h.1 ho).1
  · exact h.1 ho

theorem objGives_holds {ρ : Nat → Nat} {o o' : Obj} (h : objGives ρ o o') {β : Env} {w : World} {q : Option Loc} (hh : o.holds β w q) : o'.holds (β.via ρ) w q := by
  cases o <;> cases o' <;> simp only [objGives] at h
  · rename_i r r'
    obtain ⟨h1, h2, h3, h4⟩ := h
    rcases hh with ⟨hn, hq⟩ | ⟨L, hq, e1, e2, e3, e4⟩
    · exact .inl ⟨by omega, hq⟩
    · refine .inr ⟨L, hq, by omega, e2, fun i hi => ?_, fun ho => ?_⟩
      · have := e3 i (by omega)
        rw [h4 i hi] at this
        refine ⟨by rw [renL_eq, List.length_map] at this; omega, fun j s hs => ?_⟩
        have hj : (SV.renL ρ (r'.f i))[j]? = some (s.ren ρ) := by rw [renL_eq, List.getElem?_map, hs]; rfl
        obtain ⟨c1, v, c2, c3⟩ := this.2 j _ hj
        exact ⟨by rw [← scalar_ren ρ]; exact c1, v, c2, (den_ren s v).1 c3⟩
      · obtain ⟨a, b, c, cur, d, e⟩ := e4 (h1 ho).1
        exact ⟨a, by omega, c, cur, by rw [(h1 ho).2]; exact d, by rw [h2]; exact e⟩
  · obtain ⟨_, rfl⟩ := h
    exact hh

/-- All objects of the new knowledge, one after the other. -/
def HGives (ρ : Nat → Nat) (m : Nat) (os : List (Nat × Nat × (Nat → Obj))) : List (Nat × Nat × (Nat → Obj)) → Prop
  | [] => True
  | (id, c', F') :: l =>
    (match find os (ρ id) with
      | some (c, F) => c' ≤ c ∧ ∀ k, k < c' → objGives ρ (F k) (F' k) ∧ (F' k).lt m
      | none => False) ∧ id < m ∧ HGives ρ m os l

theorem find_mem : ∀ {os : List (Nat × Nat × (Nat → Obj))} {id : Nat} {x : Nat × (Nat → Obj)}, find os id = some x → (id, x) ∈ os
  | [], _, _, h => by simp [find] at h
  | (i, y) :: l, id, x, h => by
    simp only [find] at h
    split at h
    · rename_i he
      cases h; subst he
      exact List.mem_cons_self ..
    · exact List.mem_cons_of_mem _ (find_mem h)

theorem look_find {os : List (Nat × Nat × (Nat → Obj))} {id k : Nat} {o : Obj} (h : look os id k = some o) : ∃ c F, find os id = some (c, F) ∧ k < c ∧ o = F k := by
  unfold look at h
  split at h
  · rename_i c F hf
    split at h
    · cases h
      exact ⟨c, F, hf, by assumption, rfl⟩
    · cases h
  · cases h

theorem HGives.get {ρ : Nat → Nat} {m : Nat} {os : List (Nat × Nat × (Nat → Obj))} : ∀ {os' : List (Nat × Nat × (Nat → Obj))}, HGives ρ m os os' → ∀ id c' F', (id, c', F') ∈ os' →
    id < m ∧ ∃ c F, find os (ρ id) = some (c, F) ∧ c' ≤ c ∧ ∀ k, k < c' → objGives ρ (F k) (F' k) ∧ (F' k).lt m
  | [], _, _, _, _, hm => by cases hm
  | (i, c1, F1) :: l, h, id, c', F', hm => by
    obtain ⟨h1, h2, h3⟩ := h
    cases hm with
    | head =>
      refine ⟨h2, ?_⟩
      split at h1
      · rename_i c F hf
        exact ⟨c, F, hf, h1.1, h1.2⟩
      · exact h1.elim
    | tail _ hm => exact HGives.get h3 id c' F' hm

theorem HGives.look {ρ : Nat → Nat} {m : Nat} {os os' : List (Nat × Nat × (Nat → Obj))} (h : HGives ρ m os os') {id k : Nat} {o' : Obj} (hl : look os' id k = some o') :
    id < m ∧ o'.lt m ∧ ∃ o, Sk.look os (ρ id) k = some o ∧ objGives ρ o o' := by
  obtain ⟨c', F', hf, hk, rfl⟩ := look_find hl
  obtain ⟨h1, c, F, h2, h3, h4⟩ := h.get _ _ _ (find_mem hf)
  exact ⟨h1, (h4 k hk).2, F k, look_of_find h2 (by omega), (h4 k hk).1⟩

/-- No two names, one of them of an object that is owned, are made one. -/
def InjOn (ρ : Nat → Nat) (os' : List (Nat × Nat × (Nat → Obj))) : Prop :=
  ∀ id k o id' k' o', look os' id k = some o → look os' id' k' = some o' → o.own = true → ρ id = ρ id' → id = id'

/-- The same as a Bool, for families whose members are owned together. -/
def injB (ρ : Nat → Nat) (os' : List (Nat × Nat × (Nat → Obj))) : Bool :=
  os'.all fun x => os'.all fun y => !(x.2.2 0).own || x.1 == y.1 || !(ρ x.1 == ρ y.1)
def ownU (os' : List (Nat × Nat × (Nat → Obj))) : Prop := ∀ x ∈ os', ∀ k, (x.2.2 k).own = (x.2.2 0).own

theorem InjOn.of {ρ : Nat → Nat} {os' : List (Nat × Nat × (Nat → Obj))} (h : injB ρ os' = true) (hu : ownU os') : InjOn ρ os' := fun id k o id' k' o' h1 h2 h3 h4 => by
  obtain ⟨c, F, hf, hk, rfl⟩ := look_find h1
  obtain ⟨c', F', hf', hk', rfl⟩ := look_find h2
  have q := List.all_eq_true.1 (List.all_eq_true.1 h _ (find_mem hf)) _ (find_mem hf')
  simp only [Bool.or_eq_true, Bool.not_eq_true', beq_iff_eq, beq_eq_false_iff_ne, ne_eq] at q
  rcases q with (q | q) | q
  · have := hu _ (find_mem hf) k
    rw [h3] at this
    simp only at this q
    rw [q] at this; cases this
  · exact q
  · exact absurd h4 q

/-- (fr, H) gives (fr', H'), under other names. -/
structure Gives (X : Cx) (ρ : Nat → Nat) (fr : Fr) (H : AH) (fr' : Fr) (H' : AH) : Prop where
  fr : ∀ t s, get fr' t = some s → get fr t = some (s.ren ρ) ∧ s.lt H'.nxt
  os : HGives ρ H'.nxt H.os H'.os
  inj : InjOn ρ H'.os
  fix : ∀ id, id < X.m0 → ρ id = id
  m0 : X.m0 ≤ H'.nxt
  keep : ∀ id k, id < X.m0 → (∃ o, look H.os id k = some o ∧ o.own = true) → ∃ o, look H'.os id k = some o ∧ o.own = true
  big : ∀ id k o, X.m0 ≤ id → look H'.os id k = some o → o.own = true → X.m0 ≤ ρ id

theorem Gives.frOk {X : Cx} {ρ : Nat → Nat} {fr fr' : Fr} {H H' : AH} (h : Gives X ρ fr H fr' H') {β : Env} {a : Act} (hF : FrOk X β H.nxt fr a) : FrOk X (β.via ρ) H'.nxt fr' a :=
  ⟨hF.defers, hF.size, fun t s hs => by
    obtain ⟨h1, h2⟩ := h.fr t s hs
    obtain ⟨_, v, h3, h4⟩ := hF.get t _ h1
    exact ⟨h2, v, h3, (den_ren s v).1 h4⟩⟩

theorem Gives.st {X : Cx} {ρ : Nat → Nat} {fr fr' : Fr} {H H' : AH} (h : Gives X ρ fr H fr' H') {β : Env} {w : World} (hS : St X β H w) : St X (β.via ρ) H' w where
  os := hS.os
  tape := hS.tape
  output := hS.output
  size := hS.size
  fix id k hl := by
    show β (ρ id) k = _
    rw [h.fix id hl]; exact hS.fix id k hl
  holds id k o hl := by
    obtain ⟨_, _, o0, h1, h2⟩ := h.os.look hl
    exact objGives_holds h2 (hS.holds _ _ _ h1)
  sep id k id' k' o o' L L' hl hl' ho hb hb' he := by
    obtain ⟨_, _, o0, h1, h2⟩ := h.os.look hl
    obtain ⟨_, _, o1, h3, h4⟩ := h.os.look hl'
    have := hS.sep _ _ _ _ _ _ _ _ h1 h3 (objGives_own h2 ho) hb hb' he
    exact ⟨h.inj _ _ _ _ _ _ hl hl' ho this.1, this.2⟩
  old b hb hn := hS.old b hb fun id k o L hl ho hbb he => by
    rcases hS.mine _ _ _ _ hl ho hbb with ⟨h1, _⟩ | ⟨_, h2⟩
    · obtain ⟨o', q1, q2⟩ := h.keep id k h1 ⟨o, hl, ho⟩
      refine hn id k o' L q1 q2 ?_ he
      show β (ρ id) k = _
      rw [h.fix id h1]; exact hbb
    · omega
  mine id k o L hl ho hb := by
    obtain ⟨hlt, _, o0, h1, h2⟩ := h.os.look hl
    rcases hS.mine _ _ _ _ h1 (objGives_own h2 ho) hb with ⟨q1, q2⟩ | ⟨q1, q2⟩
    · by_cases hm : id < X.m0
      · rw [h.fix id hm] at q2
        exact .inl ⟨hm, q2⟩
      · have := h.big id k o (by omega) hl ho
        omega
    · by_cases hm : id < X.m0
      · have := h.fix id hm
        omega
      · exact .inr ⟨by omega, q2⟩
  keep id k ho := by
    obtain ⟨q1, o, q2, q3⟩ := hS.keep id k ho
    exact ⟨q1, h.keep id k q1 ⟨o, q2, q3⟩⟩
  m0 := h.m0
  lt id k o hl := by
    obtain ⟨h1, h2, _⟩ := h.os.look hl
    exact ⟨h1, h2⟩

/-- The same, as parts that are reckoned. -/
def frGives (ρ : Nat → Nat) (m : Nat) (fr : Fr) : Fr → Prop
  | [] => True
  | (t, s) :: l => (get fr t = some (s.ren ρ) ∧ s.lt m) ∧ frGives ρ m fr l

theorem frGives_ok {ρ : Nat → Nat} {m : Nat} {fr : Fr} : ∀ {fr' : Fr}, frGives ρ m fr fr' → ∀ t s, get fr' t = some s → get fr t = some (s.ren ρ) ∧ s.lt m
  | [], _, _, _, h => by simp [get] at h
  | (u, s0) :: l, h, t, s, hs => by
    simp only [get] at hs
    split at hs
    · rename_i he
      cases hs; subst he
      exact h.1
    · exact frGives_ok h.2 t s hs

/-- The owned objects of the call's arguments stay. -/
def keepB (m0 : Nat) (os os' : List (Nat × Nat × (Nat → Obj))) : Prop :=
  ∀ x ∈ os, x.1 < m0 → (x.2.2 0).own = true → match find os' x.1 with
    | some (c, F) => c = x.2.1 ∧ ∀ k, (F k).own = true
    | none => False

/-- What is owned and has a new name had one. -/
def bigB (m0 : Nat) (ρ : Nat → Nat) (os' : List (Nat × Nat × (Nat → Obj))) : Bool := os'.all fun x => decide (x.1 < m0) || decide (m0 ≤ ρ x.1) || !(x.2.2 0).own

theorem Gives.mk' {X : Cx} {fr : Fr} {H : AH} {fr' : Fr} {H' : AH} (ρ : Nat → Nat) (h1 : frGives ρ H'.nxt fr fr') (h2 : HGives ρ H'.nxt H.os H'.os) (h3 : injB ρ H'.os = true) (h3u : ownU H'.os) (h4 : (List.range X.m0).all (fun id => ρ id == id) = true)
    (h5 : X.m0 ≤ H'.nxt) (h6 : ownU H.os) (h7 : keepB X.m0 H.os H'.os) (h8 : bigB X.m0 ρ H'.os = true) : Gives X ρ fr H fr' H' where
  fr := frGives_ok h1
  os := h2
  inj := .of h3 h3u
  fix id hid := by simpa using List.all_eq_true.1 h4 id (List.mem_range.2 hid)
  m0 := h5
  keep id k hid ho := by
    obtain ⟨o, ho1, ho2⟩ := ho
    obtain ⟨c, F, hf, hk, rfl⟩ := look_find ho1
    have := h7 _ (find_mem hf) hid (by have := h6 _ (find_mem hf) k; simp only at this; rw [← this]; exact ho2)
    simp only at this
    split at this
    · rename_i c' F' hf'
      exact ⟨F' k, look_of_find hf' (by omega), this.2 k⟩
    · exact this.elim
  big id k o h0 hl ho := by
    obtain ⟨c, F, hf, hk, rfl⟩ := look_find hl
    have h9 := List.all_eq_true.1 h8 _ (find_mem hf)
    have h10 := h3u _ (find_mem hf) k
    simp only [Bool.or_eq_true, decide_eq_true_eq, Bool.not_eq_true'] at h9
    simp only at h10
    rw [← h10, ho] at h9
    rcases h9 with (h9 | h9) | h9
    · omega
    · exact h9
    · cases h9

section
variable {X : Cx} {Q : Exit → Fr → AH → Prop} {fr : Fr} {H : AH}

theorem Cw.weaken {c : Code} {fr' : Fr} {H' : AH} {ρ : Nat → Nat} (hg : Gives X ρ fr H fr' H') (h : Cw X c Q fr' H') : Cw X c Q fr H := fun _ a w hF hS => h _ a w (hg.frOk hF) (hg.st hS)

/-- A loop. s: what the rounds turn; I: what is true of it; μ: what every round lowers. -/
theorem Cw.loop {σ : Type} {c : Code} (I : σ → Prop) (μ : σ → Nat) (F : σ → Fr) (G : σ → AH) (s0 : σ) (h0 : I s0) {ρ : Nat → Nat} (hg : Gives X ρ fr H (F s0) (G s0))
    (round : ∀ s, I s → Cw X c (thenK (fun fr' H' => ∃ s', I s' ∧ μ s' < μ s ∧ ∃ ρ, Gives X ρ fr' H' (F s') (G s')) Q) (F s) (G s)) : Cw X (.loop c) Q fr H := fun β a w hF hS => by
  refine wp_loop_ghost (fun n a w => ∃ s β, I s ∧ μ s = n ∧ FrOk X β (G s).nxt (F s) a ∧ St X β (G s) w) (μ s0) ⟨s0, _, h0, rfl, hg.frOk hF, hg.st hS⟩ ?_
  rintro n a w ⟨s, β, hI, rfl, hF, hS⟩
  refine Code.wp_mono (fun e a w hh => ?_) (round s hI β a w hF hS)
  cases e with
  | normal =>
    obtain ⟨β', fr', H', ⟨s', h1, h2, ρ', h3⟩, h4, h5⟩ := hh
    exact ⟨μ s', h2, s', _, h1, rfl, h3.frOk h4, h3.st h5⟩
  | _ => exact hh

end

end Go.Sk
