/-
  A frame for walks, seventh part: how what is known changes: new objects, dropped objects, stores.
  Conditions: none; definitions and lemmas over any program.
-/
import Derived.Test.YtnkodcknbeahcaaSkF
set_option linter.unusedSimpArgs false
set_option linter.unusedVariables false
namespace Go.Sk
open Go.RowKit

def Env.set (β : Env) (id : Nat) (q : Nat → Option Loc) : Env := fun i k => if i = id then q k else β i k

theorem Env.agree_set (β : Env) (m : Nat) (q : Nat → Option Loc) : Env.agree m β (β.set m q) := fun id k h => by
  unfold Env.set; rw [if_neg (by omega)]

theorem Env.agree.trans {m m' : Nat} {a b c : Env} (h : Env.agree m a b) (h' : Env.agree m' b c) (hm : m ≤ m') : Env.agree m a c :=
  fun id k hl => (h' id k (Nat.lt_of_lt_of_le hl hm)).trans (h id k hl)

theorem Env.agree.refl (m : Nat) (β : Env) : Env.agree m β β := fun _ _ _ => rfl

theorem look_cons (i c : Nat) (F : Nat → Obj) (os : List (Nat × Nat × (Nat → Obj))) (id k : Nat) :
    look ((i, c, F) :: os) id k = if i = id then (if k < c then some (F k) else none) else look os id k := by
  by_cases h : i = id <;> simp [look, find, h]

/-- A new object of the call's own. -/
theorem St.new' {X : Cx} {β : Env} {H : AH} {w : World} (hS : St X β H w) {c : Nat} {F : Nat → Obj} {q : Nat → Option Loc}
    (hq : ∀ k L, k < c → q k = some L → X.w0.heap.size ≤ L.blk ∧ ∀ id k' o L', look H.os id k' = some o → β id k' = some L' → L'.blk ≠ L.blk)
    (hsep : ∀ k k' L L', k < c → k' < c → q k = some L → q k' = some L' → L.blk = L'.blk → k = k')
    (ho : ∀ k, k < c → (F k).holds (β.set H.nxt q) w (q k)) (hl : ∀ k, k < c → (F k).lt (H.nxt + 1)) :
    St X (β.set H.nxt q) ⟨H.nxt + 1, (H.nxt, c, F) :: H.os⟩ w := by
  have hag := Env.agree_set β H.nxt q
  have hlk : ∀ id k o, look ((H.nxt, c, F) :: H.os) id k = some o → (id = H.nxt ∧ k < c ∧ o = F k) ∨ (id < H.nxt ∧ look H.os id k = some o) := fun id k o h => by
    rw [look_cons] at h
    split at h
    · rename_i he
      split at h
      · cases h; exact .inl ⟨he.symm, by assumption, rfl⟩
      · cases h
    · exact .inr ⟨(hS.lt _ _ _ h).1, h⟩
  have hold : ∀ id k, id < H.nxt → (β.set H.nxt q) id k = β id k := fun id k h => hag id k h
  have hnew : ∀ k, (β.set H.nxt q) H.nxt k = q k := fun k => by unfold Env.set; rw [if_pos rfl]
  refine ⟨hS.os, hS.tape, hS.output, hS.size, fun id k h => ?_, fun id k o h => ?_, fun id k id' k' o o' L L' h h' how hb hb' he => ?_, fun b hb hn => ?_, fun id k o L h how hb => ?_, fun id k hb => ?_, ?_, fun id k o h => ?_⟩
  · rw [hold id k (Nat.lt_of_lt_of_le h hS.m0)]; exact hS.fix id k h
  · rcases hlk _ _ _ h with ⟨rfl, hk, rfl⟩ | ⟨hlt, h0⟩
    · rw [hnew]; exact ho k hk
    · rw [hold id k hlt]; exact (hS.holds _ _ _ h0).agree hag (hS.lt _ _ _ h0).2
  · rcases hlk _ _ _ h with ⟨rfl, hk, rfl⟩ | ⟨hlt, h0⟩
    · rw [hnew] at hb
      rcases hlk _ _ _ h' with ⟨rfl, hk', rfl⟩ | ⟨hlt', h0'⟩
      · rw [hnew] at hb'
        exact ⟨rfl, hsep _ _ _ _ hk hk' hb hb' he⟩
      · rw [hold _ _ hlt'] at hb'
        exact absurd he.symm ((hq k L hk hb).2 _ _ _ _ h0' hb')
    · rw [hold _ _ hlt] at hb
      rcases hlk _ _ _ h' with ⟨rfl, hk', rfl⟩ | ⟨hlt', h0'⟩
      · rw [hnew] at hb'
        exact absurd he ((hq k' L' hk' hb').2 _ _ _ _ h0 hb)
      · rw [hold _ _ hlt'] at hb'
        exact hS.sep _ _ _ _ _ _ _ _ h0 h0' how hb hb' he
  · refine hS.old b hb fun id k o L h how hbb => ?_
    have hlt := (hS.lt _ _ _ h).1
    exact hn id k o L (by rw [look_cons, if_neg (by omega)]; exact h) how (by rw [hold _ _ hlt]; exact hbb)
  · rcases hlk _ _ _ h with ⟨rfl, hk, rfl⟩ | ⟨hlt, h0⟩
    · rw [hnew] at hb
      exact .inr ⟨hS.m0, (hq k L hk hb).1⟩
    · rw [hold _ _ hlt] at hb
      exact hS.mine _ _ _ _ h0 how hb
  · obtain ⟨hlt, o, h, how⟩ := hS.keep id k hb
    have hlt' := Nat.lt_of_lt_of_le hlt hS.m0
    exact ⟨hlt, o, by rw [look_cons, if_neg (by omega)]; exact h, how⟩
  · exact Nat.le_succ_of_le hS.m0
  · rcases hlk _ _ _ h with ⟨rfl, hk, rfl⟩ | ⟨hlt, h0⟩
    · exact ⟨Nat.lt_succ_self _, hl k hk⟩
    · refine ⟨Nat.lt_succ_of_lt hlt, ?_⟩
      have := (hS.lt _ _ _ h0).2
      cases o with
      | row r => exact fun i j s hi hs => SV.lt_mono (Nat.le_succ _) s (this i j s hi hs)
      | blk _ _ => trivial

theorem St.blk_lt {X : Cx} {β : Env} {H : AH} {w : World} (hS : St X β H w) {id k : Nat} {o : Obj} {L : Loc} (h : look H.os id k = some o) (hb : β id k = some L) : L.blk < w.heap.size := by
  have := hS.holds _ _ _ h
  rw [hb] at this
  exact this.blk_lt

theorem St.new {X : Cx} {β : Env} {H : AH} {w w' : World} (hS : St X β H w) (hw : Below w.heap.size w w') {c : Nat} {F : Nat → Obj} {q : Nat → Option Loc}
    (hq : ∀ k L, k < c → q k = some L → w.heap.size ≤ L.blk) (hsep : ∀ k k' L L', k < c → k' < c → q k = some L → q k' = some L' → L.blk = L'.blk → k = k')
    (ho : ∀ k, k < c → (F k).holds (β.set H.nxt q) w' (q k)) (hl : ∀ k, k < c → (F k).lt (H.nxt + 1)) :
    St X (β.set H.nxt q) ⟨H.nxt + 1, (H.nxt, c, F) :: H.os⟩ w' :=
  St.new' (hS.ext hw) (fun k L hk hL => ⟨Nat.le_trans hS.size (hq k L hk hL), fun id k' o L' h hb => by have := hS.blk_lt h hb; have := hq k L hk hL; omega⟩) hsep ho hl

/-- Knowledge that is given up. -/
theorem St.less {X : Cx} {β : Env} {H H' : AH} {w : World} (hS : St X β H w) (hn : H'.nxt = H.nxt) (hl : ∀ id k o, look H'.os id k = some o → look H.os id k = some o)
    (hm : ∀ id k o, id < X.m0 → look H.os id k = some o → o.own = true → look H'.os id k = some o) : St X β H' w where
  os := hS.os
  tape := hS.tape
  output := hS.output
  size := hS.size
  fix := hS.fix
  holds id k o h := hS.holds _ _ _ (hl _ _ _ h)
  sep id k id' k' o o' L L' h h' := hS.sep _ _ _ _ _ _ _ _ (hl _ _ _ h) (hl _ _ _ h')
  old b hb hnn := hS.old b hb fun id k o L h how hbb => by
    rcases hS.mine _ _ _ _ h how hbb with ⟨h1, _⟩ | ⟨_, h2⟩
    · exact hnn id k o L (hm _ _ _ h1 h how) how hbb
    · omega
  mine id k o L h := hS.mine _ _ _ _ (hl _ _ _ h)
  keep id k hb := by
    obtain ⟨hlt, o, h, how⟩ := hS.keep id k hb
    exact ⟨hlt, o, hm _ _ _ hlt h how, how⟩
  m0 := by rw [hn]; exact hS.m0
  lt id k o h := by rw [hn]; exact hS.lt _ _ _ (hl _ _ _ h)

/-- An object of the call's own has been written. -/
theorem St.upd {X : Cx} {β : Env} {H : AH} {os' : List (Nat × Nat × (Nat → Obj))} {w w' : World} (hS : St X β H w) {id kk : Nat} {o o' : Obj} {L : Loc} (hl : look H.os id kk = some o) (how : o.own = true) (hb : β id kk = some L) (how' : o'.own = true)
    (hos : ∀ id' k', look os' id' k' = if id' = id ∧ k' = kk then some o' else look H.os id' k')
    (hw : w'.os = w.os ∧ w'.tape = w.tape ∧ w'.output = w.output ∧ w'.heap.size = w.heap.size ∧ ∀ b, b ≠ L.blk → w'.heap[b]? = w.heap[b]?)
    (ho : o'.holds β w' (some L)) (hlt : o'.lt H.nxt) : St X β ⟨H.nxt, os'⟩ w' := by
  obtain ⟨w1, w2, w3, w4, w5⟩ := hw
  have hlk : ∀ id' k' u, look os' id' k' = some u → (id' = id ∧ k' = kk ∧ u = o') ∨ (¬ (id' = id ∧ k' = kk) ∧ look H.os id' k' = some u) := fun id' k' u h => by
    rw [hos] at h
    split at h
    · rename_i he
      cases h
      exact .inl ⟨he.1, he.2, rfl⟩
    · exact .inr ⟨by assumption, h⟩
  -- every object of the new knowledge has a counterpart of the same ownership
  have hcp : ∀ id' k' u, look os' id' k' = some u → ∃ u0, look H.os id' k' = some u0 ∧ u0.own = u.own := fun id' k' u h => by
    rcases hlk _ _ _ h with ⟨rfl, rfl, rfl⟩ | ⟨_, h⟩
    · exact ⟨o, hl, how.trans how'.symm⟩
    · exact ⟨u, h, rfl⟩
  have hpc : ∀ id' k' u, look H.os id' k' = some u → ∃ u0, look os' id' k' = some u0 ∧ u0.own = u.own := fun id' k' u h => by
    by_cases he : id' = id ∧ k' = kk
    · obtain ⟨rfl, rfl⟩ := he
      rw [hl] at h; cases h
      exact ⟨o', by rw [hos]; simp, how'.trans how.symm⟩
    · exact ⟨u, by rw [hos, if_neg he]; exact h, rfl⟩
  refine ⟨w1.trans hS.os, w2.trans hS.tape, w3.trans hS.output, by rw [w4]; exact hS.size, hS.fix, fun id' k' u h => ?_, fun id1 k1 id2 k2 u1 u2 L1 L2 h1 h2 h3 h4 h5 h6 => ?_, fun b hbl hn => ?_, fun id' k' u L' h h1 h2 => ?_, fun id' k' hbs => ?_, hS.m0, fun id' k' u h => ?_⟩
  · rcases hlk _ _ _ h with ⟨rfl, rfl, rfl⟩ | ⟨hne, h⟩
    · rw [hb]; exact ho
    · refine (hS.holds _ _ _ h).mono (by omega) fun L' hL' _ => w5 _ fun he => ?_
      have := hS.sep _ _ _ _ _ _ _ _ hl h how hb hL' he.symm
      exact hne ⟨this.1.symm, this.2.symm⟩
  · obtain ⟨v1, g1, e1⟩ := hcp _ _ _ h1
    obtain ⟨v2, g2, _⟩ := hcp _ _ _ h2
    exact hS.sep _ _ _ _ _ _ _ _ g1 g2 (e1.trans h3) h4 h5 h6
  · have hbL : b ≠ L.blk := fun he => by
      obtain ⟨u0, g, e⟩ := hpc _ _ _ hl
      exact hn _ _ _ _ g (e.trans how) hb he.symm
    rw [w5 b hbL]
    refine hS.old b hbl fun id' k' u L' h h1 h2 => ?_
    obtain ⟨u0, g, e⟩ := hpc _ _ _ h
    exact hn _ _ _ _ g (e.trans h1) h2
  · obtain ⟨v1, g1, e1⟩ := hcp _ _ _ h
    exact hS.mine _ _ _ _ g1 (e1.trans h1) h2
  · obtain ⟨h0, u, h, h1⟩ := hS.keep id' k' hbs
    obtain ⟨u0, g, e⟩ := hpc _ _ _ h
    exact ⟨h0, u0, g, e.trans h1⟩
  · rcases hlk _ _ _ h with ⟨rfl, rfl, rfl⟩ | ⟨_, h⟩
    · exact ⟨(hS.lt _ _ _ hl).1, hlt⟩
    · exact hS.lt _ _ _ h

/-- The entry of an object is replaced. -/
def setO : List (Nat × Nat × (Nat → Obj)) → Nat → Nat → Obj → List (Nat × Nat × (Nat → Obj))
  | [], _, _, _ => []
  | (i, c, F) :: l, id, kk, o => if i = id then (i, if c = 1 then (1, fun _ => o) else (c, fun k => if k = kk then o else F k)) :: l else (i, c, F) :: setO l id kk o

theorem look_setO : ∀ (os : List (Nat × Nat × (Nat → Obj))) (id kk : Nat) (o o0 : Obj), look os id kk = some o0 → ∀ id' k', look (setO os id kk o) id' k' = if id' = id ∧ k' = kk then some o else look os id' k'
  | [], id, kk, o, o0, h, _, _ => by simp [look, find] at h
  | (i, c, F) :: l, id, kk, o, o0, h, id', k' => by
    rw [look_cons] at h
    simp only [setO]
    by_cases hi : i = id
    · subst hi
      rw [if_pos rfl] at h
      have hk : kk < c := by
        rcases Nat.lt_or_ge kk c with h1 | h1
        · exact h1
        · rw [if_neg (by omega)] at h; cases h
      rw [if_pos rfl]
      by_cases hc : c = 1
      · subst hc
        simp only [if_true]
        rw [look_cons, look_cons]
        by_cases hid : i = id'
        · subst hid
          simp only [if_true]
          have : kk = 0 := by omega
          subst this
          by_cases hk' : k' = 0
          · subst hk'; simp
          · simp [hk']
        · have : ¬ id' = i := fun h => hid h.symm
          simp [hid, this]
      · rw [if_neg hc, look_cons, look_cons]
        by_cases hid : i = id'
        · subst hid
          simp only [if_true, true_and]
          by_cases hk' : k' = kk
          · subst hk'; simp [hk]
          · simp [hk']
        · have : ¬ id' = i := fun h => hid h.symm
          simp [hid, this]
    · rw [if_neg hi] at h
      rw [if_neg hi, look_cons, look_cons]
      by_cases hid : i = id'
      · subst hid
        simp [hi]
      · simp only [hid, if_false]
        exact look_setO l id kk o o0 h id' k'

/-- An entry is struck. -/
def dropO : List (Nat × Nat × (Nat → Obj)) → Nat → List (Nat × Nat × (Nat → Obj))
  | [], _ => []
  | x :: l, id => if x.1 = id then dropO l id else x :: dropO l id

theorem look_dropO : ∀ (os : List (Nat × Nat × (Nat → Obj))) (id id' k : Nat), look (dropO os id) id' k = if id' = id then none else look os id' k
  | [], id, id', k => by simp [dropO, look, find]
  | (i, c, F) :: l, id, id', k => by
    simp only [dropO]
    have ih := look_dropO l id id' k
    by_cases h : i = id
    · subst h
      rw [if_pos rfl, ih, look_cons]
      by_cases h2 : id' = i
      · simp [h2]
      · simp [h2, show ¬ i = id' from fun e => h2 e.symm]
    · rw [if_neg h, look_cons, look_cons, ih]
      by_cases h2 : i = id'
      · subst h2; simp [h]
      · simp [h2]

theorem St.drop {X : Cx} {β : Env} {H : AH} {w : World} (hS : St X β H w) (id : Nat) (hid : X.m0 ≤ id) : St X β ⟨H.nxt, dropO H.os id⟩ w :=
  hS.less rfl (fun id' k o h => by
    rw [look_dropO] at h
    split at h
    · cases h
    · exact h) (fun id' k o hlt h _ => by rw [look_dropO, if_neg (by omega)]; exact h)

end Go.Sk
