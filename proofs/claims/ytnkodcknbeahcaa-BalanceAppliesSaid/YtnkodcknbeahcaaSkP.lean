/-
  A frame for walks, sixteenth part: a call by what the called function does.
  Conditions: none; definitions and lemmas over any program.
-/
import Derived.Test.YtnkodcknbeahcaaSkO
set_option linter.unusedSimpArgs false
set_option linter.unusedVariables false
namespace Go.Sk
open Go.RowKit

def Row.ren (ρ : Nat → Nat) (r : Row) : Row := { r with f := fun i => SV.renL ρ (r.f i) }
def Obj.ren (ρ : Nat → Nat) : Obj → Obj
  | .row r => .row (r.ren ρ)
  | o => o

def renOs (ρ : Nat → Nat) (os : List (Nat × Nat × (Nat → Obj))) : List (Nat × Nat × (Nat → Obj)) := os.map fun x => (ρ x.1, x.2.1, fun k => (x.2.2 k).ren ρ)

def dropIds : List Nat → List (Nat × Nat × (Nat → Obj)) → List (Nat × Nat × (Nat → Obj))
  | [], os => os
  | id :: l, os => dropIds l (dropO os id)

theorem look_dropIds : ∀ (l : List Nat) (os : List (Nat × Nat × (Nat → Obj))) (id k : Nat), look (dropIds l os) id k = if id ∈ l then none else look os id k
  | [], os, id, k => by simp [dropIds]
  | i :: l, os, id, k => by
    rw [dropIds, look_dropIds l, look_dropO]
    by_cases h : id = i
    · subst h; simp
    · simp [h]

theorem look_append : ∀ (a b : List (Nat × Nat × (Nat → Obj))) (id k : Nat), look (a ++ b) id k = if (find a id).isSome then look a id k else look b id k
  | [], b, id, k => by simp [find]
  | (i, c, F) :: a, b, id, k => by
    rw [List.cons_append, look_cons, look_cons, look_append a b]
    by_cases h : i = id
    · subst h; simp [find]
    · simp [h, find]

theorem Obj.ren_own (ρ : Nat → Nat) (o : Obj) : (o.ren ρ).own = o.own := by cases o <;> rfl

theorem Obj.ren_holds {ρ : Nat → Nat} {o : Obj} {β : Env} {w : World} {q : Option Loc} (h : o.holds (β.via ρ) w q) : (o.ren ρ).holds β w q := by
  cases o with
  | row r =>
    rcases h with h | ⟨L, hq, h1, h2, h3, h4⟩
    · exact .inl h
    · refine .inr ⟨L, hq, h1, h2, fun i hi => ?_, h4⟩
      obtain ⟨q1, q2⟩ := h3 i hi
      refine ⟨by show (SV.renL ρ (r.f i)).length = _; rw [renL_eq, List.length_map]; exact q1, fun j s hs => ?_⟩
      have hs' : (SV.renL ρ (r.f i))[j]? = some s := hs
      rw [renL_eq, List.getElem?_map, Option.map_eq_some_iff] at hs'
      obtain ⟨s0, hs0, rfl⟩ := hs'
      obtain ⟨a, v, b, c⟩ := q2 j s0 hs0
      exact ⟨by rw [scalar_ren]; exact a, v, b, (den_ren s0 v).2 c⟩
  | blk _ p => exact h

theorem Obj.ren_lt {ρ : Nat → Nat} {m m' : Nat} (h : ∀ id, id < m → ρ id < m') {o : Obj} (hl : o.lt m) : (o.ren ρ).lt m' := by
  cases o with
  | row r =>
    intro i j s hi hs
    have hs' : (SV.renL ρ (r.f i))[j]? = some s := hs
    rw [renL_eq, List.getElem?_map, Option.map_eq_some_iff] at hs'
    obtain ⟨s0, hs0, rfl⟩ := hs'
    exact lt_ren h s0 (hl i j s0 hi hs0)
  | blk _ _ => trivial

theorem find_renOs {ρ : Nat → Nat} : ∀ {os : List (Nat × Nat × (Nat → Obj))} {id : Nat} {x : Nat × (Nat → Obj)}, find (renOs ρ os) id = some x → ∃ id0 c F, (id0, c, F) ∈ os ∧ ρ id0 = id ∧ x = (c, fun k => (F k).ren ρ)
  | [], _, _, h => by simp [renOs, find] at h
  | (i, c, F) :: os, id, x, h => by
    simp only [renOs, List.map_cons, find] at h
    split at h
    · rename_i he
      cases h
      exact ⟨i, c, F, List.mem_cons_self .., he, rfl⟩
    · obtain ⟨id0, c', F', h1, h2, h3⟩ := find_renOs h
      exact ⟨id0, c', F', List.mem_cons_of_mem _ h1, h2, h3⟩

/-- Where names stay apart, a name is found where it stood. -/
theorem look_renOs {ρ : Nat → Nat} : ∀ {os : List (Nat × Nat × (Nat → Obj))} (_ : ∀ x ∈ os, ∀ y ∈ os, ρ x.1 = ρ y.1 → x.1 = y.1) {id0 k : Nat} {o : Obj}, look os id0 k = some o → look (renOs ρ os) (ρ id0) k = some (o.ren ρ)
  | [], _, _, _, _, h => by simp [look, find] at h
  | (i, c, F) :: os, hinj, id0, k, o, h => by
    simp only [renOs, List.map_cons]
    rw [look_cons] at h ⊢
    by_cases he : i = id0
    · subst he
      simp only [if_true] at h ⊢
      split at h
      · rename_i hk; cases h; rw [if_pos hk]
      · cases h
    · rw [if_neg he] at h
      have hne : ¬ ρ i = ρ id0 := fun hh => by
        obtain ⟨c', F', hf, _⟩ := look_find h
        exact he (hinj _ (List.mem_cons_self ..) _ (List.mem_cons_of_mem _ (find_mem hf)) hh)
      rw [if_neg hne]
      exact look_renOs (fun x hx y hy => hinj x (List.mem_cons_of_mem _ hx) y (List.mem_cons_of_mem _ hy)) h

theorem look_renOs_inv {ρ : Nat → Nat} {os : List (Nat × Nat × (Nat → Obj))} (hinj : ∀ x ∈ os, ∀ y ∈ os, ρ x.1 = ρ y.1 → x.1 = y.1) {id k : Nat} {o : Obj} (h : look (renOs ρ os) id k = some o) : ∃ id0 o0, ρ id0 = id ∧ look os id0 k = some o0 ∧ o = o0.ren ρ := by
  obtain ⟨c, F, hf, hk, rfl⟩ := look_find h
  obtain ⟨id0, c', F', hm, he, hx⟩ := find_renOs hf
  cases hx
  -- the entry that is found at id0
  have : ∀ {os : List (Nat × Nat × (Nat → Obj))}, (id0, c, F') ∈ os → (find (renOs ρ os) id = some (c, fun k => (F' k).ren ρ)) → (∀ x ∈ os, ∀ y ∈ os, ρ x.1 = ρ y.1 → x.1 = y.1) → ∃ o0, look os id0 k = some o0 ∧ ((F' k).ren ρ) = o0.ren ρ := by
    intro os
    induction os with
    | nil => intro h; cases h
    | cons y l ih =>
      obtain ⟨i, d, E⟩ := y
      intro hmem hfind hinj
      simp only [renOs, List.map_cons, find] at hfind
      rw [look_cons]
      by_cases hi : i = id0
      · subst hi
        rw [if_pos he] at hfind
        simp only [Option.some.injEq, Prod.mk.injEq] at hfind
        obtain ⟨rfl, hE⟩ := hfind
        rw [if_pos rfl, if_pos hk]
        exact ⟨_, rfl, (congrFun hE k).symm⟩
      · rw [if_neg hi]
        have hne : ¬ ρ i = id := fun hh => hi (hinj _ (List.mem_cons_self ..) _ hmem (hh.trans he.symm))
        rw [if_neg hne] at hfind
        cases hmem with
        | head => exact absurd rfl hi
        | tail _ hmem => exact ih hmem hfind (fun x hx y hy => hinj x (List.mem_cons_of_mem _ hx) y (List.mem_cons_of_mem _ hy))
  obtain ⟨o0, h1, h2⟩ := this hm hf hinj
  exact ⟨id0, o0, he, h1, h2⟩

/-- The caller's name of a callee's object. -/
def cren (m0 nxt : Nat) (ρ : Nat → Nat) (id : Nat) : Nat := if id < m0 then ρ id else id - m0 + nxt

/-- The ids of the caller's that the callee owns. -/
def ownIds (ρ : Nat → Nat) : List (Nat × Nat × (Nat → Obj)) → List Nat
  | [] => []
  | x :: l => if (x.2.2 0).own then ρ x.1 :: ownIds ρ l else ownIds ρ l

theorem mem_ownIds {ρ : Nat → Nat} : ∀ {os : List (Nat × Nat × (Nat → Obj))} {id : Nat}, id ∈ ownIds ρ os ↔ ∃ x ∈ os, (x.2.2 0).own = true ∧ ρ x.1 = id
  | [], id => by simp [ownIds]
  | x :: l, id => by
    simp only [ownIds, List.mem_cons]
    have ih := mem_ownIds (ρ := ρ) (os := l) (id := id)
    split
    · rename_i h
      simp only [List.mem_cons, ih]
      exact ⟨fun hh => hh.elim (fun e => ⟨x, .inl rfl, h, e.symm⟩) (fun ⟨y, hy, q⟩ => ⟨y, .inr hy, q⟩), fun ⟨y, hy, q1, q2⟩ => hy.elim (fun e => .inl (e ▸ q2.symm)) (fun hy => .inr ⟨y, hy, q1, q2⟩)⟩
    · rename_i h
      rw [ih]
      exact ⟨fun ⟨y, hy, q⟩ => ⟨y, .inr hy, q⟩, fun ⟨y, hy, q1, q2⟩ => hy.elim (fun e => absurd (e ▸ q1) h) (fun hy => ⟨y, hy, q1, q2⟩)⟩

/-- The caller's knowledge behind the call. -/
def after (m0 : Nat) (ρ : Nat → Nat) (H0 H : AH) (H' : AH) : AH := ⟨H.nxt + (H'.nxt - m0), renOs (cren m0 H.nxt ρ) H'.os ++ dropIds (ownIds ρ H0.os) H.os⟩

theorem find_of_mem : ∀ {os : List (Nat × Nat × (Nat → Obj))}, (os.map (·.1)).Nodup → ∀ {id : Nat} {x : Nat × (Nat → Obj)}, (id, x) ∈ os → find os id = some x
  | [], _, _, _, h => by cases h
  | (i, y) :: l, hn, id, x, h => by
    simp only [List.map_cons, List.nodup_cons] at hn
    simp only [find]
    cases h with
    | head => rw [if_pos rfl]
    | tail _ h =>
      have : i ≠ id := fun he => hn.1 (List.mem_map.2 ⟨_, h, he.symm⟩)
      rw [if_neg this]
      exact find_of_mem hn.2 h

theorem FSpec.call {P : Program} {f : FuncId} {args0 : List SV} {H0 : AH} {R : SV → AH → Prop} (hF : FSpec P f args0 H0 R) (ρ : Nat → Nat) {H : AH}
    (hl0 : SV.ltL H0.nxt args0) (hρ : (List.range H0.nxt).all (fun id => decide (ρ id < H.nxt)) = true) (hg : HGives ρ H0.nxt H.os H0.os) (hinj : injB ρ H0.os = true) (hu : ownU H0.os)
    (hnd : (H0.os.map (·.1)).Nodup) (hcnt : ∀ x ∈ H0.os, (x.2.2 0).own = true → (find H.os (ρ x.1)).map (·.1) = some x.2.1) :
    ASpec P f (SV.renL ρ args0) H (ownIds ρ H0.os) (fun s H'' => ∃ s0 H', R s0 H' ∧ s = s0.ren (cren H0.nxt H.nxt ρ) ∧ H'' = after H0.nxt ρ H0 H H') := by
  refine ⟨hF.1, fun X β w vs hP hS hd hlt => ?_⟩
  subst hP
  have hρ' : ∀ id, id < H0.nxt → ρ id < H.nxt := fun id hid => by simpa using List.all_eq_true.1 hρ id (List.mem_range.2 hid)
  have hinj' := InjOn.of hinj hu
  let Y : Cx := ⟨X.P, 0, w, fun id k => ∃ o, look H0.os id k = some o ∧ o.own = true, H0.nxt, β.via ρ, false⟩
  have hY : St Y (β.via ρ) H0 w := by
    refine ⟨rfl, rfl, rfl, Nat.le_refl _, fun _ _ _ => rfl, fun id k o h => ?_, fun id k id' k' o o' L L' h h' ho hb hb' he => ?_, fun _ _ _ => rfl, fun id k o L h ho _ => .inl ⟨(hg.look h).1, o, h, ho⟩, fun id k ho => ?_, Nat.le_refl _, fun id k o h => ⟨(hg.look h).1, (hg.look h).2.1⟩⟩
    · obtain ⟨_, _, o0, h1, h2⟩ := hg.look h
      exact objGives_holds h2 (hS.holds _ _ _ h1)
    · obtain ⟨_, _, o0, h1, h2⟩ := hg.look h
      obtain ⟨_, _, o1, h3, h4⟩ := hg.look h'
      have := hS.sep _ _ _ _ _ _ _ _ h1 h3 (objGives_own h2 ho) hb hb' he
      exact ⟨hinj' _ _ _ _ _ _ h h' ho this.1, this.2⟩
    · obtain ⟨o, h, ho'⟩ := ho
      exact ⟨(hg.look h).1, o, h, ho'⟩
  refine (hF.2 Y (β.via ρ) w vs rfl rfl rfl rfl rfl hY ((denL_ren _ _).1 hd) hl0).mono ?_
  rintro e w' ⟨v, rfl, β', s0, H', hR, hown, hds, hsl, hS'⟩
  let τ := cren H0.nxt H.nxt ρ
  let γ : Env := fun id k => if id < H.nxt then β id k else β' (id - H.nxt + H0.nxt) k
  have hnx : H0.nxt ≤ H'.nxt := hS'.m0
  -- the callee's objects, under the caller's names, lie where they lay
  have hγ : γ.via τ = β' := by
    funext id k
    show γ (τ id) k = β' id k
    simp only [τ, cren]
    split
    · rename_i h
      simp only [γ]
      rw [if_pos (hρ' id h)]
      exact (hS'.fix id k h).symm
    · rename_i h
      simp only [γ]
      rw [if_neg (by omega)]
      congr 1; omega
  have hag : Env.agree H.nxt β γ := fun id k h => by simp only [γ]; rw [if_pos h]
  have hown' : ∀ id k o, look H'.os id k = some o → o.own = true := fun id k o h => by
    obtain ⟨c, F, hf, _, rfl⟩ := look_find h
    exact (hown _ (find_mem hf)).1 k
  -- an owned object of the callee's that was handed in
  have hpar : ∀ id k o, look H'.os id k = some o → id < H0.nxt → ∀ L, β' id k = some L → ∃ o0, look H0.os id k = some o0 ∧ o0.own = true ∧ ∃ o1, look H.os (ρ id) k = some o1 ∧ o1.own = true ∧ β (ρ id) k = some L := fun id k o h hlt2 L hb => by
    rcases hS'.mine _ _ _ _ h (hown' _ _ _ h) hb with ⟨_, o0, h1, h2⟩ | ⟨h1, _⟩
    · obtain ⟨_, _, o1, h3, h4⟩ := hg.look h1
      exact ⟨o0, h1, h2, o1, h3, objGives_own h4 h2, by rw [hS'.fix id k hlt2] at hb; exact hb⟩
    · have : Y.m0 = H0.nxt := rfl
      omega
  have hnew : ∀ id k o, look H'.os id k = some o → H0.nxt ≤ id → ∀ L, β' id k = some L → w.heap.size ≤ L.blk := fun id k o h hge L hb => by
    rcases hS'.mine _ _ _ _ h (hown' _ _ _ h) hb with ⟨h1, _⟩ | ⟨_, h1⟩
    · have : Y.m0 = H0.nxt := rfl
      omega
    · exact h1
  have hentry : ∀ x ∈ H'.os, x.1 < H0.nxt → ρ x.1 ∈ ownIds ρ H0.os ∧ ∃ y ∈ H0.os, y.1 = x.1 ∧ y.2.1 = x.2.1 ∧ (y.2.2 0).own = true := fun x hx hlt2 => by
    rcases (hown x hx).2 with h | ⟨y, hy, he, hc, ho⟩
    · omega
    · exact ⟨mem_ownIds.2 ⟨y, hy, ho, by rw [he]⟩, y, hy, he, hc, ho⟩
  have hτinj : ∀ x ∈ H'.os, ∀ y ∈ H'.os, τ x.1 = τ y.1 → x.1 = y.1 := fun x hx y hy he => by
    simp only [τ, cren] at he
    split at he
    · rename_i h1
      split at he
      · rename_i h2
        obtain ⟨_, x0, hx0, ex, _, ox⟩ := hentry x hx h1
        obtain ⟨_, y0, hy0, ey, _, oy⟩ := hentry y hy h2
        have q := List.all_eq_true.1 (List.all_eq_true.1 hinj x0 hx0) y0 hy0
        simp only [ox, Bool.not_true, Bool.false_or, Bool.or_eq_true, beq_iff_eq, Bool.not_eq_true', beq_eq_false_iff_ne, ne_eq] at q
        rw [ex, ey] at q
        rcases q with q | q
        · exact q
        · exact absurd he q
      · have := hρ' x.1 h1
        omega
    · rename_i h1
      split at he
      · rename_i h2
        have := hρ' y.1 h2
        omega
      · omega
  have hp : ∀ b, b < w.heap.size → ¬ inW β H (ownIds ρ H0.os) b → w'.heap[b]? = w.heap[b]? := fun b hb hn => by
    refine hS'.old b hb fun id k o L h _ hbb he => hn ?_
    by_cases hlt2 : id < H0.nxt
    · obtain ⟨o0, h1, h2, o1, h3, h4, h5⟩ := hpar id k o h hlt2 L hbb
      obtain ⟨c, F, hf, hk, rfl⟩ := look_find h1
      refine ⟨ρ id, k, o1, L, mem_ownIds.2 ⟨_, find_mem hf, ?_, rfl⟩, h3, h4, h5, he⟩
      rw [← hu _ (find_mem hf) k]; exact h2
    · have := hnew id k o h (by omega) L hbb
      omega
  -- what is looked up in the caller's new knowledge
  have hfr : ∀ id k o, look (renOs τ H'.os ++ dropIds (ownIds ρ H0.os) H.os) id k = some o →
      (∃ id0 o0, τ id0 = id ∧ look H'.os id0 k = some o0 ∧ o = o0.ren τ) ∨ (id ∉ ownIds ρ H0.os ∧ look H.os id k = some o ∧ id < H.nxt) := fun id k o h => by
    rw [look_append] at h
    split at h
    · exact .inl (look_renOs_inv hτinj h)
    · rw [look_dropIds] at h
      split at h
      · cases h
      · exact .inr ⟨by assumption, h, (hS.lt _ _ _ h).1⟩
  have hbk : ∀ id0 k o0, look H'.os id0 k = some o0 → look (renOs τ H'.os ++ dropIds (ownIds ρ H0.os) H.os) (τ id0) k = some (o0.ren τ) := fun id0 k o0 h => by
    have := look_renOs hτinj h
    rw [look_append]
    obtain ⟨c, F, hf, _⟩ := look_find this
    rw [if_pos (by rw [hf]; rfl)]
    exact this
  have hbk2 : ∀ id k o, id ∉ ownIds ρ H0.os → look H.os id k = some o → look (renOs τ H'.os ++ dropIds (ownIds ρ H0.os) H.os) id k = some o := fun id k o hn h => by
    rw [look_append]
    split
    · rename_i hs
      exfalso
      obtain ⟨x, hx⟩ := Option.isSome_iff_exists.1 hs
      obtain ⟨id0, c, F, hm, he, _⟩ := find_renOs hx
      have hlt3 := (hS.lt _ _ _ h).1
      by_cases hlt2 : id0 < H0.nxt
      · have := (hentry _ hm hlt2).1
        have he2 : ρ id0 = id := by simpa [τ, cren, hlt2] using he
        rw [he2] at this
        exact hn this
      · have he2 : id0 - H0.nxt + H.nxt = id := by simpa [τ, cren, hlt2] using he
        omega
    · rw [look_dropIds, if_neg hn]
      exact h
  have hτlt : ∀ id, id < H'.nxt → τ id < H.nxt + (H'.nxt - H0.nxt) := fun id h => by
    simp only [τ, cren]
    split
    · rename_i h2
      have := hρ' id h2
      omega
    · omega
  have hγo : ∀ id k, id < H.nxt → γ id k = β id k := fun id k h => by simp only [γ]; rw [if_pos h]
  have hγn : ∀ id k, γ (τ id) k = β' id k := fun id k => congrFun (congrFun hγ id) k
  have hblk : ∀ b, (¬ inW β H (ownIds ρ H0.os) b) → b < w.heap.size → w'.heap[b]? = w.heap[b]? := fun b h1 h2 => hp b h2 h1
  have holdW : ∀ id k o L, id ∉ ownIds ρ H0.os → look H.os id k = some o → β id k = some L → ¬ inW β H (ownIds ρ H0.os) L.blk := fun id k o L hn h hb ⟨id2, k2, o2, L2, q1, q2, q3, q4, q5⟩ => by
    have := (hS.sep _ _ _ _ _ _ _ _ q2 h q3 q4 hb q5).1
    rw [this] at q1
    exact hn q1
  -- of a callee's object and an old one: the blocks differ
  have hdiff : ∀ id0 k0 o0 L0, look H'.os id0 k0 = some o0 → β' id0 k0 = some L0 → ∀ id k o L, id ∉ ownIds ρ H0.os → look H.os id k = some o → β id k = some L → L0.blk ≠ L.blk := fun id0 k0 o0 L0 h0 hb0 id k o L hn h hb he => by
    by_cases hlt2 : id0 < H0.nxt
    · obtain ⟨o1, h1, h2, o2, h3, h4, h5⟩ := hpar id0 k0 o0 h0 hlt2 L0 hb0
      have := (hS.sep _ _ _ _ _ _ _ _ h3 h h4 h5 hb he).1
      obtain ⟨c, F, hf, _, rfl⟩ := look_find h1
      refine hn (mem_ownIds.2 ⟨_, find_mem hf, ?_, this⟩)
      rw [← hu _ (find_mem hf) k0]; exact h2
    · have h1 := hnew id0 k0 o0 h0 (by omega) L0 hb0
      have h2 := hS.blk_lt h hb
      omega
  -- what the callee owns of the caller's, it still has
  have hcov : ∀ id k o, look H.os id k = some o → id ∈ ownIds ρ H0.os → ∃ id0, id0 < H0.nxt ∧ ρ id0 = id ∧ ∃ o2, look H'.os id0 k = some o2 := fun id k o h hm => by
    obtain ⟨⟨xi, xc, xF⟩, hx, hxo, hxe⟩ := mem_ownIds.1 hm
    have hc := hcnt _ hx hxo
    obtain ⟨c, F, hf, hk, rfl⟩ := look_find h
    simp only at hxe
    simp only [hxe, hf, Option.map_some, Option.some.injEq] at hc
    have hfx : find H0.os xi = some (xc, xF) := find_of_mem hnd hx
    have hl1 : look H0.os xi k = some (xF k) := look_of_find hfx (by omega)
    obtain ⟨hlt3, o2, hl2, _⟩ := hS'.keep xi k ⟨_, hl1, by have := hu _ hx k; simp only at this hxo; rw [this]; exact hxo⟩
    exact ⟨xi, hlt3, hxe, o2, hl2⟩
  refine ⟨v, rfl, ⟨γ, s0.ren τ, after H0.nxt ρ H0 H H', ⟨s0, H', hR, rfl, rfl⟩, ?_, ?_, ?_, hag, ?_, ?_⟩, ⟨hS'.size, fun b h1 h2 => hp b h1 h2⟩⟩
  · rw [den_ren, hγ]; exact hds
  · exact lt_ren hτlt s0 hsl
  · refine ⟨hS'.os.trans hS.os, hS'.tape.trans hS.tape, hS'.output.trans hS.output, Nat.le_trans hS.size hS'.size, fun id k h => ?_, fun id k o h => ?_, fun id k id' k' o o' L L' h h' ho hb hb' he => ?_, fun b hb hn => ?_, fun id k o L h ho hb => ?_, fun id k ho => ?_, ?_, fun id k o h => ?_⟩
    · have := hS.m0
      rw [hγo id k (by omega)]; exact hS.fix id k h
    · rcases hfr _ _ _ h with ⟨id0, o0, rfl, h1, rfl⟩ | ⟨hn, h1, hlt2⟩
      · rw [hγn]
        exact Obj.ren_holds (by rw [hγ]; exact hS'.holds _ _ _ h1)
      · rw [hγo id k hlt2]
        have := ((hS.holds _ _ _ h1).agree hag (hS.lt _ _ _ h1).2)
        exact this.mono hS'.size fun L hL hl => hp _ hl (holdW _ _ _ _ hn h1 hL)
    · rcases hfr _ _ _ h with ⟨id0, o0, rfl, h1, rfl⟩ | ⟨hn, h1, hlt2⟩
      · rw [hγn] at hb
        rcases hfr _ _ _ h' with ⟨id0', o0', rfl, h1', rfl⟩ | ⟨hn', h1', hlt2'⟩
        · rw [hγn] at hb'
          have := hS'.sep _ _ _ _ _ _ _ _ h1 h1' (hown' _ _ _ h1) hb hb' he
          exact ⟨by rw [this.1], this.2⟩
        · rw [hγo _ _ hlt2'] at hb'
          exact absurd he (hdiff _ _ _ _ h1 hb _ _ _ _ hn' h1' hb')
      · rw [hγo _ _ hlt2] at hb
        rcases hfr _ _ _ h' with ⟨id0', o0', rfl, h1', rfl⟩ | ⟨hn', h1', hlt2'⟩
        · rw [hγn] at hb'
          exact absurd he.symm (hdiff _ _ _ _ h1' hb' _ _ _ _ hn h1 hb)
        · rw [hγo _ _ hlt2'] at hb'
          exact hS.sep _ _ _ _ _ _ _ _ h1 h1' ho hb hb' he
    · have hbw : b < w.heap.size := Nat.lt_of_lt_of_le hb hS.size
      have hno : ∀ id k o L, look H.os id k = some o → o.own = true → β id k = some L → L.blk ≠ b := fun id k o L h ho hbb he => by
        have hlt2 := (hS.lt _ _ _ h).1
        by_cases hm : id ∈ ownIds ρ H0.os
        · obtain ⟨id0, h1, h2, o2, h3⟩ := hcov id k o h hm
          have hb2 : β' id0 k = some L := by
            rw [hS'.fix id0 k h1]
            show β (ρ id0) k = some L
            rw [h2]; exact hbb
          refine hn _ _ _ L (hbk _ _ _ h3) ?_ (by rw [hγn]; exact hb2) he
          rw [Obj.ren_own]; exact hown' _ _ _ h3
        · exact hn _ _ _ L (hbk2 _ _ _ hm h) ho (by rw [hγo _ _ hlt2]; exact hbb) he
      rw [hp b hbw (fun ⟨id2, k2, o2, L2, q1, q2, q3, q4, q5⟩ => hno _ _ _ _ q2 q3 q4 q5)]
      exact hS.old b hb hno
    · rcases hfr _ _ _ h with ⟨id0, o0, rfl, h1, rfl⟩ | ⟨hn, h1, hlt2⟩
      · rw [hγn] at hb
        by_cases hlt2 : id0 < H0.nxt
        · obtain ⟨o1, q1, q2, o2, q3, q4, q5⟩ := hpar id0 k o0 h1 hlt2 L hb
          have he : τ id0 = ρ id0 := by simp [τ, cren, hlt2]
          rw [he]
          exact hS.mine _ _ _ _ q3 q4 q5
        · have h3 := hnew id0 k o0 h1 (by omega) L hb
          have he : τ id0 = id0 - H0.nxt + H.nxt := by simp [τ, cren, hlt2]
          have := hS.m0
          have := hS.size
          exact .inr ⟨by rw [he]; omega, by omega⟩
      · rw [hγo _ _ hlt2] at hb
        exact hS.mine _ _ _ _ h1 ho hb
    · obtain ⟨h1, o, h2, h3⟩ := hS.keep id k ho
      refine ⟨h1, ?_⟩
      by_cases hm : id ∈ ownIds ρ H0.os
      · obtain ⟨id0, h4, h5, o2, h6⟩ := hcov id k o h2 hm
        have he : τ id0 = id := by simp [τ, cren, h4, h5]
        exact ⟨_, he ▸ hbk _ _ _ h6, by rw [Obj.ren_own]; exact hown' _ _ _ h6⟩
      · exact ⟨o, hbk2 _ _ _ hm h2, h3⟩
    · have := hS.m0
      show X.m0 ≤ H.nxt + _
      omega
    · rcases hfr _ _ _ h with ⟨id0, o0, rfl, h1, rfl⟩ | ⟨hn, h1, hlt2⟩
      · have := hS'.lt _ _ _ h1
        exact ⟨hτlt _ this.1, Obj.ren_lt hτlt this.2⟩
      · have := hS.lt _ _ _ h1
        refine ⟨by show id < H.nxt + _; omega, ?_⟩
        cases o with
        | row r => exact fun i j s hi hs => SV.lt_mono (by show H.nxt ≤ H.nxt + _; omega) s (this.2 i j s hi hs)
        | blk _ _ => trivial
  · show H.nxt ≤ H.nxt + _
    omega
  · intro id k o hlt2 h ho
    rcases hfr _ _ _ h with ⟨id0, o0, he, h1, rfl⟩ | ⟨hn, h1, _⟩
    · by_cases hlt3 : id0 < H0.nxt
      · obtain ⟨c, F, hf, hk, rfl⟩ := look_find h1
        obtain ⟨_, ⟨yi, yc, yF⟩, hy, hy1, hy2, hy3⟩ := hentry _ (find_mem hf) hlt3
        simp only at hy1 hy2 hy3
        have hfy : find H0.os yi = some (yc, yF) := find_of_mem hnd hy
        have hly : look H0.os yi k = some (yF k) := look_of_find hfy (by omega)
        obtain ⟨_, _, o1, q1, q2⟩ := hg.look hly
        have he2 : ρ id0 = id := by simpa [τ, cren, hlt3] using he
        rw [hy1, he2] at q1
        exact ⟨o1, q1, objGives_own q2 (by have := hu _ hy k; simp only at this; rw [this]; exact hy3)⟩
      · have he2 : id0 - H0.nxt + H.nxt = id := by simpa [τ, cren, hlt3] using he
        omega
    · exact ⟨o, h1, ho⟩

end Go.Sk
