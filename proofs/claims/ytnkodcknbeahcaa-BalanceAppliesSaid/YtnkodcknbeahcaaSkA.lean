/-
  A frame for walks: symbolic values, objects of the call's own, and what they say of the model's world.
  Conditions: none; a library of definitions and lemmas over any program.
-/
import Derived.WalkKit
import Derived.OrdersHeld
set_option linter.unusedSimpArgs false
set_option linter.unusedVariables false
namespace Go.Sk
open Go.RowKit

/-- Symbolic values. An object is named by two numbers (id, k); its place in memory is given by an environment. -/
inductive SV where
  | int (k : IntKind) (n : Int)
  | bool (b : Bool)
  | str (s : ByteArray)
  | nilp
  | nils
  | ptr (id k i j : Nat)
  | slc (g : Bool) (id k o n : Nat)
  | mp (id k : Nat)
  | fn (f : FuncId) (cap : List SV)
  | nilfn
  | agg (l : List SV)
  | tup (l : List SV)
  | gd (g : Bool) (s : SV)
  | raw (v : Value)
  deriving Inhabited

structure Loc where
  blk : Nat
  off : Nat
  sz : Nat
  cap : Nat

abbrev Env := Nat → Nat → Option Loc

def slcDen (β : Env) (g : Bool) (id k o n : Nat) (v : Value) : Prop :=
  if g then (β id k = none ∧ n = 0 ∧ o = 0 ∧ v = .slice none 0 0) ∨ ∃ L, β id k = some L ∧ o = 0 ∧ L.off = 0 ∧ n ≤ L.cap ∧ v = .slice (some ⟨L.blk, 0, none⟩) n L.cap
  else ∃ a c, v = .slice a n c ∧ n ≤ c ∧ (0 < n → ∃ L, β id k = some L ∧ a = some ⟨L.blk, L.off + o * L.sz, none⟩)

mutual
def den (β : Env) : SV → Value → Prop
  | .int k n, v => v = .int k n
  | .bool b, v => v = .bool b
  | .str s, v => v = .string s
  | .nilp, v => v = .pointer none
  | .nils, v => v = .slice none 0 0
  | .ptr id k i j, v => ∃ L, β id k = some L ∧ v = .pointer (some ⟨L.blk, L.off + i * L.sz + j, none⟩)
  | .slc g id k o n, v => slcDen β g id k o n v
  | .mp id k, v => ∃ L, β id k = some L ∧ v = .map (some L.blk)
  | .fn f cap, v => ∃ vs, denL β cap vs ∧ v = .func (.func f) #[] vs.toArray
  | .nilfn, v => v = .nilFunc
  | .agg l, v => ∃ vs, denL β l vs ∧ v = .agg vs.toArray
  | .tup l, v => ∃ vs, denL β l vs ∧ v = .tuple vs.toArray
  | .gd g s, v => (g = true → den β s v) ∧ (g = false → v = undef)
  | .raw u, v => v = u
def denL (β : Env) : List SV → List Value → Prop
  | [], vs => vs = []
  | s :: l, vs => ∃ v r, den β s v ∧ denL β l r ∧ vs = v :: r
end

mutual
/-- All ids that are mentioned are below m. -/
def SV.lt (m : Nat) : SV → Prop
  | .ptr id _ _ _ => id < m
  | .slc _ id _ _ _ => id < m
  | .mp id _ => id < m
  | .fn _ l => SV.ltL m l
  | .agg l => SV.ltL m l
  | .tup l => SV.ltL m l
  | .gd g s => g = true → SV.lt m s
  | _ => True
def SV.ltL (m : Nat) : List SV → Prop
  | [] => True
  | s :: l => SV.lt m s ∧ SV.ltL m l
end

/-- The value of one cell. -/
def SV.scalar : SV → Bool
  | .agg _ | .tup _ | .gd .. => false
  | .raw v => v.oneCell'
  | _ => true

def SV.cells : SV → List SV
  | .agg l => l
  | s => [s]

theorem denL_length {β : Env} : ∀ {l : List SV} {vs : List Value}, denL β l vs → vs.length = l.length
  | [], vs, h => by simp only [denL] at h; subst h; rfl
  | s :: l, vs, h => by
    simp only [denL] at h
    obtain ⟨v, r, _, hr, rfl⟩ := h
    simp [denL_length hr]

theorem denL_get {β : Env} : ∀ {l : List SV} {vs : List Value}, denL β l vs → ∀ (j : Nat) (s : SV), l[j]? = some s → ∃ v, vs[j]? = some v ∧ den β s v
  | [], _, _, j, s, hs => by simp at hs
  | s0 :: l, vs, h, j, s, hs => by
    simp only [denL] at h
    obtain ⟨v, r, hv, hr, rfl⟩ := h
    cases j with
    | zero => simp at hs; subst hs; exact ⟨v, by simp, hv⟩
    | succ j => simp at hs; simpa using denL_get hr j s hs

theorem denL_mk {β : Env} : ∀ (l : List SV) (f : Nat → Value), (∀ (j : Nat) (s : SV), l[j]? = some s → den β s (f j)) → denL β l ((List.range l.length).map f)
  | [], _, _ => by simp [denL]
  | s :: l, f, h => by
    simp only [denL, List.length_cons]
    refine ⟨f 0, (List.range l.length).map (fun j => f (j + 1)), h 0 s (by simp), denL_mk l _ (fun j s' hs => h (j + 1) s' (by simpa using hs)), ?_⟩
    rw [List.range_succ_eq_map, List.map_cons, List.map_map]
    rfl

theorem denL_append {β : Env} : ∀ {l l' : List SV} {vs vs' : List Value}, denL β l vs → denL β l' vs' → denL β (l ++ l') (vs ++ vs')
  | [], _, vs, _, h, h' => by simp only [denL] at h; subst h; simpa using h'
  | s :: l, l', vs, vs', h, h' => by
    simp only [denL] at h
    obtain ⟨v, r, hv, hr, rfl⟩ := h
    exact ⟨v, r ++ vs', hv, denL_append hr h', rfl⟩

theorem den_scalar {β : Env} {s : SV} {v : Value} (hs : s.scalar = true) (h : den β s v) : v.oneCell' = true := by
  cases s <;> simp only [den, SV.scalar, Bool.false_eq_true, slcDen] at h hs
  case int => subst h; rfl
  case bool => subst h; rfl
  case str => subst h; rfl
  case nilp => subst h; rfl
  case nils => subst h; rfl
  case ptr => obtain ⟨L, _, rfl⟩ := h; rfl
  case slc g id k o n =>
    cases g
    · simp only [Bool.false_eq_true, if_false] at h; obtain ⟨a, c, rfl, _⟩ := h; rfl
    · simp only [if_true] at h; rcases h with ⟨_, _, _, rfl⟩ | ⟨L, _, _, _, _, rfl⟩ <;> rfl
  case mp => obtain ⟨L, _, rfl⟩ := h; rfl
  case fn => obtain ⟨vs, _, rfl⟩ := h; rfl
  case nilfn => subst h; rfl
  case raw => subst h; exact hs

/-! ### Environments that agree below a number -/
def Env.agree (m : Nat) (β β' : Env) : Prop := ∀ id k, id < m → β' id k = β id k

mutual
theorem den_agree {m : Nat} {β β' : Env} (hb : Env.agree m β β') : ∀ (s : SV) (v : Value), s.lt m → den β s v → den β' s v
  | .int .., _, _, h => h
  | .bool _, _, _, h => h
  | .str _, _, _, h => h
  | .nilp, _, _, h => h
  | .nils, _, _, h => h
  | .nilfn, _, _, h => h
  | .raw _, _, _, h => h
  | .ptr id k i j, v, hl, h => by
    simp only [den, SV.lt] at *
    rw [hb id k hl]; exact h
  | .slc g id k o n, v, hl, h => by
    simp only [den, SV.lt, slcDen] at *
    rw [hb id k hl]; exact h
  | .mp id k, v, hl, h => by
    simp only [den, SV.lt] at *
    rw [hb id k hl]; exact h
  | .fn f l, v, hl, h => by
    simp only [den, SV.lt] at *
    obtain ⟨vs, hvs, e⟩ := h
    exact ⟨vs, denL_agree hb l vs hl hvs, e⟩
  | .agg l, v, hl, h => by
    simp only [den, SV.lt] at *
    obtain ⟨vs, hvs, e⟩ := h
    exact ⟨vs, denL_agree hb l vs hl hvs, e⟩
  | .tup l, v, hl, h => by
    simp only [den, SV.lt] at *
    obtain ⟨vs, hvs, e⟩ := h
    exact ⟨vs, denL_agree hb l vs hl hvs, e⟩
  | .gd g s, v, hl, h => by
    simp only [den, SV.lt] at *
    exact ⟨fun hg => den_agree hb s v (hl hg) (h.1 hg), h.2⟩
theorem denL_agree {m : Nat} {β β' : Env} (hb : Env.agree m β β') : ∀ (l : List SV) (vs : List Value), SV.ltL m l → denL β l vs → denL β' l vs
  | [], _, _, h => h
  | s :: l, vs, hl, h => by
    simp only [denL, SV.ltL] at *
    obtain ⟨v, r, hv, hr, e⟩ := h
    exact ⟨v, r, den_agree hb s v hl.1 hv, denL_agree hb l r hl.2 hr, e⟩
end

mutual
theorem SV.lt_mono {m m' : Nat} (h : m ≤ m') : ∀ (s : SV), s.lt m → s.lt m'
  | .int .., _ => trivial
  | .bool _, _ => trivial
  | .str _, _ => trivial
  | .nilp, _ => trivial
  | .nils, _ => trivial
  | .nilfn, _ => trivial
  | .raw _, _ => trivial
  | .ptr .., hl => Nat.lt_of_lt_of_le hl h
  | .slc .., hl => Nat.lt_of_lt_of_le hl h
  | .mp .., hl => Nat.lt_of_lt_of_le hl h
  | .fn _ l, hl => SV.ltL_mono h l hl
  | .agg l, hl => SV.ltL_mono h l hl
  | .tup l, hl => SV.ltL_mono h l hl
  | .gd _ s, hl => fun hg => SV.lt_mono h s (hl hg)
theorem SV.ltL_mono {m m' : Nat} (h : m ≤ m') : ∀ (l : List SV), SV.ltL m l → SV.ltL m' l
  | [], _ => trivial
  | s :: l, hl => ⟨SV.lt_mono h s hl.1, SV.ltL_mono h l hl.2⟩
end

theorem SV.ltL_get {m : Nat} : ∀ {l : List SV}, SV.ltL m l → ∀ (j : Nat) (s : SV), l[j]? = some s → s.lt m
  | [], _, j, s, hs => by simp at hs
  | s0 :: l, h, j, s, hs => by
    cases j with
    | zero => simp at hs; subst hs; exact h.1
    | succ j => simp at hs; exact SV.ltL_get h.2 j s hs

theorem SV.ltL_of_get {m : Nat} : ∀ {l : List SV}, (∀ (j : Nat) (s : SV), l[j]? = some s → s.lt m) → SV.ltL m l
  | [], _ => trivial
  | s0 :: l, h => ⟨h 0 s0 (by simp), SV.ltL_of_get fun j s hs => h (j + 1) s (by simpa using hs)⟩

/-! ### Objects -/
/-- A row of n elements of sz cells each. -/
structure Row where
  own : Bool
  /-- one variable: n is 1 -/
  var : Bool := false
  e : TypeId
  sz : Nat
  n : Nat
  f : Nat → List SV

inductive Obj where
  | row (r : Row)
  /-- A block that is known by a predicate on what lies there. -/
  | blk (own : Bool) (p : Go.Obj → Prop)

def Obj.own : Obj → Bool
  | .row r => r.own
  | .blk o _ => o

def Row.cellsOk (r : Row) (β : Env) (w : World) (L : Loc) : Prop :=
  ∀ i, i < r.n → (r.f i).length = r.sz ∧ ∀ (j : Nat) (s : SV), (r.f i)[j]? = some s → s.scalar = true ∧ ∃ v, w.cell? ⟨L.blk, L.off + i * L.sz + j, none⟩ = some v ∧ den β s v

def Row.holds (r : Row) (β : Env) (w : World) (q : Option Loc) : Prop :=
  (r.n = 0 ∧ q = none) ∨ ∃ L, q = some L ∧ L.sz = r.sz ∧ L.blk < w.heap.size ∧ r.cellsOk β w L ∧
    (r.own = true → L.off = 0 ∧ r.n ≤ L.cap ∧ L.cap ≤ maxLen ∧ ∃ cur : Array Value, w.heap[L.blk]? = some (.cells cur r.e (0, 0)) ∧ cur.size = L.cap * r.sz)

def Obj.holds (o : Obj) (β : Env) (w : World) (q : Option Loc) : Prop :=
  match o with
  | .row r => r.holds β w q
  | .blk _ p => ∃ L b, q = some L ∧ w.heap[L.blk]? = some b ∧ p b

def Obj.lt (m : Nat) : Obj → Prop
  | .row r => ∀ (i j : Nat) (s : SV), i < r.n → (r.f i)[j]? = some s → s.lt m
  | .blk _ _ => True

/-- What is known: a list of families of objects; every id that is mentioned is below nxt. -/
structure AH where
  nxt : Nat
  os : List (Nat × Nat × (Nat → Obj))

def find : List (Nat × Nat × (Nat → Obj)) → Nat → Option (Nat × (Nat → Obj))
  | [], _ => none
  | (i, x) :: l, id => if i = id then some x else find l id

def look (os : List (Nat × Nat × (Nat → Obj))) (id k : Nat) : Option Obj :=
  match find os id with
  | some (c, F) => if k < c then some (F k) else none
  | none => none

/-- One object. -/
abbrev one (o : Obj) : Nat × (Nat → Obj) := (1, fun _ => o)

/-- What a call is about: the program, the number of slots, the world at its beginning, the objects of that world that it may write, and what does not change. -/
structure Cx where
  P : Program
  n : Nat
  w0 : World
  own0 : Nat → Nat → Prop
  m0 : Nat
  β0 : Env
  wrap : Bool := false

structure St (X : Cx) (β : Env) (H : AH) (w : World) : Prop where
  os : w.os = X.w0.os
  tape : w.tape = X.w0.tape
  output : w.output = X.w0.output
  size : X.w0.heap.size ≤ w.heap.size
  fix : ∀ id k, id < X.m0 → β id k = X.β0 id k
  holds : ∀ id k o, look H.os id k = some o → o.holds β w (β id k)
  sep : ∀ id k id' k' o o' L L', look H.os id k = some o → look H.os id' k' = some o' → o.own = true → β id k = some L → β id' k' = some L' → L.blk = L'.blk → id = id' ∧ k = k'
  old : ∀ b, b < X.w0.heap.size → (∀ id k o L, look H.os id k = some o → o.own = true → β id k = some L → L.blk ≠ b) → w.heap[b]? = X.w0.heap[b]?
  mine : ∀ id k o L, look H.os id k = some o → o.own = true → β id k = some L → (id < X.m0 ∧ X.own0 id k) ∨ (X.m0 ≤ id ∧ X.w0.heap.size ≤ L.blk)
  keep : ∀ id k, X.own0 id k → id < X.m0 ∧ ∃ o, look H.os id k = some o ∧ o.own = true
  m0 : X.m0 ≤ H.nxt
  lt : ∀ id k o, look H.os id k = some o → id < H.nxt ∧ o.lt H.nxt

theorem Row.cellsOk.mono {r : Row} {β : Env} {w w' : World} {L : Loc} (h : r.cellsOk β w L) (hw : w'.heap[L.blk]? = w.heap[L.blk]?) : r.cellsOk β w' L :=
  fun i hi => ⟨(h i hi).1, fun j s hs => by
    obtain ⟨h1, v, hv, hd⟩ := (h i hi).2 j s hs
    exact ⟨h1, v, (World.cell?_of_block (w := w) (a := ⟨L.blk, _, none⟩) hw).trans hv, hd⟩⟩

theorem Obj.holds.mono {o : Obj} {β : Env} {w w' : World} {q : Option Loc} (h : o.holds β w q) (hs : w.heap.size ≤ w'.heap.size) (hw : ∀ L, q = some L → L.blk < w.heap.size → w'.heap[L.blk]? = w.heap[L.blk]?) : o.holds β w' q := by
  cases o with
  | row r =>
    rcases h with h | ⟨L, hq, h1, h2, h3, h4⟩
    · exact .inl h
    · have hb := hw L hq h2
      refine .inr ⟨L, hq, h1, Nat.lt_of_lt_of_le h2 hs, h3.mono hb, fun ho => ?_⟩
      obtain ⟨a, b, c, cur, d, e⟩ := h4 ho
      exact ⟨a, b, c, cur, hb.trans d, e⟩
  | blk _ p =>
    obtain ⟨L, b, hq, hb, hp⟩ := h
    exact ⟨L, b, hq, (hw L hq (Array.getElem?_eq_some_iff.1 hb).1).trans hb, hp⟩

theorem Obj.holds.blk_lt {o : Obj} {β : Env} {w : World} {L : Loc} (h : o.holds β w (some L)) : L.blk < w.heap.size := by
  cases o with
  | row r =>
    rcases h with ⟨_, h⟩ | ⟨L', hq, _, h2, _⟩
    · cases h
    · cases hq; exact h2
  | blk _ p =>
    obtain ⟨L', b, hq, hb, _⟩ := h
    cases hq
    exact (Array.getElem?_eq_some_iff.1 hb).1

theorem Obj.holds.agree {o : Obj} {m : Nat} {β β' : Env} {w : World} {q : Option Loc} (hb : Env.agree m β β') (hl : o.lt m) (h : o.holds β w q) : o.holds β' w q := by
  cases o with
  | row r =>
    rcases h with h | ⟨L, hq, h1, h2, h3, h4⟩
    · exact .inl h
    · refine .inr ⟨L, hq, h1, h2, fun i hi => ⟨(h3 i hi).1, fun j s hs => ?_⟩, h4⟩
      obtain ⟨hsc, v, hv, hd⟩ := (h3 i hi).2 j s hs
      exact ⟨hsc, v, hv, den_agree hb s v (hl i j s hi hs) hd⟩
  | blk _ p => exact h

/-- A world in which all that was there is as it was. -/
theorem St.ext {X : Cx} {β : Env} {H : AH} {w w' : World} (h : St X β H w) (he : Below w.heap.size w w') : St X β H w' where
  os := he.os.trans h.os
  tape := he.tape.trans h.tape
  output := he.output.trans h.output
  size := Nat.le_trans h.size he.size
  fix := h.fix
  holds id k o ho := (h.holds id k o ho).mono he.size fun _ _ hl => he.block _ hl
  sep := h.sep
  old b hb hn := (he.block b (Nat.lt_of_lt_of_le hb h.size)).trans (h.old b hb hn)
  mine := h.mine
  keep := h.keep
  m0 := h.m0
  lt := h.lt

theorem Below.drew' {w : World} : Below w.heap.size w w.drew := (Below.refl _ w).drew

/-! ### Frames -/
abbrev Fr := List (Nat × SV)

def get : Fr → Nat → Option SV
  | [], _ => none
  | (u, s) :: r, t => if u = t then some s else get r t

structure FrOk (X : Cx) (β : Env) (m : Nat) (fr : Fr) (a : Act) : Prop where
  defers : a.defers = []
  size : a.tmps.size = X.n
  get : ∀ t s, get fr t = some s → s.lt m ∧ ∃ v, a.tmps[t]? = some v ∧ den β s v

def put (d : Option Tmp) (s : SV) (fr : Fr) : Fr :=
  match d with
  | some t => (t, s) :: fr
  | none => fr

theorem FrOk.put {X : Cx} {β : Env} {m : Nat} {fr : Fr} {a : Act} (h : FrOk X β m fr a) {d : Option Tmp} {s : SV} {v : Value} (hd : ∀ t, d = some t → t < X.n) (hl : s.lt m) (hv : den β s v) :
    FrOk X β m (put d s fr) (a.put d v) := by
  cases d with
  | none => exact h
  | some t =>
    refine ⟨h.defers, by simp [Act.put, h.size], fun u s' hs => ?_⟩
    simp only [Sk.put, Sk.get] at hs
    split at hs
    · rename_i he
      subst he
      cases hs
      exact ⟨hl, v, by simp [Act.put, h.size, hd t rfl], hv⟩
    · rename_i he
      obtain ⟨h1, u', h2, h3⟩ := h.get u s' hs
      exact ⟨h1, u', by simp only [Act.put]; rw [Array.getElem?_setIfInBounds_ne he]; exact h2, h3⟩

theorem FrOk.agree {X : Cx} {β β' : Env} {m m' : Nat} {fr : Fr} {a : Act} (h : FrOk X β m fr a) (hm : m ≤ m') (hb : Env.agree m β β') : FrOk X β' m' fr a :=
  ⟨h.defers, h.size, fun t s hs => by
    obtain ⟨h1, v, h2, h3⟩ := h.get t s hs
    exact ⟨SV.lt_mono hm s h1, v, h2, den_agree hb s v h1 h3⟩⟩

end Go.Sk
