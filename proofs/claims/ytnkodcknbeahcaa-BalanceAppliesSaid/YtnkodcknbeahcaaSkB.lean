/-
  A frame for walks, second part: the operations that leave the world alone.
  Conditions: none; definitions and lemmas over any program.
-/
import Derived.Test.YtnkodcknbeahcaaSkA
set_option linter.unusedSimpArgs false
set_option linter.unusedVariables false
namespace Go.Sk
open Go.RowKit

/-! ### Types -/
inductive Kd where
  | slice (e : TypeId) | array (n : Nat) (e : TypeId) | struct | string | int (k : IntKind) | bool | pointer | map (k e : TypeId) | other
  deriving DecidableEq

def kdOf : TypeDesc → Kd
  | .slice e => .slice e
  | .array n e => .array n e
  | .struct _ => .struct
  | .string => .string
  | .int k => .int k
  | .bool => .bool
  | .pointer _ => .pointer
  | .map k e => .map k e
  | _ => .other

structure Ty where
  ok : Bool
  kd : Kd
  size : Nat
  bytes : Nat
  offs : List (Nat × Option Bool × Nat)

def Kd.agg : Kd → Bool
  | .array .. | .struct => true
  | _ => false

def szOf (P : Program) (t : TypeId) : Nat := ((P.info? t).map (·.size)).getD 0
def isAggT (P : Program) (t : TypeId) : Option Bool := (P.underlying t).map (fun d => (kdOf d).agg)

def offsOf (P : Program) : TypeDesc → List (Nat × Option Bool × Nat)
  | .struct fs => fs.toList.map fun f => (f.offset, isAggT P f.type, szOf P f.type)
  | _ => []

def tyOf (P : Program) (t : TypeId) : Ty :=
  match P.info? t, P.underlying t with
  | some i, some d => ⟨true, kdOf d, i.size, i.bytes, offsOf P d⟩
  | _, _ => ⟨false, .other, 0, 0, []⟩

def ofConst1 : Value → SV
  | .int k n => .int k n
  | .bool b => .bool b
  | .string s => .str s
  | .pointer none => .nilp
  | .slice none 0 0 => .nils
  | .nilFunc => .nilfn
  | v => .raw v

def ofConst : Value → SV
  | .agg cs => .agg (cs.toList.map ofConst1)
  | v => ofConst1 v

theorem ofConst1_den (β : Env) (v : Value) : den β (ofConst1 v) v := by
  unfold ofConst1
  split <;> simp [den]

theorem ofConst1_lt (m : Nat) (v : Value) : (ofConst1 v).lt m := by
  unfold ofConst1
  split <;> simp [SV.lt]

theorem ofConst_den (β : Env) (v : Value) : den β (ofConst v) v := by
  unfold ofConst
  split
  · rename_i cs
    simp only [den]
    refine ⟨cs.toList, ?_, by simp⟩
    generalize cs.toList = l
    induction l with
    | nil => simp [denL]
    | cons v l ih => exact ⟨v, l, ofConst1_den β v, ih, rfl⟩
  · exact ofConst1_den β _

theorem ofConst_lt (m : Nat) (v : Value) : (ofConst v).lt m := by
  unfold ofConst
  split
  · rename_i cs
    simp only [SV.lt]
    generalize cs.toList = l
    induction l with
    | nil => simp [SV.ltL]
    | cons v l ih => exact ⟨ofConst1_lt m v, ih⟩
  · exact ofConst1_lt m _

/-! ### Operands -/
def opdK (fr : Fr) (G : Bool) (x : Operand) (k : SV → Prop) : Prop :=
  match x with
  | .tmp t =>
    match get fr t with
    | some (.gd g s) => (G = true → g = true) ∧ k s
    | some s => k s
    | none => False
  | .const v => k (ofConst v)
  | .func f => k (.fn f [])
  | .global g => k (.raw (.pointer (some ⟨g, 0, none⟩)))

theorem opdK_ok {X : Cx} {β : Env} {m : Nat} {fr : Fr} {a : Act} (hF : FrOk X β m fr a) {G : Bool} {x : Operand} {k : SV → Prop} (h : opdK fr G x k) :
    ∃ s, k s ∧ (G = true → den β s (a.eval x) ∧ s.lt m) := by
  unfold opdK at h
  split at h
  · rename_i t
    have hev : ∀ v, a.tmps[t]? = some v → a.eval (.tmp t) = v := fun v hv => by simp [Act.eval, Array.getD_eq_getD_getElem?, hv]
    split at h
    · rename_i g s hg
      refine ⟨s, h.2, fun hG => ?_⟩
      obtain ⟨hl, v, hv, hd⟩ := hF.get t _ hg
      have hg1 := h.1 hG
      simp only [den, SV.lt] at hd hl
      rw [hev v hv]
      exact ⟨hd.1 hg1, hl hg1⟩
    · rename_i s _ hg
      obtain ⟨hl, v, hv, hd⟩ := hF.get t _ hg
      exact ⟨s, h, fun _ => by rw [hev v hv]; exact ⟨hd, hl⟩⟩
    · exact h.elim
  · exact ⟨_, h, fun _ => ⟨ofConst_den β _, ofConst_lt m _⟩⟩
  · exact ⟨_, h, fun _ => ⟨by simp only [den]; exact ⟨[], rfl, rfl⟩, trivial⟩⟩
  · exact ⟨_, h, fun _ => ⟨by simp [den, Act.eval], trivial⟩⟩

def opdsK (fr : Fr) (G : Bool) : List Operand → (List SV → Prop) → Prop
  | [], k => k []
  | x :: l, k => opdK fr G x fun s => opdsK fr G l fun r => k (s :: r)

theorem opdsK_ok {X : Cx} {β : Env} {m : Nat} {fr : Fr} {a : Act} (hF : FrOk X β m fr a) {G : Bool} : ∀ {l : List Operand} {k : List SV → Prop}, opdsK fr G l k →
    ∃ ss, k ss ∧ (G = true → denL β ss (l.map a.eval) ∧ SV.ltL m ss)
  | [], k, h => ⟨[], h, fun _ => ⟨rfl, trivial⟩⟩
  | x :: l, k, h => by
    obtain ⟨s, h1, h2⟩ := opdK_ok hF h
    obtain ⟨r, h3, h4⟩ := opdsK_ok hF h1
    exact ⟨s :: r, h3, fun hG => ⟨⟨_, _, (h2 hG).1, (h4 hG).1, rfl⟩, (h2 hG).2, (h4 hG).2⟩⟩

/-! ### Integers -/
def In64 (n : Int) : Prop := -9223372036854775808 ≤ n ∧ n ≤ 9223372036854775807
theorem in64 {n : Int} (h : -9223372036854775808 ≤ n ∧ n ≤ 9223372036854775807) : In64 n := h
theorem In64.wrap {n : Int} (h : In64 n) : IntKind.i64.wrap n = n := IntWalk.i64_in n h

def bitsOf (op : BinOp) (kd : IntKind) (x y : Int) : Int :=
  let a := BitVec.ofInt kd.bits x
  let b := BitVec.ofInt kd.bits y
  match op with
  | .and => kd.wrap (a &&& b).toNat
  | .or => kd.wrap (a ||| b).toNat
  | .xor => kd.wrap (a ^^^ b).toNat
  | _ => kd.wrap (a &&& ~~~b).toNat

def arithK (wr G : Bool) (kd : IntKind) (e : Int) (k : SV → Prop) : Prop :=
  match kd with
  | .i64 => if wr then k (.int .i64 (IntKind.i64.wrap e)) else (G = true → In64 e) ∧ k (.int .i64 e)
  | _ => k (.int kd (kd.wrap e))

def intK (wr G : Bool) (op : BinOp) (kd : IntKind) (a b : Int) (k : SV → Prop) : Prop :=
  match op with
  | .add => arithK wr G kd (a + b) k
  | .sub => arithK wr G kd (a - b) k
  | .mul => arithK wr G kd (a * b) k
  | .quo =>
    match kd with
    | .i64 => if wr then (G = true → b ≠ 0) ∧ k (.int .i64 (IntKind.i64.wrap (a.tdiv b))) else (G = true → 0 ≤ a ∧ 0 < b ∧ In64 a) ∧ k (.int .i64 (a / b))
    | _ => (G = true → b ≠ 0) ∧ k (.int kd (kd.wrap (a.tdiv b)))
  | .rem => (G = true → b ≠ 0) ∧ k (.int kd (a.tmod b))
  | .and => k (.int kd (bitsOf .and kd a b))
  | .or => k (.int kd (bitsOf .or kd a b))
  | .xor => k (.int kd (bitsOf .xor kd a b))
  | .andNot => k (.int kd (bitsOf .andNot kd a b))
  | .eql => k (.bool (a == b))
  | .neq => k (.bool (a != b))
  | .lss => k (.bool (decide (a < b)))
  | .leq => k (.bool (decide (a ≤ b)))
  | .gtr => k (.bool (decide (b < a)))
  | .geq => k (.bool (decide (b ≤ a)))
  | _ => False

def shiftK (G : Bool) (op : BinOp) (kd : IntKind) (a b : Int) (k : SV → Prop) : Prop :=
  match op with
  | .shl => (G = true → 0 ≤ b) ∧ k (.int kd (kd.wrap (a * 2 ^ (min b.toNat kd.bits))))
  | .shr => (G = true → 0 ≤ b) ∧ k (.int kd (a.fdiv (2 ^ (min b.toNat kd.bits))))
  | _ => False

def sEq (x y : ByteArray) : Bool := x.toList == y.toList
def sLt (x y : ByteArray) : Bool := Op.bytesLess x.toList y.toList

def strK (G : Bool) (op : BinOp) (x y : ByteArray) (k : SV → Prop) : Prop :=
  match op with
  | .add => (G = true → In64 (((x.size + y.size : Nat)) : Int)) ∧ k (.str (x ++ y))
  | .eql => k (.bool (sEq x y))
  | .neq => k (.bool (!sEq x y))
  | .lss => k (.bool (sLt x y))
  | .leq => k (.bool (sLt x y || sEq x y))
  | .gtr => k (.bool (!(sLt x y || sEq x y)))
  | .geq => k (.bool (!sLt x y))
  | _ => False

/-- Equality of two lists of scalars. -/
def eqS : SV → SV → Bool
  | .int _ a, .int _ b => a == b
  | .bool a, .bool b => a == b
  | .str a, .str b => a == b
  | _, _ => false
def eqL : List SV → List SV → Bool
  | [], [] => true
  | [a], [b] => eqS a b
  | a :: l, b :: r => eqS a b && eqL l r
  | _, _ => false

/-- What '==' at a type of structs gives. -/
def EqT (P : Program) (t : TypeId) (la lb : List SV) : Prop :=
  ∀ (β : Env) (xs ys : List Value), denL β la xs → denL β lb ys → ∀ (x y : Operand) (op : BinOp) (w : World), (op = .eql ∨ op = .neq) →
    (do eqGuard op t x y (.agg xs.toArray) (.agg ys.toArray); Op.equal t (.agg xs.toArray) (.agg ys.toArray) : Sem Bool).run P w = .ok (eqL la lb) w

def binII (wr G : Bool) (op : BinOp) (kd : IntKind) (a : Int) (kd' : IntKind) (b : Int) (k : SV → Prop) : Prop :=
  match op with
  | .shl => shiftK G .shl kd a b k
  | .shr => shiftK G .shr kd a b k
  | op => (G = true → kd' = kd) ∧ intK wr G op kd a b k

def binBB (P : Program) (G : Bool) (op : BinOp) (t : TypeId) (x y : Bool) (k : SV → Prop) : Prop :=
  match op with
  | .eql => (G = true → (tyOf P t).kd = .bool) ∧ k (.bool (x == y))
  | .neq => (G = true → (tyOf P t).kd = .bool) ∧ k (.bool (x != y))
  | _ => False

def binAA (P : Program) (G : Bool) (op : BinOp) (t : TypeId) (la lb : List SV) (k : SV → Prop) : Prop :=
  match op with
  | .eql => (G = true → EqT P t la lb) ∧ k (.bool (eqL la lb))
  | .neq => (G = true → EqT P t la lb) ∧ k (.bool (!eqL la lb))
  | _ => False

def binK (P : Program) (wr G : Bool) (op : BinOp) (t : TypeId) (sx sy : SV) (k : SV → Prop) : Prop :=
  match sx, sy with
  | .int kd a, .int kd' b => binII wr G op kd a kd' b k
  | .str x, .str y => strK G op x y k
  | .bool x, .bool y => binBB P G op t x y k
  | .agg la, .agg lb => binAA P G op t la lb k
  | _, _ => False

theorem run_arith (P : Program) (w : World) (kd : IntKind) (e : Int) : (pure (.int kd (kd.wrap e)) : Sem Value).run P w = .ok (.int kd (kd.wrap e)) w := rfl

/-- In every world the operation yields this. -/
def Yld (P : Program) (e : Sem Value) (v : Value) : Prop := ∀ w, e.run P w = .ok v w

theorem arithK_ok {wr G : Bool} {kd : IntKind} {e : Int} {k : SV → Prop} (h : arithK wr G kd e k) : ∃ s, k s ∧ (G = true → s = .int kd (kd.wrap e)) := by
  unfold arithK at h
  split at h
  · split at h
    · exact ⟨_, h, fun _ => rfl⟩
    · exact ⟨_, h.2, fun hG => by rw [(h.1 hG).wrap]⟩
  · exact ⟨_, h, fun _ => rfl⟩

theorem intK_ok {wr G : Bool} {op : BinOp} {kd : IntKind} {a b : Int} {k : SV → Prop} (ho : op ≠ .shl ∧ op ≠ .shr) (h : intK wr G op kd a b k) :
    ∃ s, k s ∧ (G = true → (∀ m, s.lt m) ∧ ∃ v, (∀ β, den β s v) ∧ ∀ P, Yld P (binOp op 0 (.int kd a) (.int kd b)) v) := by
  have ar : ∀ e, arithK wr G kd e k → (∀ P, Yld P (binOp op 0 (.int kd a) (.int kd b)) (.int kd (kd.wrap e))) → ∃ s, k s ∧ (G = true → (∀ m, s.lt m) ∧ ∃ v, (∀ β, den β s v) ∧ ∀ P, Yld P (binOp op 0 (.int kd a) (.int kd b)) v) := fun e he hy => by
    obtain ⟨s, h1, h2⟩ := arithK_ok he
    exact ⟨s, h1, fun hG => by rw [h2 hG]; exact ⟨fun _ => trivial, _, fun _ => rfl, hy⟩⟩
  have pl : ∀ (s : SV) (v : Value), k s → (∀ m, s.lt m) → (∀ β, den β s v) → (∀ P, Yld P (binOp op 0 (.int kd a) (.int kd b)) v) → ∃ s, k s ∧ (G = true → (∀ m, s.lt m) ∧ ∃ v, (∀ β, den β s v) ∧ ∀ P, Yld P (binOp op 0 (.int kd a) (.int kd b)) v) :=
    fun s v h1 h2 h3 h4 => ⟨s, h1, fun _ => ⟨h2, v, h3, h4⟩⟩
  unfold intK at h
  cases op <;> simp only at h
  case add => exact ar _ h fun P w => by simp [binOp, Op.intArith]
  case sub => exact ar _ h fun P w => by simp [binOp, Op.intArith]
  case mul => exact ar _ h fun P w => by simp [binOp, Op.intArith]
  case quo =>
    have gen : ∀ (s : SV), (G = true → b ≠ 0 ∧ s = .int kd (kd.wrap (a.tdiv b))) → k s → ∃ s, k s ∧ (G = true → (∀ m, s.lt m) ∧ ∃ v, (∀ β, den β s v) ∧ ∀ P, Yld P (binOp .quo 0 (.int kd a) (.int kd b)) v) := fun s hs hk =>
      ⟨s, hk, fun hG => by
        obtain ⟨hb, rfl⟩ := hs hG
        exact ⟨fun _ => trivial, _, fun _ => rfl, fun P w => by simp [binOp, Op.intDiv, hb]⟩⟩
    split at h
    · split at h
      · exact gen _ (fun hG => ⟨h.1 hG, rfl⟩) h.2
      · exact gen _ (fun hG => by
          obtain ⟨h0, h1, h2⟩ := h.1 hG
          refine ⟨by omega, ?_⟩
          rw [IntWalk.i64_quo a b ⟨h0, h2.2, by omega⟩]) h.2
    · exact gen _ (fun hG => ⟨h.1 hG, rfl⟩) h.2
  case rem => exact ⟨_, h.2, fun hG => ⟨fun _ => trivial, _, fun _ => rfl, fun P w => by simp [binOp, Op.intDiv, h.1 hG]⟩⟩
  case and => exact pl _ _ h (fun _ => trivial) (fun _ => rfl) fun P w => by simp [binOp, Op.intBits, bitsOf]
  case or => exact pl _ _ h (fun _ => trivial) (fun _ => rfl) fun P w => by simp [binOp, Op.intBits, bitsOf]
  case xor => exact pl _ _ h (fun _ => trivial) (fun _ => rfl) fun P w => by simp [binOp, Op.intBits, bitsOf]
  case andNot => exact pl _ _ h (fun _ => trivial) (fun _ => rfl) fun P w => by simp [binOp, Op.intBits, bitsOf]
  case eql => exact pl _ _ h (fun _ => trivial) (fun _ => rfl) fun P w => by simp [binOp, Op.intCmp]
  case neq => exact pl _ _ h (fun _ => trivial) (fun _ => rfl) fun P w => by simp [binOp, Op.intCmp]
  case lss => exact pl _ _ h (fun _ => trivial) (fun _ => rfl) fun P w => by simp [binOp, Op.intCmp]
  case leq => exact pl _ _ h (fun _ => trivial) (fun _ => rfl) fun P w => by simp [binOp, Op.intCmp]
  case gtr => exact pl _ _ h (fun _ => trivial) (fun _ => rfl) fun P w => by simp [binOp, Op.intCmp]
  case geq => exact pl _ _ h (fun _ => trivial) (fun _ => rfl) fun P w => by simp [binOp, Op.intCmp]
  all_goals exact h.elim

end Go.Sk
