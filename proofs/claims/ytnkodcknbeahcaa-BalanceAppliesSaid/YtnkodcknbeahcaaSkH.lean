/-
  A frame for walks, eighth part: the operations that change the world.
  Conditions: none; definitions and lemmas over any program.
-/
import Derived.Test.YtnkodcknbeahcaaSkG
set_option linter.unusedSimpArgs false
set_option linter.unusedVariables false
namespace Go.Sk
open Go.RowKit

/-- A row in a block: its first cells are known. -/
theorem row_holds {β : Env} {w : World} {b cap : Nat} {cur : Array Value} {e : TypeId} {var : Bool} {sz n : Nat} {f : Nat → List SV} {cs : List SV} {vs : List Value}
    (hb : w.heap[b]? = some (.cells cur e (0, 0))) (hc : cur.size = cap * sz) (hn : n ≤ cap) (hm : cap ≤ maxLen) (hp : ∀ j, j < n * sz → cur[j]? = vs[j]?)
    (hd : denL β cs vs) (hsc : ∀ s ∈ cs, s.scalar = true)
    (hf : ∀ i, i < n → (f i).length = sz ∧ ∀ j, j < sz → (f i)[j]? = cs[i * sz + j]?) :
    (Obj.row ⟨true, var, e, sz, n, f⟩).holds β w (some ⟨b, 0, sz, cap⟩) := by
  refine .inr ⟨_, rfl, rfl, (Array.getElem?_eq_some_iff.1 hb).1, fun i hi => ⟨(hf i hi).1, fun j s hs => ?_⟩, fun _ => ⟨rfl, hn, hm, cur, hb, hc⟩⟩
  have hj : j < sz := by
    have := (List.getElem?_eq_some_iff.1 hs).1
    rw [(hf i hi).1] at this; exact this
  rw [(hf i hi).2 j hj] at hs
  obtain ⟨v, hv, hdv⟩ := denL_get hd _ _ hs
  refine ⟨hsc _ (List.mem_of_getElem? hs), v, ?_, hdv⟩
  have hlt : i * sz + j < n * sz := by
    have : (i + 1) * sz ≤ n * sz := Nat.mul_le_mul_right _ hi
    rw [Nat.add_mul] at this; omega
  simp only [World.cell?, hb, Nat.zero_add]
  simp [hp _ hlt, hv]

theorem row_holds_new {β : Env} {w : World} {e : TypeId} {var : Bool} {sz n : Nat} {f : Nat → List SV} {cs : List SV} {vs : List Value}
    (hl : cs.length = n * sz) (hm : n ≤ maxLen) (hd : denL β cs vs) (hsc : ∀ s ∈ cs, s.scalar = true)
    (hf : ∀ i, i < n → (f i).length = sz ∧ ∀ j, j < sz → (f i)[j]? = cs[i * sz + j]?) :
    (Obj.row ⟨true, var, e, sz, n, f⟩).holds β (w.alloc (.cells vs.toArray e)) (some ⟨w.heap.size, 0, sz, n⟩) :=
  row_holds (heap_alloc_new w _) (by have := denL_length hd; simp; omega) (Nat.le_refl _) hm (fun j _ => by simp) hd hsc hf

theorem row_lt {m : Nat} {var own : Bool} {e : TypeId} {sz n : Nat} {f : Nat → List SV} {cs : List SV} (hl : SV.ltL m cs)
    (hf : ∀ i, i < n → (f i).length = sz ∧ ∀ j, j < sz → (f i)[j]? = cs[i * sz + j]?) : (Obj.row ⟨own, var, e, sz, n, f⟩).lt m := fun i j s hi hs => by
  have hi' : i < n := hi
  have hj : j < sz := by
    have := (List.getElem?_eq_some_iff.1 hs).1
    rw [(hf i hi').1] at this; exact this
  have hs' : (f i)[j]? = some s := hs
  rw [(hf i hi').2 j hj] at hs'
  exact SV.ltL_get hl _ _ hs'

/-- Of the old ids none is owned that was not. -/
def Sub (H H' : AH) : Prop := ∀ id k o, id < H.nxt → look H'.os id k = some o → o.own = true → ∃ o0, look H.os id k = some o0 ∧ o0.own = true

theorem Sub.refl (H : AH) : Sub H H := fun _ _ o _ h ho => ⟨o, h, ho⟩
theorem Sub.trans {a b c : AH} (h : Sub a b) (h' : Sub b c) (hn : a.nxt ≤ b.nxt) : Sub a c := fun id k o hi hl ho => by
  obtain ⟨o1, h1, h2⟩ := h' id k o (Nat.lt_of_lt_of_le hi hn) hl ho
  exact h id k o1 hi h1 h2

/-- What is known behind an operation that has yielded a value. -/
def Aft (X : Cx) (β : Env) (H : AH) (_w : World) (k : SV → AH → Prop) (v : Value) (w' : World) : Prop :=
  ∃ β' s H', k s H' ∧ den β' s v ∧ s.lt H'.nxt ∧ St X β' H' w' ∧ Env.agree H.nxt β β' ∧ H.nxt ≤ H'.nxt ∧ Sub H H'

theorem sub_cons {H : AH} (os : List (Nat × Nat × (Nat → Obj))) (c : Nat) (F : Nat → Obj) (h : ∀ id k o, look os id k = some o → look H.os id k = some o) : Sub H ⟨H.nxt + 1, (H.nxt, c, F) :: os⟩ := fun id k o hi hl ho => by
  rw [look_cons, if_neg (by omega)] at hl
  exact ⟨o, h _ _ _ hl, ho⟩

/-- A block of the call's own that has just been laid. -/
theorem aft_new {X : Cx} {β : Env} {H : AH} {w : World} (hS : St X β H w) {e : TypeId} {var : Bool} {sz n : Nat} {f : Nat → List SV} {cs : List SV} {vs : List Value} {s : SV} {v : Value} {k : SV → AH → Prop}
    (hl : cs.length = n * sz) (hm : n ≤ maxLen) (hd : denL β cs vs) (hlt : SV.ltL H.nxt cs) (hsc : ∀ s ∈ cs, s.scalar = true)
    (hf : ∀ i, i < n → (f i).length = sz ∧ ∀ j, j < sz → (f i)[j]? = cs[i * sz + j]?)
    (hv : ∀ β' : Env, β' H.nxt 0 = some ⟨w.heap.size, 0, sz, n⟩ → den β' s v) (hsl : s.lt (H.nxt + 1))
    (hk : k s ⟨H.nxt + 1, (H.nxt, one (.row ⟨true, var, e, sz, n, f⟩)) :: H.os⟩) : Aft X β H w k v (w.alloc (.cells vs.toArray e)) := by
  have hag := Env.agree_set β H.nxt (fun _ => some ⟨w.heap.size, 0, sz, n⟩)
  refine ⟨β.set H.nxt (fun _ => some ⟨w.heap.size, 0, sz, n⟩), s, _, hk, hv _ (by unfold Env.set; rw [if_pos rfl]), hsl, ?_, hag, Nat.le_succ _, sub_cons _ _ _ fun _ _ _ h => h⟩
  refine St.new hS ((Below.refl _ w).alloc (Nat.le_refl _) _) (fun k L _ he => by cases he; exact Nat.le_refl _) (fun k k' _ _ h h' _ _ _ => by omega) (fun k _ => ?_) (fun k _ => row_lt (SV.ltL_mono (Nat.le_succ _) _ hlt) hf)
  exact row_holds_new hl hm (denL_agree hag cs vs hlt hd) hsc hf

def allocK (P : Program) (H : AH) (e : TypeId) (k : SV → AH → Prop) : Prop :=
  match zeroOf P e with
  | some z => z.all SV.scalar = true ∧ k (.ptr H.nxt 0 0 0) ⟨H.nxt + 1, (H.nxt, one (.row ⟨true, true, e, z.length, 1, fun _ => z⟩)) :: H.os⟩
  | none => False

theorem one_row (cs : List SV) : ∀ i, i < 1 → ((fun _ => cs : Nat → List SV) i).length = cs.length ∧ ∀ j, j < cs.length → ((fun _ => cs : Nat → List SV) i)[j]? = cs[i * cs.length + j]? := fun i hi => by
  have : i = 0 := by omega
  subst this
  simp

theorem allocK_ok {X : Cx} {β : Env} {H : AH} {w : World} (hS : St X β H w) {e : TypeId} {k : SV → AH → Prop} (h : allocK X.P H e k) :
    ∃ v w', (Instr.alloc e true (.tuple #[])).run X.P w = .ok v w' ∧ Aft X β H w k v w' ∧ Below w.heap.size w w' := by
  unfold allocK at h
  split at h
  · rename_i z hz
    obtain ⟨zv, hzr, rfl⟩ := zeroOf_run hz
    refine ⟨.pointer (some ⟨w.heap.size, 0, none⟩), w.alloc (.cells zv.cells e), ?_, ?_, (Below.refl _ w).alloc (Nat.le_refl _) _⟩
    · simp only [Instr.alloc, Sem.run_bind, hzr w, Result.andThen_ok, newVar, newRow, run_newObj, Sem.run_pure]
      rfl
    · have := aft_new (vs := zv.cells.toList) hS (n := 1) (by simp) (by simp [maxLen]) (ofConst1_denL β _) (ofConst1_ltL _ _) (fun s hs => (List.all_eq_true.1 h.1) s hs) (one_row _) (v := .pointer (some ⟨w.heap.size, 0, none⟩)) (fun β' hb => by simp only [den]; exact ⟨_, hb, by simp⟩) (Nat.lt_succ_self _) h.2
      simpa using this
  · exact h.elim

def boxK (H : AH) (e : TypeId) (s : SV) (k : SV → AH → Prop) : Prop :=
  (okCells s = true ∧ s.cells.all SV.scalar = true) ∧ k (.ptr H.nxt 0 0 0) ⟨H.nxt + 1, (H.nxt, one (.row ⟨true, true, e, s.cells.length, 1, fun _ => s.cells⟩)) :: H.os⟩

theorem boxK_ok {X : Cx} {β : Env} {H : AH} {w : World} (hS : St X β H w) {e : TypeId} {s : SV} {v : Value} {k : SV → AH → Prop} (h : boxK H e s k) (hv : den β s v) (hl : s.lt H.nxt) :
    ∃ v' w', (Instr.box e v).run X.P w = .ok v' w' ∧ Aft X β H w k v' w' ∧ Below w.heap.size w w' := by
  obtain ⟨⟨h1, h2⟩, h3⟩ := h
  refine ⟨.pointer (some ⟨w.heap.size, 0, none⟩), w.alloc (.cells v.cells e), ?_, ?_, (Below.refl _ w).alloc (Nat.le_refl _) _⟩
  · simp only [Instr.box, newVar, newRow, Sem.run_bind, run_newObj, Result.andThen_ok, Sem.run_pure]
    rfl
  · have := aft_new (vs := v.cells.toList) hS (n := 1) (by simp) (by simp [maxLen]) (cells_den h1 hv) (cells_lt hl) (fun s hs => (List.all_eq_true.1 h2) s hs) (one_row _) (v := .pointer (some ⟨w.heap.size, 0, none⟩)) (fun β' hb => by simp only [den]; exact ⟨_, hb, by simp⟩) (Nat.lt_succ_self _) h3
    simpa using this

/-! ### A slice written out -/
def chunk (sz : Nat) (cs : List SV) : Nat → List (List SV)
  | 0 => []
  | n + 1 => cs.take sz :: chunk sz (cs.drop sz) n

theorem chunk_get (sz : Nat) : ∀ (n : Nat) (cs : List SV) (i : Nat), i < n → (chunk sz cs n).getD i [] = (cs.drop (i * sz)).take sz
  | 0, _, _, h => by omega
  | n + 1, cs, 0, _ => by simp [chunk]
  | n + 1, cs, i + 1, h => by
    simp only [chunk, List.getD_cons_succ]
    rw [chunk_get sz n _ i (by omega), List.drop_drop, Nat.add_mul, Nat.one_mul, Nat.add_comm]

/-- The elements: integers as a list of integers. -/
def rowsOf (sz n : Nat) (cs : List SV) : Nat → List SV :=
  match intsOf .i64 cs with
  | some ns => if sz = 1 then fun i => [.int .i64 (ns.getD i default)] else fun i => (chunk sz cs n).getD i []
  | none => fun i => (chunk sz cs n).getD i []

theorem rowsOf_ok {sz n : Nat} {cs : List SV} (hl : cs.length = n * sz) : ∀ i, i < n → (rowsOf sz n cs i).length = sz ∧ ∀ j, j < sz → (rowsOf sz n cs i)[j]? = cs[i * sz + j]? := fun i hi => by
  have gen : ((chunk sz cs n).getD i []).length = sz ∧ ∀ j, j < sz → ((chunk sz cs n).getD i [])[j]? = cs[i * sz + j]? := by
    rw [chunk_get sz n cs i hi]
    have hb : (i + 1) * sz ≤ n * sz := Nat.mul_le_mul_right _ hi
    rw [Nat.add_mul] at hb
    refine ⟨by rw [List.length_take, List.length_drop]; omega, fun j hj => ?_⟩
    rw [List.getElem?_take, if_pos hj, List.getElem?_drop]
  unfold rowsOf
  cases hns : intsOf .i64 cs with
  | none => exact gen
  | some ns =>
    by_cases h1 : sz = 1
    · subst h1
      simp only [if_true]
      refine ⟨rfl, fun j hj => ?_⟩
      have : j = 0 := by omega
      subst this
      have := intsOf_get hns i (by omega)
      simp [this]
    · simp only [if_neg h1]
      exact gen

def replZ (z : List SV) : Nat → List SV
  | 0 => []
  | n + 1 => z ++ replZ z n

def bsliceK (P : Program) (H : AH) (t : TypeId) (len : Nat) (ps : List (Nat × SV)) (k : SV → AH → Prop) : Prop :=
  match (tyOf P t).kd with
  | .slice e =>
    match zeroOf P e with
    | some z =>
      match fillS (fun i => some (i * szOf P e, szOf P e)) (replZ z len) ps with
      | some cs => ((tyOf P t).ok = true ∧ szOf P e ≠ 0 ∧ z.length = szOf P e ∧ cs.length = len * szOf P e ∧ len * szOf P e ≤ 16777216 ∧ len ≤ 16777216 ∧ cs.all SV.scalar = true) ∧
          k (.slc true H.nxt 0 0 len) ⟨H.nxt + 1, (H.nxt, one (.row ⟨true, false, e, szOf P e, len, rowsOf (szOf P e) len cs⟩)) :: H.os⟩
      | none => False
    | none => False
  | _ => False

theorem replZ_eq (z : List Value) : ∀ n, (z.map ofConst1).length ≠ 0 → replZ (z.map ofConst1) n = ((List.range (n * z.length)).map fun j => z.getD (j % z.length) default).map ofConst1
  | 0, _ => by simp [replZ]
  | n + 1, h => by
    rw [replZ, replZ_eq z n h]
    simp only [List.length_map] at h
    apply List.ext_getElem?
    intro j
    rw [List.getElem?_append]
    simp only [List.length_map, List.getElem?_map]
    by_cases hj : j < z.length
    · have h1 : j < (n + 1) * z.length := by rw [Nat.add_mul]; omega
      rw [if_pos hj, List.getElem?_range h1]
      simp [Nat.mod_eq_of_lt hj, hj, List.getD]
    · rw [if_neg hj]
      by_cases hj2 : j < (n + 1) * z.length
      · have h1 : j - z.length < n * z.length := by rw [Nat.add_mul] at hj2; omega
        rw [List.getElem?_range h1, List.getElem?_range hj2]
        have : (j - z.length) % z.length = j % z.length := by
          conv => rhs; rw [show j = (j - z.length) + z.length by omega]
          simp
        simp [this]
      · have h1 : ¬ j - z.length < n * z.length := by rw [Nat.add_mul] at hj2; omega
        rw [List.getElem?_eq_none (by simpa using h1), List.getElem?_eq_none (by simpa using hj2)]

theorem bsliceK_ok {X : Cx} {β : Env} {H : AH} {w : World} (hS : St X β H w) {t : TypeId} {len : Nat} {ps : List (Nat × SV)} {pv : List (Nat × Value)} {k : SV → AH → Prop} (h : bsliceK X.P H t len ps k)
    (he : ps.map (·.1) = pv.map (·.1)) (hd : denL β (ps.map (·.2)) (pv.map (·.2))) (hl : SV.ltL H.nxt (ps.map (·.2))) :
    ∃ v' w', (Instr.buildSlice t len pv.toArray).run X.P w = .ok v' w' ∧ Aft X β H w k v' w' ∧ Below w.heap.size w w' := by
  unfold bsliceK at h
  split at h
  · rename_i e hkd
    split at h
    · rename_i z hz
      split at h
      · rename_i cs hcs
        obtain ⟨⟨hok, hsz, hzl, hcl, h24, hlen, hsc⟩, hk⟩ := h
        obtain ⟨zv, hzr, rfl⟩ := zeroOf_run hz
        obtain ⟨inf, d, e1, e2, e3⟩ := tyOf_ok hok
        rw [e3] at hkd
        have := kdOf_slice hkd
        subst this
        obtain ⟨ei, hei, hei2⟩ := szOf_pos hsz
        have hzs : zv.cells.size = szOf X.P e := by simpa using hzl
        have hne : (zv.cells.toList.map ofConst1).length ≠ 0 := by rw [hzl]; exact hsz
        rw [replZ_eq _ _ hne] at hcs
        have hzz : ((Array.range (len * szOf X.P e)).map (zv.cells[· % zv.cells.size]!)).toList = (List.range (len * zv.cells.toList.length)).map fun j => zv.cells.toList.getD (j % zv.cells.toList.length) default := by
          simp [hzs, List.getD, Array.getElem!_eq_getD, Array.getD_eq_getD_getElem?]
        obtain ⟨arr', ha, hda, hla⟩ := fillS_ok (β := β) (m := H.nxt) _ ps pv _ cs ((Array.range (len * szOf X.P e)).map (zv.cells[· % zv.cells.size]!)) he hd hl
          (by rw [hzz]; exact ofConst1_denL β _) (ofConst1_ltL _ _) hcs
        refine ⟨.slice (some ⟨w.heap.size, 0, none⟩) len len, w.alloc (.cells arr' e), ?_, ?_, (Below.refl _ w).alloc (Nat.le_refl _) _⟩
        · have h0 : ¬ (len * ei.size > 2 ^ 24) := by rw [hei2]; omega
          have hall : (Instr.buildSlice t len pv.toArray).run X.P w = .ok (.slice (some ⟨w.heap.size, 0, none⟩) len len) (w.alloc (.cells arr' e)) := by
            simp only [Instr.buildSlice, Sem.run_bind, run_underlying e2, Result.andThen_ok, sizeOf_run hei, if_neg h0]
            by_cases hz0 : len * ei.size = 0
            · have hlen0 : len = 0 := by
                rcases Nat.mul_eq_zero.1 hz0 with h | h
                · exact h
                · omega
              subst hlen0
              rw [hei2]
              have hr0 : Array.range 0 = #[] := rfl
              have ha' : Instr.fill (fun i => some (i * szOf X.P e, szOf X.P e)) #[] pv = some arr' := by simpa [hr0] using ha
              simp [ha', newRow, hr0]
            · simp only [hz0, if_false, Sem.run_bind, hzr w, Result.andThen_ok, Sem.run_pure]
              rw [hei2]
              simp [ha, newRow]
          exact hall
        · have hlen2 := denL_length hda
          have := aft_new (e := e) (var := false) (vs := arr'.toList) hS (n := len) hcl (by simp only [maxLen]; omega) hda hla (fun s hs => (List.all_eq_true.1 hsc) s hs) (rowsOf_ok hcl) (s := .slc true H.nxt 0 0 len) (v := .slice (some ⟨w.heap.size, 0, none⟩) len len)
            (fun β' hb => by simp only [den, slcDen, if_true]; exact .inr ⟨_, hb, trivial, rfl, Nat.le_refl _, rfl⟩) (Nat.lt_succ_self _) hk
          simpa using this
      · exact h.elim
    · exact h.elim
  · exact h.elim

end Go.Sk
