/-
  A frame for walks, tenth part: append.
  Conditions: none; definitions and lemmas over any program.
-/
import Derived.Test.YtnkodcknbeahcaaSkI
set_option linter.unusedSimpArgs false
set_option linter.unusedVariables false
namespace Go.Sk
open Go.RowKit

/-- The elements of a row, one behind the other. -/
def flatS (f : Nat → List SV) : Nat → List SV
  | 0 => []
  | n + 1 => flatS f n ++ f n

theorem flatS_length {f : Nat → List SV} {sz : Nat} : ∀ {n : Nat}, (∀ i, i < n → (f i).length = sz) → (flatS f n).length = n * sz
  | 0, _ => by simp [flatS]
  | n + 1, h => by
    rw [flatS, List.length_append, flatS_length fun i hi => h i (by omega), h n (by omega), Nat.add_mul]; omega

theorem flatS_get {f : Nat → List SV} {sz : Nat} : ∀ {n : Nat}, (∀ i, i < n → (f i).length = sz) → ∀ i, i < n → ∀ j, j < sz → (f i)[j]? = (flatS f n)[i * sz + j]?
  | 0, _, _, hi, _, _ => by omega
  | n + 1, h, i, hi, j, hj => by
    have hl := flatS_length (f := f) (sz := sz) (n := n) fun i hi => h i (by omega)
    rw [flatS, List.getElem?_append, hl]
    by_cases hin : i < n
    · have : i * sz + j < n * sz := by
        have h2 : (i + 1) * sz ≤ n * sz := Nat.mul_le_mul_right _ hin
        rw [Nat.add_mul] at h2; omega
      rw [if_pos this]
      exact flatS_get (fun i hi => h i (by omega)) i hin j hj
    · have : i = n := by omega
      subst this
      rw [if_neg (by omega)]
      congr 1; omega

theorem flatS_mem {f : Nat → List SV} {sz : Nat} : ∀ {n : Nat}, (∀ i, i < n → (f i).length = sz) → ∀ (q : Nat) (s : SV), (flatS f n)[q]? = some s → ∃ i j, i < n ∧ j < sz ∧ q = i * sz + j ∧ (f i)[j]? = some s
  | 0, _, q, s, hq => by simp [flatS] at hq
  | n + 1, h, q, s, hq => by
    have hl := flatS_length (f := f) (sz := sz) (n := n) fun i hi => h i (by omega)
    rw [flatS, List.getElem?_append, hl] at hq
    split at hq
    · obtain ⟨i, j, h1, h2, h3, h4⟩ := flatS_mem (fun i hi => h i (by omega)) q s hq
      exact ⟨i, j, by omega, h2, h3, h4⟩
    · have hj : q - n * sz < sz := by
        have := (List.getElem?_eq_some_iff.1 hq).1
        rw [h n (by omega)] at this; exact this
      exact ⟨n, q - n * sz, by omega, hj, by omega, hq⟩

theorem run_append_zero {P : Program} (w : World) (t ty e : TypeId) (i : TypeInfo) (ht : P.underlying t = some (.slice e)) (hi : P.info? e = some i) (a : Option Addr) (n c c' : Nat) (hn : n ≤ c) :
    (Builtin.append_ #[t, t] ty #[.slice a n c, .slice none 0 c']).run P w = .ok (.slice a n c) w := by
  cases a with
  | none => simp [Builtin.append_, run_underlying ht, sizeOf, typeInfo, hi, Builtin.lenOf, Builtin.firstCells, hn]
  | some a => simp [Builtin.append_, run_underlying ht, sizeOf, typeInfo, hi, Builtin.lenOf, Builtin.firstCells, hn, storeCells]

/-- What append onto a row of the call's own leaves: its place and its first cells. -/
structure Appended (w w' : World) (e : TypeId) (sz : Nat) (v v' : Value) (n m : Nat) (cells : List Value) : Prop where
  os : w'.os = w.os
  tape : w'.tape = w.tape
  output : w'.output = w.output
  size : w.heap.size ≤ w'.heap.size
  block : ∀ k, k < w.heap.size → some k ≠ v.ownBlock → w'.heap[k]? = w.heap[k]?
  out : (v = .slice none 0 0 ∧ m = 0 ∧ v' = .slice none 0 0) ∨
    ∃ g cap cur, v' = .slice (some ⟨g, 0, none⟩) (n + m) cap ∧ w'.heap[g]? = some (.cells cur e (0, 0)) ∧ n + m ≤ cap ∧ cap ≤ maxLen ∧ cur.size = cap * sz ∧ cur.toList.take ((n + m) * sz) = cells ∧ (some g = v.ownBlock ∨ w.heap.size ≤ g)

theorem run_append_at {P : Program} (w : World) (t ty e : TypeId) (i : TypeInfo) (z : Value) (ht : P.underlying t = some (.slice e)) (hi : P.info? e = some i) (hz : i.zero = some z)
    (hzs : z.cells.size = i.size) (v : Value) (n : Nat) (xs : List Value) (hown : w.ownsRow 0 e i.size v n xs)
    (a : Option Addr) (m c : Nat) (news : List Value) (hl : news.length = m * i.size) (hnews : ∀ b, a = some b → ∀ (j : Nat) (u : Value), news[j]? = some u → w.cell? (b.add j) = some u) (hna : a = none → m = 0) (h1 : ∀ u ∈ news, u.oneCell' = true)
    (h63 : n + m ≤ maxLen) (hbytes : (n + m) * i.bytes ≤ 140737488355328) :
    ∃ v' w', (Builtin.append_ #[t, t] ty #[v, .slice a m c]).run P w = .ok v' w' ∧ Appended w w' e i.size v v' n m (xs ++ news) := by
  have hsmall : n + m ≤ 9223372036854775807 := by simp only [maxLen] at h63; omega
  have hlen : (xs ++ news).length = (n + m) * i.size := by rw [List.length_append, hown.1, hl, Nat.add_mul]
  cases a with
  | none =>
    have hm := hna rfl
    subst hm
    have hn0 : news = [] := List.eq_nil_of_length_eq_zero (by simpa using hl)
    subst hn0
    rcases hown.2 with ⟨rfl, rfl⟩ | ⟨g, cap, cur, rfl, _, hg, hnc, hcm, hcs, htake⟩
    · exact ⟨_, w, run_append_zero w t ty e i ht hi none 0 0 c (Nat.le_refl _), ⟨rfl, rfl, rfl, Nat.le_refl _, fun _ _ _ => rfl, .inl ⟨rfl, rfl, rfl⟩⟩⟩
    · exact ⟨_, w, run_append_zero w t ty e i ht hi _ n cap c hnc, ⟨rfl, rfl, rfl, Nat.le_refl _, fun _ _ _ => rfl, .inr ⟨g, cap, cur, rfl, hg, hnc, hcm, hcs, by simpa using htake, .inl rfl⟩⟩⟩
  | some ad =>
    have hnews' := hnews ad rfl
    have grown : ∀ (old : Nat), old < n + m → ∀ (v : Value),
        Appended w (w.drew.alloc (.cells (xs.toArray ++ news.toArray ++ Builtin.zeroCells z.cells (grownCap w (n + m) old e - (n + m))) e)) e i.size v (.slice (some ⟨w.heap.size, 0, none⟩) (n + m) (grownCap w (n + m) old e)) n m (xs ++ news) := by
      intro old ho v
      have hge := grownCap_ge w (n + m) old e
      have hcm : grownCap w (n + m) old e ≤ maxLen := grownCap_le_maxLen w (n + m) old e h63
      refine ⟨rfl, rfl, rfl, by simp, fun k hk _ => heap_alloc_old w.drew _ hk, .inr ⟨w.heap.size, _, _, rfl, heap_alloc_new w.drew _, hge, hcm, ?_, ?_, .inr (Nat.le_refl _)⟩⟩
      · simp only [Array.size_append, List.size_toArray, size_zeroCells, hzs, hown.1, hl, ← Nat.add_mul]
        congr 1
        omega
      · simp only [Array.toList_append, List.append_assoc]
        rw [← List.append_assoc, ← hlen]
        exact List.take_left
    rcases hown.2 with ⟨rfl, rfl⟩ | ⟨g, cap, cur, rfl, _, hg, hnc, hcm, hcs, htake⟩
    · have hx : xs = [] := List.eq_nil_of_length_eq_zero (by simpa using hown.1)
      subst hx
      by_cases hm : m = 0
      · subst hm
        have hn0 : news = [] := List.eq_nil_of_length_eq_zero (by simpa using hl)
        subst hn0
        refine ⟨.slice none 0 0, w, ?_, ⟨rfl, rfl, rfl, Nat.le_refl _, fun _ _ _ => rfl, .inl ⟨rfl, rfl, rfl⟩⟩⟩
        simp [Builtin.append_, run_underlying ht, sizeOf, typeInfo, hi, Builtin.lenOf, Builtin.firstCells, loadCells, loadCellsFrom]
      · have hr := run_append_nil (P := P) w t ty e i z ht hi hz ad m c news hl hnews' (by omega) (by omega) (by have hb := hbytes; simp only [Nat.zero_add] at hb; omega)
        have hgr := grown 0 (by omega) (.slice none 0 0)
        simp only [Nat.zero_add, List.nil_append, Array.empty_append] at hgr
        exact ⟨_, _, hr, by simpa only [Nat.zero_add, List.nil_append] using hgr⟩
    · by_cases hroom : n + m ≤ cap
      · have hfit : n * i.size + news.length ≤ cur.size := by rw [hl, hcs, ← Nat.add_mul]; exact Nat.mul_le_mul_right _ hroom
        have hr := run_append_room (P := P) w t ty e i ht hi g n cap cur hg ad m c news hl hnews' h1 hroom hfit
        refine ⟨_, _, hr, ⟨rfl, rfl, rfl, by simp, fun k _ hk => setRow_other w g k _ (fun e => hk (by simp [Value.ownBlock, e])), .inr ⟨g, cap, _, rfl, setRow_heap w g cur _ e _ hg, hroom, hcm, ?_, ?_, .inl rfl⟩⟩⟩
        · simp only [List.size_toArray, List.length_append, List.length_take, List.length_drop, Array.length_toList]
          omega
        · rw [htake, ← hlen]
          exact List.take_left
      · have holds : ∀ (j : Nat) (u : Value), xs[j]? = some u → w.cell? ((⟨g, 0, none⟩ : Addr).add j) = some u := hown.cells (g := g) rfl
        have hr := run_append_grow (P := P) w t ty e i z ht hi hz ⟨g, 0, none⟩ n cap xs hown.1 holds ad m c news hl hnews' (by omega) (by omega) (growslice_fits (by omega) hbytes)
        exact ⟨_, _, hr, grown cap (by omega) _⟩

/-! ### The rule -/
def app (f : Nat → List SV) (n : Nat) (g : Nat → List SV) : Nat → List SV := fun i => if i < n then f i else g (i - n)

/-- The source of an append: how many elements, and what they are. -/
def srcK (H : AH) (sz : Nat) (x : SV) (k : Nat → (Nat → List SV) → Prop) : Prop :=
  match x with
  | .nils => k 0 (fun _ => [])
  | .slc _ id kk o m =>
    match find H.os id with
    | some (c, F) =>
      match F kk with
      | .row r => (kk < c ∧ o + m ≤ r.n ∧ r.sz = sz) ∧ (match o with | 0 => k m r.f | o => k m (fun i => r.f (o + i)))
      | _ => False
    | none => False
  | _ => False

def appendK (P : Program) (m0 : Nat) (dr : Bool) (W : List Nat) (H : AH) (t t' : TypeId) (s x : SV) (k : SV → AH → Prop) : Prop :=
  match (tyOf P t).kd with
  | .slice e =>
    (t' = t ∧ (tyOf P t).ok = true ∧ (tyOf P e).ok = true ∧ szOf P e ≠ 0 ∧ (zeroOf P e).map List.length = some (szOf P e)) ∧
    srcK H (szOf P e) x fun m g =>
      match s with
      | .nils => (m ≤ 1073741824 ∧ (tyOf P e).bytes ≤ 1024) ∧ k (.slc true H.nxt 0 0 m) ⟨H.nxt + 1, (H.nxt, one (.row ⟨true, false, e, szOf P e, m, g⟩)) :: H.os⟩
      | .slc true id 0 0 n =>
        match find H.os id with
        | some (c, F) =>
          match F 0 with
          | .row r => (r.own = true ∧ (dr = true → W.contains id = true) ∧ c = 1 ∧ m0 ≤ id ∧ r.n = n ∧ r.sz = szOf P e ∧ r.e = e ∧ n + m ≤ 1073741824 ∧ (tyOf P e).bytes ≤ 1024) ∧
              k (.slc true H.nxt 0 0 (n + m)) ⟨H.nxt + 1, (H.nxt, one (.row ⟨true, false, e, szOf P e, n + m, app r.f n g⟩)) :: dropO H.os id⟩
          | _ => False
        | none => False
      | _ => False
  | _ => False

theorem St.extBut {X : Cx} {β : Env} {H : AH} {w w' : World} (h : St X β H w) (h1 : w'.os = w.os) (h2 : w'.tape = w.tape) (h3 : w'.output = w.output) (h4 : w.heap.size ≤ w'.heap.size) {B : Nat → Prop}
    (h5 : ∀ b, b < w.heap.size → ¬ B b → w'.heap[b]? = w.heap[b]?) (h6 : ∀ b, B b → X.w0.heap.size ≤ b) (h7 : ∀ id k o L, look H.os id k = some o → β id k = some L → ¬ B L.blk) : St X β H w' where
  os := h1.trans h.os
  tape := h2.trans h.tape
  output := h3.trans h.output
  size := Nat.le_trans h.size h4
  fix := h.fix
  holds id k o ho := (h.holds id k o ho).mono h4 fun L hL hl => h5 _ hl (h7 _ _ _ _ ho hL)
  sep := h.sep
  old b hb hn := (h5 b (Nat.lt_of_lt_of_le hb h.size) (fun hB => by have := h6 b hB; omega)).trans (h.old b hb hn)
  mine := h.mine
  keep := h.keep
  m0 := h.m0
  lt := h.lt

/-- The cells of a row as a list of values. -/
def rowVals (w : World) (L : Loc) (o : Nat) (cnt : Nat) : List Value := (List.range cnt).map fun q => (w.cell? ⟨L.blk, o + q, none⟩).getD undef

theorem row_vals {β : Env} {w : World} {r : Row} {L : Loc} (h : r.cellsOk β w L) (hsz : L.sz = r.sz) {o m : Nat} (hom : o + m ≤ r.n) :
    denL β (flatS (fun i => r.f (o + i)) m) (rowVals w L (L.off + o * r.sz) (m * r.sz)) ∧
    (∀ (j : Nat) (u : Value), (rowVals w L (L.off + o * r.sz) (m * r.sz))[j]? = some u → w.cell? ⟨L.blk, L.off + o * r.sz + j, none⟩ = some u) ∧
    (∀ s ∈ flatS (fun i => r.f (o + i)) m, s.scalar = true) := by
  have hlen : ∀ i, i < m → ((fun i => r.f (o + i)) i).length = r.sz := fun i hi => (h (o + i) (by omega)).1
  have hfl := flatS_length hlen
  have key : ∀ (q : Nat) (s : SV), (flatS (fun i => r.f (o + i)) m)[q]? = some s → s.scalar = true ∧ ∃ v, w.cell? ⟨L.blk, L.off + o * r.sz + q, none⟩ = some v ∧ den β s v := fun q s hq => by
    obtain ⟨i, j, hi, hj, rfl, hs⟩ := flatS_mem hlen q s hq
    obtain ⟨h1, v, h2, h3⟩ := (h (o + i) (by omega)).2 j s hs
    refine ⟨h1, v, ?_, h3⟩
    rw [hsz, Nat.add_mul] at h2
    rw [← h2]; congr 2; omega
  refine ⟨?_, fun j u hj => ?_, fun s hs => ?_⟩
  · have := denL_mk (β := β) _ (fun q => (w.cell? ⟨L.blk, L.off + o * r.sz + q, none⟩).getD undef) (fun q s hq => by
      obtain ⟨_, v, h2, h3⟩ := key q s hq
      rw [h2]; exact h3)
    rw [hfl] at this
    exact this
  · unfold rowVals at hj
    rw [List.getElem?_map] at hj
    have hlt : j < m * r.sz := by
      rcases Nat.lt_or_ge j (m * r.sz) with h' | h'
      · exact h'
      · rw [List.getElem?_eq_none (by simpa using h')] at hj; cases hj
    rw [List.getElem?_range hlt] at hj
    cases hj
    obtain ⟨_, v, h2, _⟩ := key j _ (List.getElem?_eq_getElem (by rw [hfl]; exact hlt))
    simp [h2]
  · obtain ⟨q, hq⟩ := List.getElem?_of_mem hs
    exact (key q s hq).1

theorem rowVals_length (w : World) (L : Loc) (o cnt : Nat) : (rowVals w L o cnt).length = cnt := by simp [rowVals]

theorem srcK_ok {X : Cx} {β : Env} {H : AH} {w : World} (hS : St X β H w) {sz : Nat} {x : SV} {vx : Value} {k : Nat → (Nat → List SV) → Prop} (h : srcK H sz x k) (hx : den β x vx) :
    ∃ m g a c news, k m g ∧ vx = .slice a m c ∧ (a = none → m = 0) ∧ news.length = m * sz ∧ (∀ b, a = some b → ∀ (j : Nat) (u : Value), news[j]? = some u → w.cell? (b.add j) = some u) ∧
      denL β (flatS g m) news ∧ SV.ltL H.nxt (flatS g m) ∧ (∀ s ∈ flatS g m, s.scalar = true) ∧ (∀ i, i < m → (g i).length = sz) := by
  unfold srcK at h
  split at h
  · simp only [den] at hx
    subst hx
    exact ⟨0, _, none, 0, [], h, rfl, fun _ => rfl, by simp, fun b hb => (by cases hb), rfl, trivial, fun s hs => (by cases hs), fun i hi => by omega⟩
  · rename_i g id kk o m
    split at h
    · rename_i c F hf
      split at h
      · rename_i r hr
        obtain ⟨⟨hk, hom, hsz⟩, h⟩ := h
        have hl := look_of_find hf hk
        rw [hr] at hl
        have hkg : k m (fun i => r.f (o + i)) := by
          cases o with
          | zero => simpa using h
          | succ o => exact h
        simp only [den] at hx
        obtain ⟨a0, c0, rfl, hmc⟩ := slcDen_len hx
        by_cases hm : m = 0
        · subst hm
          exact ⟨0, _, a0, c0, [], hkg, rfl, fun _ => rfl, by simp, fun b hb j u hj => (by simp at hj), rfl, trivial, fun s hs => (by cases hs), fun i hi => by omega⟩
        · obtain ⟨L, c1, hb, he⟩ := slcDen_addr hx (by omega)
          simp only [Value.slice.injEq] at he
          obtain ⟨rfl, _, rfl⟩ := he
          rcases hS.holds _ _ _ hl with ⟨_, hq⟩ | ⟨L', hq, h1, h2, h3, _⟩
          · rw [hb] at hq; cases hq
          · rw [hb] at hq
            cases hq
            obtain ⟨q1, q2, q3⟩ := row_vals h3 h1 hom
            subst hsz
            refine ⟨m, _, _, c0, _, hkg, rfl, fun hn => (by cases hn), rowVals_length _ _ _ _, fun b hb' j u hj => ?_, q1, ?_, q3, fun i hi => (h3 _ (by omega)).1⟩
            · cases hb'
              rw [addr_add, h1]
              exact q2 j u hj
            · refine SV.ltL_of_get fun q s hq => ?_
              obtain ⟨i, j, hi, hj, rfl, hs⟩ := flatS_mem (fun i hi => (h3 (o + i) (by omega)).1) q s hq
              exact (hS.lt _ _ _ hl).2 (o + i) j s (by show o + i < r.n; omega) hs
      · exact h.elim
    · exact h.elim
  · exact h.elim

theorem flatS_app (f g : Nat → List SV) (n : Nat) : ∀ m, flatS (app f n g) (n + m) = flatS f n ++ flatS g m
  | 0 => by
    have : ∀ n', n' ≤ n → flatS (app f n g) n' = flatS f n' := by
      intro n'
      induction n' with
      | zero => intro _; rfl
      | succ q ih => intro hq; simp only [flatS]; rw [ih (by omega)]; congr 1; unfold app; rw [if_pos (by omega)]
    simp [this n (Nat.le_refl _), flatS]
  | m + 1 => by
    rw [← Nat.add_assoc]
    simp only [flatS]
    rw [flatS_app f g n m, List.append_assoc]
    congr 2
    unfold app
    rw [if_neg (by omega)]
    congr 1; omega

theorem appendK_ok {X : Cx} {β : Env} {H : AH} {w : World} (hS : St X β H w) {dr : Bool} {W : List Nat} {t t' ty : TypeId} {s x : SV} {vs vx : Value} {k : SV → AH → Prop} (h : appendK X.P X.m0 dr W H t t' s x k) (hs : den β s vs) (hx : den β x vx) :
    ∃ v' w', (Builtin.append_ #[t, t'] ty #[vs, vx]).run X.P w = .ok v' w' ∧ Aft X β H w k v' w' ∧ (dr = true → Kp w (inW β H W) w') := by
  unfold appendK at h
  split at h
  · rename_i e hkd
    obtain ⟨⟨rfl, hok, hoke, hsz, hzl⟩, h⟩ := h
    obtain ⟨m, g, a, c, news, h2, rfl, hna, hnl, hnews, hnd, hnlt, hnsc, hgl⟩ := srcK_ok hS h hx
    clear h
    have h := h2
    clear h2
    obtain ⟨inf, d, e1, e2, e3⟩ := tyOf_ok hok
    rw [e3] at hkd
    have := kdOf_slice hkd
    subst this
    obtain ⟨ei, de, e4, e5, e6⟩ := tyOf_ok hoke
    have hei2 : ei.size = szOf X.P e := by unfold szOf; simp [e4]
    have hbyt : (tyOf X.P e).bytes = ei.bytes := by rw [e6]
    have hzz : ∃ zv, ei.zero = some zv ∧ zv.cells.size = ei.size := by
      unfold zeroOf at hzl
      simp only [e4, Option.bind_some] at hzl
      cases hz0 : ei.zero with
      | none => simp [hz0] at hzl
      | some zv => simp [hz0] at hzl; exact ⟨zv, rfl, by omega⟩
    obtain ⟨zv, hzv, hzs⟩ := hzz
    have hone : ∀ u ∈ news, u.oneCell' = true := fun u hu => by
      obtain ⟨q, hq⟩ := List.getElem?_of_mem hu
      have hlen := denL_length hnd
      obtain ⟨s', hs'⟩ : ∃ s', (flatS g m)[q]? = some s' := ⟨_, List.getElem?_eq_getElem (by have := (List.getElem?_eq_some_iff.1 hq).1; omega)⟩
      obtain ⟨u', hu', hd'⟩ := denL_get hnd q s' hs'
      rw [hq] at hu'; cases hu'
      exact den_scalar (hnsc s' (List.mem_of_getElem? hs')) hd'
    -- what follows, once the old row is known
    have main : ∀ (H1 : AH) (n : Nat) (f : Nat → List SV) (xs : List Value), H1.nxt = H.nxt → (∀ id k o, look H1.os id k = some o → look H.os id k = some o) → St X β H1 w → w.ownsRow 0 e ei.size vs n xs → denL β (flatS f n) xs → SV.ltL H.nxt (flatS f n) → (∀ s ∈ flatS f n, s.scalar = true) → (∀ i, i < n → (f i).length = szOf X.P e) →
        (∀ b, vs.ownBlock = some b → dr = true → inW β H W b) → (∀ b, vs.ownBlock = some b → X.w0.heap.size ≤ b ∧ ∀ id k o L, look H1.os id k = some o → β id k = some L → L.blk ≠ b) → n + m ≤ 1073741824 → (tyOf X.P e).bytes ≤ 1024 →
        k (.slc true H.nxt 0 0 (n + m)) ⟨H.nxt + 1, (H.nxt, one (.row ⟨true, false, e, szOf X.P e, n + m, app f n g⟩)) :: H1.os⟩ →
        ∃ v' w', (Builtin.append_ #[t', t'] ty #[vs, .slice a m c]).run X.P w = .ok v' w' ∧ Aft X β H w k v' w' ∧ (dr = true → Kp w (inW β H W) w') := by
      intro H1 n f xs hnxt hsub hS1 hown hfd hflt hfsc hfl hWb hblk hbig hby hk
      rw [hbyt] at hby
      have hbytes : (n + m) * ei.bytes ≤ 140737488355328 := by
        have : (n + m) * ei.bytes ≤ 1073741824 * 1024 := Nat.mul_le_mul hbig hby
        omega
      obtain ⟨v', w', hr, hA⟩ := run_append_at (P := X.P) w t' ty e ei zv e2 e4 hzv hzs vs n xs hown a m c news (by rw [hei2]; exact hnl) hnews hna hone (by unfold maxLen; omega) hbytes
      refine ⟨v', w', hr, ?_, fun hdr => ⟨hA.size, fun b hb hnb => hA.block b hb fun he => hnb (hWb b he.symm hdr)⟩⟩
      have hS2 : St X β H1 w' := hS1.extBut (B := fun b => vs.ownBlock = some b) hA.os hA.tape hA.output hA.size (fun b hb hnb => hA.block b hb (fun he => hnb he.symm)) (fun b hb => (hblk b hb).1) (fun id k o L hl hb hc => (hblk _ hc).2 id k o L hl hb rfl)
      have hlenA : ∀ i, i < n + m → (app f n g i).length = szOf X.P e := fun i hi => by
        unfold app
        split
        · exact hfl i (by assumption)
        · exact hgl _ (by omega)
      have hcs : (flatS (app f n g) (n + m)).length = (n + m) * szOf X.P e := flatS_length hlenA
      rcases hA.out with ⟨rfl, rfl, rfl⟩ | ⟨gb, cap, cur, rfl, hheap, hcap, hmax, hcsz, htake, hgb⟩
      · -- nothing is appended to nil
        have hn0 : n = 0 := by
          rcases hown.2 with ⟨_, h⟩ | ⟨_, _, _, h, _⟩
          · exact h
          · cases h
        subst hn0
        have hag := Env.agree_set β H.nxt (fun _ => none)
        refine ⟨β.set H.nxt (fun _ => none), _, _, hk, ?_, Nat.lt_succ_self _, ?_, hag, Nat.le_succ _, sub_cons _ _ _ hsub⟩
        · simp only [den, slcDen, if_true]
          refine .inl ⟨by unfold Env.set; rw [if_pos rfl], ?_⟩
          simp
        · rw [← hnxt]
          refine St.new' hS2 (fun k L _ he => by cases he) (fun k k' _ _ h h' _ _ _ => by omega) (fun k _ => .inl ⟨rfl, rfl⟩) (fun k _ => fun i j s hi _ => ?_)
          have hi' : i < 0 + 0 := hi
          omega
      · have hag := Env.agree_set β H.nxt (fun _ => some ⟨gb, 0, szOf X.P e, cap⟩)
        refine ⟨β.set H.nxt (fun _ => some ⟨gb, 0, szOf X.P e, cap⟩), _, _, hk, ?_, Nat.lt_succ_self _, ?_, hag, Nat.le_succ _, sub_cons _ _ _ hsub⟩
        · simp only [den, slcDen, if_true]
          exact .inr ⟨_, by unfold Env.set; rw [if_pos rfl], trivial, rfl, hcap, rfl⟩
        · have hall : SV.ltL H.nxt (flatS (app f n g) (n + m)) := by
            rw [flatS_app]
            exact SV.ltL_of_get fun q s hq => by
              rcases List.mem_append.1 (List.mem_of_getElem? hq) with hm | hm
              · obtain ⟨q', hq'⟩ := List.getElem?_of_mem hm
                exact SV.ltL_get hflt q' s hq'
              · obtain ⟨q', hq'⟩ := List.getElem?_of_mem hm
                exact SV.ltL_get hnlt q' s hq'
          have hdd : denL β (flatS (app f n g) (n + m)) (xs ++ news) := by rw [flatS_app]; exact denL_append hfd hnd
          have hscA : ∀ s ∈ flatS (app f n g) (n + m), s.scalar = true := fun s hs => by
            rw [flatS_app] at hs
            rcases List.mem_append.1 hs with hm | hm
            · exact hfsc s hm
            · exact hnsc s hm
          have hfA : ∀ i, i < n + m → (app f n g i).length = szOf X.P e ∧ ∀ j, j < szOf X.P e → (app f n g i)[j]? = (flatS (app f n g) (n + m))[i * szOf X.P e + j]? := fun i hi => ⟨hlenA i hi, flatS_get hlenA i hi⟩
          rw [← hnxt]
          refine St.new' hS2 (fun k L _ he => ?_) (fun k k' _ _ h h' _ _ _ => by omega) (fun k _ => ?_) (fun k _ => row_lt (SV.ltL_mono (by omega) _ hall) hfA)
          · cases he
            rcases hgb with hgb | hgb
            · exact hblk _ hgb.symm
            · refine ⟨Nat.le_trans hS1.size hgb, fun id k o L hl hb he => ?_⟩
              have := hS1.blk_lt hl hb
              simp only at he
              omega
          · rw [hnxt]
            refine row_holds (b := gb) (cap := cap) hheap (by rw [← hei2]; exact hcsz) hcap hmax (fun j hj => ?_) (denL_agree hag _ _ hall hdd) hscA hfA
            have : j < ((n + m) * ei.size) := by rw [hei2]; exact hj
            rw [← htake, List.getElem?_take, if_pos this]
            simp
    split at h
    · -- nil
      obtain ⟨⟨hbig, hby⟩, hk⟩ := h
      simp only [den] at hs
      subst hs
      refine main H 0 (fun _ => []) [] rfl (fun _ _ _ h => h) hS (World.ownsRow_nil w 0 e ei.size) rfl trivial (fun s hs => by cases hs) (fun i hi => by omega) (fun b hb => by simp [Value.ownBlock] at hb) (fun b hb => by simp [Value.ownBlock] at hb) (by omega) hby ?_
      rw [Nat.zero_add]
      have : app (fun _ => []) 0 g = g := by funext i; simp [app]
      rw [this]; exact hk
    · rename_i id n
      split at h
      · rename_i cc F hf
        split at h
        · rename_i r hr
          obtain ⟨⟨hown, hWid, hc1, hm0, hrn, hrsz, hre, hbig, hby⟩, hk⟩ := h
          subst hc1
          have hl := look_of_find hf (show (0 : Nat) < 1 by omega)
          rw [hr] at hl
          have hl' := hl
          simp only [den, slcDen, if_true] at hs
          have hSd := hS.drop id hm0
          have hdsub : ∀ id' k o, look (dropO H.os id) id' k = some o → look H.os id' k = some o := fun id' k o h => by
            rw [look_dropO] at h
            split at h
            · cases h
            · exact h
          rcases hS.holds _ _ _ hl with ⟨hn0, hq⟩ | ⟨L, hq, h1, h2, h3, h4⟩
          · -- nil, in fact
            rcases hs with ⟨_, rfl, _, rfl⟩ | ⟨L, hb, _⟩
            · refine main ⟨H.nxt, dropO H.os id⟩ 0 r.f [] rfl hdsub hSd (World.ownsRow_nil w 0 e ei.size) rfl trivial (fun s hs => by cases hs) (fun i hi => by omega) (fun b hb => by simp [Value.ownBlock] at hb) (fun b hb => by simp [Value.ownBlock] at hb) hbig hby hk
            · rw [hq] at hb; cases hb
          · rcases hs with ⟨hb, _⟩ | ⟨L', hb, _, hoff, hncap, rfl⟩
            · rw [hq] at hb; cases hb
            · rw [hq] at hb
              cases hb
              obtain ⟨_, hrc, hmax, cur, hcur, hcsz⟩ := h4 hown
              obtain ⟨q1, q2, q3⟩ := row_vals h3 h1 (o := 0) (m := n) (by omega)
              have hfun : (fun i => r.f (0 + i)) = r.f := by funext i; rw [Nat.zero_add]
              rw [hfun] at q1 q3
              refine main ⟨H.nxt, dropO H.os id⟩ n r.f _ rfl hdsub hSd ⟨?_, .inr ⟨L.blk, L.cap, cur, rfl, Nat.zero_le _, by rw [← hre]; exact hcur, hncap, hmax, by rw [hei2, ← hrsz]; exact hcsz, ?_⟩⟩ q1 ?_ q3 (fun i hi => by rw [← hrsz]; exact (h3 i (by omega)).1) (fun b hb hdr => ?_) (fun b hb => ?_) hbig hby hk
              · rw [rowVals_length, hrsz, hei2]
              · -- the first cells of the block are the row's values
                apply List.ext_getElem?
                intro q
                rw [List.getElem?_take, hei2, ← hrsz]
                by_cases hq2 : q < n * r.sz
                · rw [if_pos hq2]
                  have hlt : q < (rowVals w L (L.off + 0 * r.sz) (n * r.sz)).length := by rw [rowVals_length]; exact hq2
                  have := q2 q _ (List.getElem?_eq_getElem hlt)
                  rw [List.getElem?_eq_getElem hlt, ← this]
                  simp [World.cell?, hcur, hoff]
                · rw [if_neg hq2, List.getElem?_eq_none (by rw [rowVals_length]; omega)]
              · refine SV.ltL_of_get fun q s hq => ?_
                obtain ⟨i, j, hi, hj, rfl, hs⟩ := flatS_mem (sz := r.sz) (fun i hi => (h3 i (by omega)).1) q s hq
                exact (hS.lt _ _ _ hl).2 i j s (by show i < r.n; omega) hs
              · simp only [Value.ownBlock, Option.some.injEq] at hb
                subst hb
                exact ⟨id, 0, _, L, by simpa using hWid hdr, hl, hown, hq, rfl⟩
              · simp only [Value.ownBlock, Option.some.injEq] at hb
                subst hb
                refine ⟨?_, fun id' k' o L' hl2 hb2 he => ?_⟩
                · rcases hS.mine _ _ _ _ hl hown hq with ⟨h, _⟩ | ⟨_, h⟩
                  · omega
                  · exact h
                · rw [look_dropO] at hl2
                  split at hl2
                  · cases hl2
                  · rename_i hne
                    exact hne (hS.sep _ _ _ _ _ _ _ _ hl hl2 hown hq hb2 he.symm).1.symm
        · exact h.elim
      · exact h.elim
    · exact h.elim
  · exact h.elim

end Go.Sk
