/-
  A frame for walks, ninth part: stores, make, append, calls; one function over all operations that change the world.
  Conditions: none; definitions and lemmas over any program.
-/
import Derived.Test.YtnkodcknbeahcaaSkH
set_option linter.unusedSimpArgs false
set_option linter.unusedVariables false
namespace Go.Sk
open Go.RowKit

/-! ### A store -/
def updF (r : Row) (i : Nat) (c : List SV) : Nat → List SV :=
  if r.var then fun _ => c else fun i' => if i' = i then c else r.f i'

def storeK (P : Program) (H : AH) (dr : Bool) (W : List Nat) (t : TypeId) (sa sv : SV) (k : SV → AH → Prop) : Prop :=
  match sa with
  | .ptr id kk i j =>
    match find H.os id with
    | some (c, F) =>
      match F kk with
      | .row r =>
        (r.own = true ∧ kk < c ∧ i < r.n ∧ (r.var = true → r.n = 1) ∧ (dr = true → W.contains id = true) ∧ okCells sv = true ∧ sv.cells.all SV.scalar = true ∧ sv.cells.length = szOf P t ∧ szOf P t ≠ 0 ∧ j + sv.cells.length ≤ r.sz) ∧
        k (.raw undef) ⟨H.nxt, setO H.os id kk (.row { r with f := updF r i (spl (r.f i) j sv.cells) })⟩
      | _ => False
    | none => False
  | _ => False

theorem spl_get {α : Type} (cs : List α) (off : Nat) (ps : List α) (j : Nat) (h : off + ps.length ≤ cs.length) : (spl cs off ps)[j]? = if off ≤ j ∧ j < off + ps.length then ps[j - off]? else cs[j]? := by
  unfold spl
  rw [List.getElem?_append, List.getElem?_append]
  simp only [List.length_append, List.length_take, List.getElem?_take, List.getElem?_drop]
  have e : min off cs.length = off := by omega
  simp only [e]
  by_cases h1 : j < off
  · simp [h1, show ¬ off ≤ j by omega, show j < off + ps.length by omega]
  · by_cases h2 : j < off + ps.length
    · simp [h1, h2, show off ≤ j by omega]
    · simp only [h1, h2, if_false, and_false]
      congr 1; omega

/-- Rows of a block: two different elements do not overlap. -/
theorem row_apart {i i' sz j j' : Nat} (hj : j < sz) (hj' : j' < sz) (h : i * sz + j = i' * sz + j') : i = i' ∧ j = j' := by
  have h1 : (i * sz + j) / sz = i := by
    rw [Nat.mul_comm, Nat.mul_add_div (by omega), Nat.div_eq_of_lt hj]; omega
  have h2 : (i' * sz + j') / sz = i' := by
    rw [Nat.mul_comm, Nat.mul_add_div (by omega), Nat.div_eq_of_lt hj']; omega
  have : i = i' := by rw [← h1, ← h2, h]
  subst this
  exact ⟨rfl, by omega⟩

theorem storeK_ok {X : Cx} {β : Env} {H : AH} {w : World} (hS : St X β H w) {dr : Bool} {W : List Nat} {t : TypeId} {sa sv : SV} {va vv : Value} {k : SV → AH → Prop} (h : storeK X.P H dr W t sa sv k)
    (ha : den β sa va) (hv : den β sv vv) (hlv : sv.lt H.nxt) :
    ∃ w', (Instr.storeAt t va vv).run X.P w = .ok () w' ∧ Aft X β H w k undef w' ∧ (dr = true → Kp w (inW β H W) w') := by
  unfold storeK at h
  split at h
  · rename_i id kk i j
    split at h
    · rename_i c F hf
      split at h
      · rename_i r hr
        obtain ⟨⟨hown, hkk, hi, hvar, hW, hok, hsc, hlen, hsz, hfit⟩, hk⟩ := h
        have hl := look_of_find hf hkk
        rw [hr] at hl
        simp only [den] at ha
        obtain ⟨L, hb, rfl⟩ := ha
        have hh := hS.holds _ _ _ hl
        rcases hh with ⟨h0, _⟩ | ⟨L', hq, h1, h2, h3, h4⟩
        · omega
        · rw [hb] at hq
          cases hq
          obtain ⟨hoff, hncap, hmax, cur, hcur, hcs⟩ := h4 hown
          have hcd := cells_den hok hv
          have hclen := denL_length hcd
          simp only [Array.length_toList] at hclen
          obtain ⟨ti, hti, hti2⟩ := szOf_pos hsz
          have hrow : i * r.sz + r.sz ≤ r.n * r.sz := by
            have := Nat.mul_le_mul_right r.sz hi
            rw [Nat.succ_mul] at this; exact this
          have hcap : r.n * r.sz ≤ L.cap * r.sz := Nat.mul_le_mul_right _ hncap
          have hst := run_storeCells_at X.P L.blk (L.off + i * L.sz + j) r.e vv.cells.toList 0 cur w hcur (by rw [h1, hoff]; simp; omega) (fun u hu => by
            obtain ⟨q, hq⟩ := List.getElem?_of_mem hu
            obtain ⟨s, hs⟩ : ∃ s, sv.cells[q]? = some s := by
              have : q < sv.cells.length := by
                have := (List.getElem?_eq_some_iff.1 hq).1
                simp at this; omega
              exact ⟨_, List.getElem?_eq_getElem this⟩
            obtain ⟨u', hu', hd'⟩ := denL_get hcd q s hs
            rw [hq] at hu'
            cases hu'
            exact den_scalar ((List.all_eq_true.1 hsc) s (List.mem_of_getElem? hs)) hd')
          simp only [Nat.add_zero] at hst
          let o := L.off + i * L.sz + j
          let cur' : Array Value := (cur.toList.take o ++ vv.cells.toList ++ cur.toList.drop (o + vv.cells.toList.length)).toArray
          have hspl : cur'.toList = spl cur.toList o vv.cells.toList := rfl
          have hofit : o + vv.cells.toList.length ≤ cur.toList.length := by
            simp only [o, Array.length_toList]; rw [h1, hoff, hclen, hcs]; omega
          have hcur' : cur'.size = cur.size := by
            have := spl_length cur.toList o vv.cells.toList hofit
            rw [← hspl] at this; simpa using this
          have hget : ∀ q : Nat, cur'[q]? = if o ≤ q ∧ q < o + vv.cells.toList.length then vv.cells.toList[q - o]? else cur[q]? := fun q => by
            have := spl_get cur.toList o vv.cells.toList q hofit
            rw [← hspl] at this
            simpa using this
          have hheap := setRow_heap w L.blk cur cur' r.e (0, 0) hcur
          refine ⟨w.setRow L.blk cur', ?_, ?_, ?_⟩
          · have hsize : ¬ (vv.cells.size ≠ ti.size) := by omega
            simp only [Instr.storeAt, Instr.sureAddr, Sem.run_bind, Sem.run_pure, Result.andThen_ok, storeVar, sizeOf_run hti, if_neg hsize]
            exact hst
          · refine ⟨β, .raw undef, _, hk, rfl, trivial, ?_, Env.agree.refl _ _, Nat.le_refl _, fun id' k' o' _ hl' ho' => ?_⟩
            rotate_left
            · rw [look_setO _ _ _ _ _ hl] at hl'
              split at hl'
              · rename_i he
                exact ⟨.row r, by rw [he.1, he.2]; exact hl, hown⟩
              · exact ⟨_, hl', ho'⟩
            refine St.upd hS hl hown hb (o' := .row { r with f := updF r i (spl (r.f i) j sv.cells) }) hown (look_setO _ _ _ _ _ hl) ⟨rfl, rfl, rfl, by simp [World.setRow], fun b hbne => setRow_other w L.blk b _ hbne⟩ ?_ ?_
            · have hri : (r.f i).length = r.sz := (h3 i hi).1
              have hfi : ∀ i', i' < r.n → i' ≠ i → updF r i (spl (r.f i) j sv.cells) i' = r.f i' := fun i' hi' hne => by
                unfold updF
                split
                · rename_i hv'
                  have := hvar hv'
                  omega
                · show (if i' = i then _ else _) = _
                  rw [if_neg hne]
              have hfii : updF r i (spl (r.f i) j sv.cells) i = spl (r.f i) j sv.cells := by
                unfold updF
                split
                · rfl
                · show (if i = i then _ else _) = _
                  rw [if_pos rfl]
              refine .inr ⟨L, rfl, h1, by simpa [World.setRow] using h2, fun i' hi' => ?_, fun _ => ⟨hoff, hncap, hmax, cur', hheap, by rw [hcur']; exact hcs⟩⟩
              have hcell : ∀ q : Nat, (w.setRow L.blk cur').cell? ⟨L.blk, q, none⟩ = cur'[q]? := fun q => by simp [World.cell?, hheap]
              have hcell0 : ∀ q : Nat, w.cell? ⟨L.blk, q, none⟩ = cur[q]? := fun q => by simp [World.cell?, hcur]
              by_cases hii : i' = i
              · subst hii
                simp only [hfii]
                refine ⟨by rw [spl_length _ _ _ (by omega)]; exact hri, fun j' s hs => ?_⟩
                rw [spl_get _ _ _ _ (by omega)] at hs
                split at hs
                · rename_i hin
                  obtain ⟨u, hu, hud⟩ := denL_get hcd _ _ hs
                  refine ⟨(List.all_eq_true.1 hsc) s (List.mem_of_getElem? hs), u, ?_, hud⟩
                  rw [hcell, hget, if_pos (by simp only [o]; rw [Array.length_toList, hclen]; omega)]
                  rw [← hu]; congr 1; simp only [o]; omega
                · rename_i hnin
                  obtain ⟨h5, u, hu, hud⟩ := (h3 i' hi).2 j' s hs
                  refine ⟨h5, u, ?_, hud⟩
                  rw [hcell, hget, if_neg (by simp only [o]; rw [Array.length_toList, hclen]; omega), ← hcell0]
                  exact hu
              · simp only [hfi i' hi' hii]
                refine ⟨(h3 i' hi').1, fun j' s hs => ?_⟩
                obtain ⟨h5, u, hu, hud⟩ := (h3 i' hi').2 j' s hs
                refine ⟨h5, u, ?_, hud⟩
                have hj' : j' < r.sz := by
                  have := (List.getElem?_eq_some_iff.1 hs).1
                  rw [(h3 i' hi').1] at this; exact this
                rw [hcell, hget, if_neg ?_, ← hcell0]
                · exact hu
                · rintro ⟨q1, q2⟩
                  rw [Array.length_toList, hclen] at q2
                  simp only [o, h1] at q1 q2
                  have hjj : (L.off + i' * r.sz + j') - (L.off + i * r.sz) < r.sz := by omega
                  have := row_apart (i := i') (i' := i) (sz := r.sz) (j := j') (j' := (L.off + i' * r.sz + j') - (L.off + i * r.sz)) hj' hjj (by omega)
                  exact hii this.1
            · intro i' j' s hi' hs
              have hs' : (updF r i (spl (r.f i) j sv.cells) i')[j']? = some s := hs
              have hi'' : i' < r.n := hi'
              have hlt := (hS.lt _ _ _ hl).2
              unfold updF at hs'
              have hspl2 : ∀ (q : Nat) (s : SV), (spl (r.f i) j sv.cells)[q]? = some s → s.lt H.nxt := fun q s hq => by
                rw [spl_get _ _ _ _ (by rw [(h3 i hi).1]; omega)] at hq
                split at hq
                · exact SV.ltL_get (cells_lt hlv) _ _ hq
                · exact hlt i q s hi hq
              split at hs'
              · exact hspl2 _ _ hs'
              · simp only at hs'
                split at hs'
                · exact hspl2 _ _ hs'
                · exact hlt i' j' s hi'' hs'
          · intro hdr
            refine ⟨by simp [World.setRow], fun b hb2 hnb => setRow_other w L.blk b _ fun he => hnb ?_⟩
            have hWc := hW hdr
            exact ⟨id, kk, .row r, L, by simpa using hWc, hl, hown, hb, he.symm⟩
      · exact h.elim
    · exact h.elim
  · exact h.elim

/-! ### make([]T, n) -/
def mkK (P : Program) (H : AH) (t : TypeId) (sl sc : SV) (k : SV → AH → Prop) : Prop :=
  match sl, sc with
  | .int _ l, .int _ c =>
    match (tyOf P t).kd with
    | .slice e =>
      match zeroOf P e with
      | some z => ((tyOf P t).ok = true ∧ szOf P e ≠ 0 ∧ z.length = szOf P e ∧ z.all SV.scalar = true ∧ (tyOf P e).ok = true ∧ 0 ≤ l ∧ c = l ∧ l ≤ 1073741824 ∧ (tyOf P e).bytes ≤ 1024) ∧
          k (.slc true H.nxt 0 0 l.toNat) ⟨H.nxt + 1, (H.nxt, one (.row ⟨true, false, e, szOf P e, l.toNat, fun _ => z⟩)) :: H.os⟩
      | none => False
    | _ => False
  | _, _ => False

theorem replZ_get (z : List SV) : ∀ (n i : Nat), i < n → ∀ j, j < z.length → z[j]? = (replZ z n)[i * z.length + j]?
  | 0, _, h, _, _ => by omega
  | n + 1, 0, _, j, hj => by simp only [replZ, Nat.zero_mul, Nat.zero_add]; rw [List.getElem?_append, if_pos hj]
  | n + 1, i + 1, h, j, hj => by
    simp only [replZ]
    rw [List.getElem?_append, if_neg (by rw [Nat.add_mul]; omega), replZ_get z n i (by omega) j hj]
    congr 1
    rw [Nat.add_mul]; omega

theorem replZ_length (z : List SV) : ∀ n, (replZ z n).length = n * z.length
  | 0 => by simp [replZ]
  | n + 1 => by simp [replZ, replZ_length z n, Nat.add_mul]; omega

theorem replZ_mem (z : List SV) : ∀ n s, s ∈ replZ z n → s ∈ z
  | 0, s, h => by simp [replZ] at h
  | n + 1, s, h => by
    simp only [replZ, List.mem_append] at h
    rcases h with h | h
    · exact h
    · exact replZ_mem z n s h

theorem mkK_ok {X : Cx} {β : Env} {H : AH} {w : World} (hS : St X β H w) {t : TypeId} {sl sc : SV} {vl vc : Value} {k : SV → AH → Prop} (h : mkK X.P H t sl sc k) (hl : den β sl vl) (hc : den β sc vc) :
    ∃ v' w', (Instr.makeSlice t vl vc).run X.P w = .ok v' w' ∧ Aft X β H w k v' w' ∧ Below w.heap.size w w' := by
  unfold mkK at h
  split at h
  · rename_i kl l kc c
    split at h
    · rename_i e hkd
      split at h
      · rename_i z hz
        obtain ⟨⟨hok, hsz, hzl, hsc, hoke, h0, hcl, hbig, hby⟩, hk⟩ := h
        simp only [den] at hl hc
        subst hl hc hcl
        obtain ⟨inf, d, e1, e2, e3⟩ := tyOf_ok hok
        rw [e3] at hkd
        have := kdOf_slice hkd
        subst this
        obtain ⟨ei, de, e4, e5, e6⟩ := tyOf_ok hoke
        rw [e6] at hby
        have hby' : ei.bytes ≤ 1024 := hby
        clear hby
        have hei2 : ei.size = szOf X.P e := by unfold szOf; simp [e4]
        have hzz : ∃ zv, ei.zero = some zv ∧ z = zv.cells.toList.map ofConst1 := by
          unfold zeroOf at hz
          simp only [e4, Option.bind_some] at hz
          cases hz0 : ei.zero with
          | none => simp [hz0] at hz
          | some zv => simp [hz0] at hz; exact ⟨zv, rfl, hz.symm⟩
        obtain ⟨zv, hzv, rfl⟩ := hzz
        have hbm : (ei.bytes : Int) * c ≤ 281474976710656 := by
          have h1 : (ei.bytes : Int) * c ≤ 1024 * c := Int.mul_le_mul_of_nonneg_right (by omega) h0
          omega
        have hrun := run_make (P := X.P) w t e ei zv e2 e4 hzv kl kc c c h0 (Int.le_refl _) hbm (by omega)
        refine ⟨_, _, hrun, ?_, (Below.refl _ w).alloc (Nat.le_refl _) _⟩
        have hzsz : zv.cells.size = ei.size := by have := hzl; simp at this; omega
        have hmade : (madeCells zv.cells (c.toNat * ei.size)).toList = (List.range (c.toNat * zv.cells.toList.length)).map fun j => zv.cells.toList.getD (j % zv.cells.toList.length) default := by
          simp [madeCells, hzsz, List.getD, Array.getElem!_eq_getD, Array.getD_eq_getD_getElem?]
        have hne : (zv.cells.toList.map ofConst1).length ≠ 0 := by rw [hzl]; exact hsz
        have hrz := replZ_eq zv.cells.toList c.toNat hne
        have hd : denL β (replZ (zv.cells.toList.map ofConst1) c.toNat) (madeCells zv.cells (c.toNat * ei.size)).toList := by
          rw [hrz, hmade]; exact ofConst1_denL β _
        have hm : c.toNat ≤ maxLen := by unfold maxLen; omega
        have hrl : (replZ (zv.cells.toList.map ofConst1) c.toNat).length = c.toNat * szOf X.P e := by rw [replZ_length, hzl]
        have hlt : SV.ltL H.nxt (replZ (zv.cells.toList.map ofConst1) c.toNat) := by rw [hrz]; exact ofConst1_ltL _ _
        have hf : ∀ i, i < c.toNat → ((fun _ => zv.cells.toList.map ofConst1 : Nat → List SV) i).length = szOf X.P e ∧ ∀ j, j < szOf X.P e → ((fun _ => zv.cells.toList.map ofConst1 : Nat → List SV) i)[j]? = (replZ (zv.cells.toList.map ofConst1) c.toNat)[i * szOf X.P e + j]? := fun i hi => ⟨hzl, fun j hj => by rw [← hzl]; exact replZ_get _ _ i hi j (by rw [hzl]; exact hj)⟩
        have hall : ∀ s ∈ replZ (zv.cells.toList.map ofConst1) c.toNat, s.scalar = true := fun s hs => (List.all_eq_true.1 hsc) s (replZ_mem _ _ s hs)
        have hnew := aft_new (e := e) (var := false) (sz := szOf X.P e) (f := fun _ => zv.cells.toList.map ofConst1) (vs := (madeCells zv.cells (c.toNat * ei.size)).toList) (s := .slc true H.nxt 0 0 c.toNat) (v := .slice (some ⟨w.heap.size, 0, none⟩) c.toNat c.toNat) hS hrl hm hd hlt hall hf
          (fun β' hb => by simp only [den, slcDen, if_true]; exact .inr ⟨_, hb, trivial, rfl, Nat.le_refl _, rfl⟩) (Nat.lt_succ_self _) hk
        rw [Array.toArray_toList] at hnew
        exact hnew
      · exact h.elim
    · exact h.elim
  · exact h.elim

end Go.Sk
