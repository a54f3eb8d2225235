/-
  LockfreeChanges: for every input the law returns true, and the input reads as before.
  Conditions: those that each statement names.
-/
import Derived.Test.YtbejjmhafofhjaaDoorQkb
import Derived.Test.YtbejjmhafofhjaaDoorChecked
import Derived.Below
import Derived.ChangeSame
import Derived.ChangeSlices
import Derived.ReadAgain
import Derived.OpenShut
import Derived.JoinedOf
import Derived.Handed
import Derived.Deep.Slices
import Derived.Lib.LaidTab
import Derived.Test.YtbejjmhafofhjaaDoorQkd
import Derived.Test.YtbejjmhafofhjaaDoorQkc
import Derived.Test.YtbejjmhafofhjaaDoorRows
import Derived.Test.YtbejjmhafofhjaaDoorCards
import Derived.Test.YtbejjmhafofhjaaDoorTie
import Derived.WalkKit
import Derived.ProofKit
import Derived.Deep.DeepHandedRow
set_option linter.unusedSimpArgs false
set_option linter.unusedVariables false
set_option maxRecDepth 4000
namespace Go.Sk
open Go.RowKit
section
variable {X : Cx} {ops : Array Oper} {K : Fr → AH → Prop} {Q : Exit → Act → World → Prop} {Wf Uq : List (List Nat)}
end
variable {X : Cx} {Q : Exit → Fr → AH → Prop} {fr : Fr} {H : AH} {l : List Code}
end Go.Sk

set_option linter.unusedSimpArgs false
set_option linter.unusedVariables false
set_option maxRecDepth 4000
namespace Go.Sk
open Go.RowKit Go.WideShapes Go.ChangeShapes
theorem below_sameAt {w w' : World} (h : Below w.heap.size w w') {p : MemPlace} (hp : p.block < w.heap.size) : w.sameAt w' p := by
 cases p with
 |cell b off => exact World.cell?_of_block (h.block b hp)
 |map b => exact h.block b hp
section
variable {H : Type} {enc : TypeId × Value → H} {P : Program}
theorem trodAll_carry {w w' : World} {base : Nat} {sp : Nat → Bool} {held : Bool} : ∀ {ts : List TypeId} {vs : List Value} {ds : List (DataW H)} {ps : List MemPlace}, DataW.TrodAll enc P w base sp held ts vs ds ps → (∀ p ∈ ps, w.sameAt w' p) →
  DataW.TrodAll enc P w' base sp held ts vs ds ps
 |[], [], [], _, h, _ => h
 |_ :: _, _ :: _, _ :: _, _, ⟨p, q, ⟨n, h1⟩, h2, e⟩, hs =>
  ⟨p, q, ⟨n, DataW.trod_carry n _ _ _ h1 fun x hx => hs x (by rw [e]; exact List.mem_append_left _ hx)⟩, trodAll_carry h2 (fun x hx => hs x (by rw [e]; exact List.mem_append_right _ hx)), e⟩
theorem trodAll_len {w : World} {base : Nat} {sp : Nat → Bool} {held : Bool} : ∀ {ts : List TypeId} {vs : List Value} {ds : List (DataW H)} {ps : List MemPlace}, DataW.TrodAll enc P w base sp held ts vs ds ps → ds.length = ts.length
 |[], [], [], _, _ => rfl
 |_ :: _, _ :: _, _ :: _, _, ⟨_, _, _, h2, _⟩ => by simp [trodAll_len h2]
theorem law_post {f : Func} {s : ChangeSpec} {apart fresh handsOn again : Bool} {W W' : World} {args : Array Value} {ds gs : List (DataW H)} {before : List MemPlace} (hl : laidOutB P = true) (hm : mapsRowed P = true)
  (hz : ∀ t e, t < P.types.size → P.underlying t = some (.slice e) → 0 < P.cellsOf e) (hts : ∀ t ∈ f.params.toList, t < P.types.size) (hv : s.vars = [])
  (hW : DataW.Whole enc P f.params.toList s.vars apart W args.toList ds gs before) (hb : Below W.heap.size W W') {tb : TypeId} (hres : f.resultTypes = #[tb]) (hbool : P.underlying tb = some .bool)
  (hfn : ∀ ds : List (DataW H), ds.length = f.params.toList.length → s.fn H ds = { results := [.lit (.bool true)], args := ds }) : s.post enc P f apart fresh handsOn again W args (.bool true) W' := by
 have hW' := hW
 obtain ⟨p, q, hA, hV, rfl, hfz, hnd⟩ := hW
 rw [hv] at hV
 have hq : gs = [] ∧ q = [] := by
  cases gs with
  |nil => exact ⟨rfl, hV⟩
  |cons _ _ => exact hV.elim
 obtain ⟨rfl, rfl⟩ := hq
 have hfn' := hfn (ds ++ []) (by rw [List.append_nil]; exact trodAll_len hA)
 have hlt : ∀ x ∈ p, x.block < W.heap.size := DataW.TrodAll.lt hA
 have hargs : ∀ sp : Nat → Bool, (∀ x ∈ p ++ [], sp x.block = true) → DataW.TrodAll enc P W' 0 sp true f.params.toList args.toList ds p := fun sp hsp =>
  trodAll_carry (DataW.TrodAll.respare (kids_rows hl hm) hz hts hA fun x hx => hsp x (List.mem_append_left _ hx)) fun x hx => below_sameAt hb (hlt x hx)
 have hrl : ((Value.bool true).resultList f.resultTypes.size) = [.bool true] := by rw [hres]; rfl
 have hres' : ∀ (b : Nat) (sp : Nat → Bool) (hd : Bool), DataW.TrodAll enc P W' b sp hd f.resultTypes.toList ((Value.bool true).resultList f.resultTypes.size) (s.fn H (ds ++ [])).results [] := fun b sp hd => by
  rw [hrl, hfn', hres]
  exact trodAll_mk1 (shut_bool hbool true)
 have hvars : ∀ sp : Nat → Bool, DataW.TrodVars enc P W' sp s.vars (s.fn H (ds ++ [])).vars [] := fun sp => by rw [hfn', hv]; rfl
 have hargs' : ∀ sp : Nat → Bool, (∀ x ∈ p ++ [], sp x.block = true) → DataW.TrodAll enc P W' 0 sp true f.params.toList args.toList (s.fn H (ds ++ [])).args p := fun sp hsp => by
  rw [hfn']; simpa using hargs sp hsp
 have hold : ∀ x ∈ p ++ [], (fun b => decide (b < W.heap.size)) x.block = true := fun x hx => by simpa using hlt x (by simpa using hx)
 refine ⟨ds, [], p ++ [], [], p, [], hW', hres' _ _ _, hargs' _ hold, hvars _, World.keptBut_mono (fun x hx => ⟨hx, ?_⟩) (hb.frame (· ∈ p ++ [])), fun _ => ⟨?_, _, _, ([] ++ p) ++ [], ⟨[] ++ p, [], trodAll_append (hargs' _ (fun _ _ => rfl)) (hres' _ _ _), hvars _, rfl, ?_, ?_⟩, ?_⟩⟩
 ·exact .inr (.inl (by simpa using hx))
 ·intro j t r ht hr
  rw [hrl] at hr
  rw [hres] at ht
  cases j with
  |zero => simp at ht hr; subst ht hr; exact okWide_bool_mk hbool _
  |succ j => simp at hr
 ·intro b off hp
  have hin : MemPlace.cell b off ∈ p ++ [] := by simpa using hp
  rw [hb.frozen (hlt _ (by simpa using hin))]
  exact hfz b off hin
 ·intro ha
  simpa using hnd ha
 ·intro x hx _
  simpa using hx
end
theorem FSpec.top {P : Program} {f : FuncId} {args : List SV} {H0 : AH} (hent : Ent P f) (hF : FSpec P f args H0 (fun s _ => s = .bool true)) (β : Env) (w : World) (vs : List Value)
  (hh : ∀ id k o, look H0.os id k = some o → o.own = false ∧ id < H0.nxt ∧ o.lt H0.nxt ∧ o.holds β w (β id k)) (hd : denL β args vs) (hl : SV.ltL H0.nxt args) (htab : ∀ g, tabG P g = true → g < w.heap.size ∧ TabAt w g) :
  Calls P f vs.toArray w fun e w' => e = .returned (.bool true) ∧ Below w.heap.size w w' := by
 let own0 : Nat → Nat → Prop := fun id k => ∃ o, look H0.os id k = some o ∧ o.own = true
 let X : Cx := { P := P, n := 0, w0 := w, own0 := own0, m0 := H0.nxt, β0 := β }
 have no : ∀ id k o, look H0.os id k = some o → ¬ o.own = true := fun id k o h => by rw [(hh id k o h).1]; simp
 have no0 : ∀ id k, ¬ own0 id k := fun id k ⟨o, h1, h2⟩ => no id k o h1 h2
 have hS : St X β H0 w := {
  os := rfl, tape := rfl, output := rfl, size := Nat.le_refl _, fix := fun _ _ _ => rfl
  holds := fun id k o h => (hh id k o h).2.2.2
  sep := fun id k id' k' o o' L L' h _ ho => absurd ho (no id k o h)
  old := fun _ _ _ => rfl
  mine := fun id k o L h ho => absurd ho (no id k o h)
  keep := fun id k h => absurd h (no0 id k)
  m0 := Nat.le_refl _
  lt := fun id k o h => ⟨(hh id k o h).2.1, (hh id k o h).2.2.1⟩
  tabs := fun g hg => ⟨(htab g hg).1, (htab g hg).2, fun id k _ h _ => absurd h (no0 id k)⟩ }
 refine ((hF X β w vs rfl rfl rfl rfl rfl hS hd hl).calls hent).mono fun e w' ⟨v, he, β', s, H', hs, _, hdv, _, hS'⟩ => ?_
 subst hs
 simp only [den] at hdv
 subst hdv
 exact ⟨he, hS'.os, hS'.tape, hS'.output, hS'.size, fun b hb => hS'.old b hb fun id k o L h ho hβ => by
  rcases hS'.mine id k o L h ho hβ with ⟨_, h1⟩ | ⟨_, h2⟩
  ·exact absurd h1 (no0 id k)
  ·have : w.heap.size ≤ L.blk := h2
   omega⟩
end Go.Sk

set_option linter.unusedSimpArgs false
set_option linter.unusedVariables false
set_option maxRecDepth 4000
namespace Go.Sk
open Go.RowKit Go.WideShapes Go.ChangeShapes
/-- The kinds of one-cell fields. -/
inductive FK where
 |i (k : IntKind) | s | b
def FK.is (P : Program) (t : TypeId) : FK → Bool
 |.i k => match P.underlying t with | some (.int k') => k' == k | _ => false
 |.s => match P.underlying t with | some .string => true | _ => false
 |.b => match P.underlying t with | some .bool => true | _ => false
/-- A value of the kind. -/
def FK.ok : FK → Value → Prop
 |.i k, v => ∃ z, v = .int k z ∧ (Lit.int k z).wf = true
 |.s, v => ∃ x : ByteArray, v = .string x ∧ x.size ≤ maxLen
 |.b, v => ∃ x, v = .bool x
def svOf : Value → SV
 |.int k z => .int k z
 |.string x => .str x
 |.bool x => .bool x
 |v => .raw v
theorem FK.den {β : Env} {k : FK} {v : Value} (h : k.ok v) : den β (svOf v) v ∧ (svOf v).scalar = true ∧ ∀ m, (svOf v).lt m := by
 cases k <;> simp only [FK.ok] at h
 ·obtain ⟨z, rfl, _⟩ := h; exact ⟨rfl, rfl, fun _ => trivial⟩
 ·obtain ⟨z, rfl, _⟩ := h; exact ⟨rfl, rfl, fun _ => trivial⟩
 ·obtain ⟨z, rfl⟩ := h; exact ⟨rfl, rfl, fun _ => trivial⟩
/-- Cells of the kinds. -/
def okRow : List FK → List Value → Prop
 |[], [] => True
 |k :: ks, v :: vs => k.ok v ∧ okRow ks vs
 |_, _ => False
theorem okRow_len : ∀ {ks : List FK} {vs : List Value}, okRow ks vs → vs.length = ks.length
 |[], [], _ => rfl
 |_ :: _, _ :: _, h => by simp [okRow_len h.2]
 |[], _ :: _, h => h.elim
 |_ :: _, [], h => h.elim
theorem okRow_get : ∀ {ks : List FK} {vs : List Value}, okRow ks vs → ∀ (j : Nat) (v : Value), vs[j]? = some v → ∃ k : FK, k.ok v
 |[], [], _, j, v, h => by simp at h
 |k :: _, _ :: _, h, j, v, hj => by
  cases j with
  |zero => simp at hj; subst hj; exact ⟨k, h.1⟩
  |succ j => simp at hj; exact okRow_get h.2 j v hj
 |[], _ :: _, h, _, _, _ => h.elim
 |_ :: _, [], h, _, _, _ => h.elim
def fldsB (P : Program) (fs : Array Field) : Nat → List FK → Bool
 |i, [] => i == fs.size
 |i, k :: ks => (match fs[i]? with | some f => f.offset == i && P.cellsOf f.type == 1 && k.is P f.type | none => false) && fldsB P fs (i + 1) ks
/-- A type of one cell, or a struct of such fields. -/
def flatB (P : Program) (t : TypeId) (ks : List FK) : Bool :=
 P.cellsOf t == ks.length && (match P.underlying t with
  |some (.struct fs) => fldsB P fs 0 ks
  |_ => match ks with | [k] => k.is P t | _ => false)
section
variable {H : Type} {enc : TypeId × Value → H} {P : Program} {w : World} {base : Nat} {sp : Nat → Bool} {held : Bool}
theorem one_open {k : FK} {t : TypeId} {fuel : Nat} {cs : List Value} {x : DataW H × List MemPlace} (hk : k.is P t = true) (h : DataW.trod enc P w base sp held fuel t cs = some x) : ∃ v, cs = [v] ∧ k.ok v := by
 cases k <;> simp only [FK.is] at hk
 ·split at hk
  ·rename_i k' hu
   obtain rfl := eq_of_beq hk
   obtain ⟨n, rfl, _, hw⟩ := DataW.trod_int hu h
   exact ⟨_, rfl, n, rfl, hw⟩
  ·cases hk
 ·split at hk
  ·rename_i hu
   obtain ⟨s, rfl, _, hs⟩ := DataW.trod_string hu h
   exact ⟨_, rfl, s, rfl, hs⟩
  ·cases hk
 ·split at hk
  ·rename_i hu
   obtain ⟨b, rfl, _⟩ := DataW.trod_bool hu h
   exact ⟨_, rfl, b, rfl⟩
  ·cases hk
theorem flds_open {fs : Array Field} {n : Nat} {cs : List Value} {xs : List (DataW H × List MemPlace)} (hx : xs.length = fs.size) (hf : ∀ (i : Nat) (f : Field), fs[i]? = some f → DataW.trod enc P w base sp held n f.type ((cs.drop f.offset).take (P.cellsOf f.type)) = xs[i]?) :
  ∀ (ks : List FK) (i : Nat), fldsB P fs i ks = true → i + ks.length = cs.length → okRow ks (cs.drop i)
 |[], i, _, hl => by rw [List.drop_eq_nil_of_le (by simp at hl; omega)]; trivial
 |k :: ks, i, h, hl => by
  simp only [fldsB, Bool.and_eq_true] at h
  obtain ⟨h1, h2⟩ := h
  simp only [List.length_cons] at hl
  split at h1
  ·rename_i f hfi
   simp only [Bool.and_eq_true, beq_iff_eq] at h1
   obtain ⟨⟨h3, h4⟩, h5⟩ := h1
   have h6 := hf i f hfi
   have hi : i < xs.length := by rw [hx]; exact (Array.getElem?_eq_some_iff.1 hfi).1
   rw [h3, h4, List.getElem?_eq_getElem hi] at h6
   obtain ⟨v, hv, hok⟩ := one_open h5 h6
   rw [List.drop_eq_getElem_cons (by omega), List.take_succ_cons, List.take_zero] at hv
   rw [List.drop_eq_getElem_cons (by omega)]
   have : cs[i] = v := by simpa using hv
   rw [this]
   exact ⟨hok, flds_open hx hf ks (i + 1) h2 (by omega)⟩
  ·cases h1
theorem flat_open {t : TypeId} {ks : List FK} {fuel : Nat} {cs : List Value} {x : DataW H × List MemPlace} (hb : flatB P t ks = true) (h : DataW.trod enc P w base sp held fuel t cs = some x) : okRow ks cs := by
 simp only [flatB, Bool.and_eq_true, beq_iff_eq] at hb
 obtain ⟨hc, hb⟩ := hb
 split at hb
 ·rename_i fs hu
  obtain ⟨xs, m, _, _, hl, hxl, hf⟩ := DataW.trod_struct hu h
  have := flds_open hxl hf ks 0 hb (by omega)
  rwa [List.drop_zero] at this
 ·split at hb
  ·rename_i k
   obtain ⟨v, rfl, hok⟩ := one_open hb h
   exact ⟨hok, trivial⟩
  ·cases hb
/-- A slice of rows that came in. -/
structure RwIn (w : World) (v : Value) (q : Option Loc) (ks : List FK) (rows : List (List Value)) : Prop where
 len : rows.length ≤ maxLen
 ok : ∀ r ∈ rows, okRow ks r
 val : ∃ a c, v = .slice a rows.length c ∧ rows.length ≤ c ∧ (0 < rows.length → ∃ L, q = some L ∧ a = some ⟨L.blk, L.off, none⟩)
 mem : (rows.length = 0 ∧ q = none) ∨ ∃ L, q = some L ∧ L.sz = ks.length ∧ L.blk < w.heap.size ∧ ∀ (i : Nat) (r : List Value), rows[i]? = some r → ∀ (j : Nat) (u : Value), r[j]? = some u → w.cell? ⟨L.blk, L.off + i * ks.length + j, none⟩ = some u
theorem rows_open {t e : TypeId} {ks : List FK} {v : Value} {d : DataW H} {p : List MemPlace} (ht : P.underlying t = some (.slice e)) (hb : flatB P e ks = true) (hk0 : 0 < ks.length) {b0 : Nat}
  (hval : Value.okWide P w .any b0 t v) (h : DataW.Trod enc P w base sp held t v d p) : ∃ q rows, RwIn w v q ks rows := by
 obtain ⟨n, hn⟩ := h
 obtain ⟨a0, l0, c0, rfl⟩ := okWide_slice ht hval
 have hce : P.cellsOf e = ks.length := by simp only [flatB, Bool.and_eq_true, beq_iff_eq] at hb; exact hb.1
 have hcs : (Value.slice a0 l0 c0).cells.toList = [Value.slice a0 l0 c0] := rfl
 rw [hcs] at hn
 rcases Deep.open_slice ht hn with ⟨hv, _⟩ | ⟨a, len, cap, m, n', D, Pl, hv, hbb, hlc, hcm, hmm, _, hel⟩
 ·cases hv
  exact ⟨none, [], ⟨by simp, by simp, ⟨none, 0, rfl, by simp, by simp⟩, .inl ⟨rfl, rfl⟩⟩⟩
 ·cases hv
  have hml : l0 ≤ m := by rw [hmm]; split <;> omega
  obtain ⟨R, hR⟩ := Deep.choose_lt (α := List Value) (p := fun i cs => w.cells? base (a.add (i * P.cellsOf e)) (P.cellsOf e) = some cs ∧ DataW.trod enc P w base sp held n' e cs = some (D i, Pl i)) hel
  have hrl : ((List.range l0).map R).length = l0 := by simp
  have hget : ∀ i r, ((List.range l0).map R)[i]? = some r → i < l0 ∧ r = R i := fun i r h => by
   simp only [List.getElem?_map, Option.map_eq_some_iff] at h
   obtain ⟨k, h1, h2⟩ := h
   have hi : i < l0 := by
    rcases Nat.lt_or_ge i l0 with h | h
    ·exact h
    ·rw [List.getElem?_eq_none (by simpa using h)] at h1; cases h1
   rw [List.getElem?_range hi] at h1
   cases h1
   exact ⟨hi, h2.symm⟩
  have hok : ∀ i, i < m → okRow ks (R i) := fun i hi => flat_open hb (hR i hi).2
  have hrow : ∀ r ∈ (List.range l0).map R, okRow ks r := fun r hr => by
   obtain ⟨i, hi, rfl⟩ := List.mem_map.1 hr
   exact hok i (by have := List.mem_range.1 hi; omega)
  by_cases h0 : l0 = 0
  ·subst h0
   exact ⟨none, [], ⟨by simp, by simp, ⟨some a, c0, rfl, by simp, by simp⟩, .inl ⟨rfl, rfl⟩⟩⟩
  ·have hcell : ∀ i, i < l0 → ∀ (j : Nat) (u : Value), (R i)[j]? = some u → w.cell? ((a.add (i * ks.length)).add j) = some u := fun i hi j u hj => by
    obtain ⟨h1, h2⟩ := hR i (by omega)
    obtain ⟨_, hlen, hc⟩ := World.cells?_some h1
    have hjl : j < P.cellsOf e := by rw [← hlen]; exact (List.getElem?_eq_some_iff.1 hj).1
    rw [← hce, hc j hjl]
    exact hj
   have hr0 : ∃ u, (R 0)[0]? = some u := by
    have := okRow_len (hok 0 (by omega))
    exact ⟨_, List.getElem?_eq_getElem (by omega)⟩
   obtain ⟨u0, hu0⟩ := hr0
   have hc0 := hcell 0 (by omega) 0 u0 hu0
   have hsp : a.spot = none := World.cell?_spot (by unfold Addr.add at hc0; simpa using hc0)
   obtain ⟨b, o, s0⟩ := a
   simp only at hsp
   subst hsp
   have hblk : b < w.heap.size := by
    rw [addr_add, addr_add] at hc0
    unfold World.cell? at hc0
    rcases Nat.lt_or_ge b w.heap.size with h | h
    ·exact h
    ·simp [Array.getElem?_eq_none h] at hc0
   refine ⟨some ⟨b, o, ks.length, 0⟩, (List.range l0).map R, ⟨by omega, hrow, ⟨some ⟨b, o, none⟩, c0, by rw [hrl], by omega, fun _ => ⟨_, rfl, rfl⟩⟩, .inr ⟨_, rfl, rfl, hblk, fun i r hr j u hj => ?_⟩⟩⟩
   obtain ⟨hi, rfl⟩ := hget i r hr
   have := hcell i hi j u hj
   rw [addr_add, addr_add] at this
   exact this
end
/-- The rows as the walk's names have them. -/
theorem rows_in {β : Env} {w : World} {v : Value} {q : Option Loc} {ks : List FK} {rows : List (List Value)} (h : RwIn w v q ks rows) {id : Nat} (hq : β id 0 = q) (e : TypeId) (f : Nat → List SV) (hf : ∀ (i : Nat) (r : List Value), rows[i]? = some r → f i = r.map svOf) :
  den β (.slc false id 0 0 rows.length) v ∧ (Obj.row ⟨false, false, e, ks.length, rows.length, f⟩).holds β w q := by
 obtain ⟨_, hok, ⟨a, c, rfl, hc, hp⟩, hm⟩ := h
 refine ⟨?_, ?_⟩
 ·simp only [den, slcDen, Bool.false_eq_true, if_false]
  refine ⟨a, c, rfl, hc, fun h => ?_⟩
  obtain ⟨L, h1, h2⟩ := hp h
  exact ⟨L, hq.trans h1, by rw [h2]; simp⟩
 ·rcases hm with hm | ⟨L, h1, h2, h3, h4⟩
  ·exact .inl hm
  ·refine .inr ⟨L, h1, h2, h3, fun i hi => ?_, fun h => by cases h⟩
   have hi' : i < rows.length := hi
   have hr := List.getElem?_eq_getElem hi'
   have hfi := hf i _ hr
   have hoki := hok _ (List.getElem_mem hi')
   show (f i).length = ks.length ∧ ∀ (j : Nat) (s : SV), (f i)[j]? = some s → _
   rw [hfi]
   refine ⟨by rw [List.length_map]; exact okRow_len hoki, fun j s hs => ?_⟩
   rw [List.getElem?_map, Option.map_eq_some_iff] at hs
   obtain ⟨u, hu, rfl⟩ := hs
   obtain ⟨k, hk⟩ := okRow_get hoki j u hu
   obtain ⟨g1, g2, _⟩ := FK.den (β := β) hk
   refine ⟨g2, u, ?_, g1⟩
   rw [h2]
   exact h4 i _ hr j u hu
def strData {H : Type} (ss : List ByteArray) : DataW H := .agg (ss.map fun s => .lit (.string s.data.toList))
theorem cells_of_strs {H : Type} {enc : TypeId × Value → H} {P : Program} {w : World} {base : Nat} {sp : Nat → Bool} {held : Bool} {fuel : Nat} {t e : TypeId} {n : Nat} {cs : List Value} {ss : List ByteArray} {p : List MemPlace}
  (ht : P.underlying t = some (.array n e)) (he : P.underlying e = some .string) (hce : P.cellsOf e = 1) (hct : P.cellsOf t = n)
  (h : DataW.trod enc P w base sp held fuel t cs = some (strData ss, p)) : cs = ss.map Value.string := by
 cases fuel with
 |zero => simp [DataW.trod] at h
 |succ fuel =>
  simp only [DataW.trod, ht, hce, hct, Nat.mul_one] at h
  split at h
  ·rename_i hl
   obtain ⟨xs, hm, hx⟩ := Option.map_eq_some_iff.1 h
   have hxs : xs.map (·.1) = ss.map fun s => (DataW.lit (.string s.data.toList) : DataW H) := by
    have := congrArg Prod.fst hx
    simpa [strData] using this
   have hxl : xs.length = n := by simpa using Lib.mapM_length hm
   have hzl : ss.length = n := by
    have := congrArg List.length hxs
    simp at this
    omega
   apply List.ext_getElem?
   intro i
   by_cases hi : i < n
   ·obtain ⟨b, hb, hf⟩ := Lib.mapM_at hm i i (by simp [hi])
    obtain ⟨z, hc, rfl, _⟩ := DataW.trod_string he hf
    have h1 : cs[i]? = some (.string z) := by
     have := congrArg (·[0]?) hc
     simpa [List.getElem?_take, List.getElem?_drop] using this
    have h2 : (xs.map (·.1))[i]? = some (DataW.lit (.string z.data.toList) : DataW H) := by simp [hb]
    rw [hxs] at h2
    simp only [List.getElem?_map, Option.map_eq_some_iff, DataW.lit.injEq, Lit.string.injEq] at h2
    obtain ⟨z', hz', he'⟩ := h2
    have : z' = z := by
     cases z' with
     |mk a => cases z with
      |mk b => congr 1; exact Array.toList_inj.1 he'
    subst this
    simp [h1, hz']
   ·rw [List.getElem?_eq_none (by omega), List.getElem?_eq_none (by simp; omega)]
  ·cases h
/-- The one table is the one that the row lists. -/
theorem tabs_of_laid {P : Program} {W : World} {name : String} {g : Nat} {t e : TypeId} (hg : P.globalNamed name = some g) (hty : (P.globals[g]?).map (·.type) = some t) (ht : P.underlying t = some (.array 6 e)) (he : P.underlying e = some .string) (hce : P.cellsOf e = 1) (hct : P.cellsOf t = 6)
  (hone : (List.range P.globals.size).all (fun i => !tabG P i || i == g) = true) (h : laidMet P [(name, strData letters)] W) : ∀ i, tabG P i = true → i < W.heap.size ∧ TabAt W i := by
 obtain ⟨ps, ⟨g', t', cs, fuel, p, q, hg', ht', hvar, hd, _, _⟩, _⟩ := h
 obtain rfl := Option.some.inj (hg.symm.trans hg')
 obtain rfl := Option.some.inj (hty.symm.trans ht')
 have hcs := cells_of_strs ht he hce hct hd
 intro i hi
 have hlt : i < P.globals.size := by
  rcases Nat.lt_or_ge i P.globals.size with h | h
  ·exact h
  ·unfold tabG at hi; rw [Array.getElem?_eq_none h] at hi; cases hi
 have h1 := List.all_eq_true.1 hone i (List.mem_range.2 hlt)
 rw [hi] at h1
 have : i = g := by simpa using h1
 subst this
 have hat : TabAt W i := fun j s hj => by
  have := World.var?_cell hg hvar j
  rw [this, ← Array.getElem?_toList, hcs, List.getElem?_map, hj]
  rfl
 refine ⟨?_, hat⟩
 have h0 := hat 0 _ (show letters[0]? = some _ from rfl)
 unfold World.cell? at h0
 rcases Nat.lt_or_ge i W.heap.size with h | h
 ·exact h
 ·simp [Array.getElem?_eq_none h] at h0
end Go.Sk

set_option linter.unusedSimpArgs false
set_option linter.unusedVariables false
set_option maxRecDepth 4000
namespace Go.Sk
open Go.RowKit Go.WideShapes Go.ChangeShapes
section
variable {H : Type} {enc : TypeId × Value → H} {P : Program} {w : World} {base : Nat} {sp : Nat → Bool} {held : Bool}
end
end Go.Sk

set_option linter.unusedSimpArgs false
set_option linter.unusedVariables false
set_option maxRecDepth 4000
namespace Go.Proofs
open Go.Sk
theorem startR_len0 {cs : List Cl} {ps : List Pr} {p k c : Int} (h : startE cs ps p k c = 0) : (startR cs ps p k c).1.length = cs.length ∧ (startR cs ps p k c).2.length = ps.length := by
 unfold startR
 rw [if_pos h]
 exact ⟨startC_length .., startP_length ..⟩
theorem stepR_len0 {cs : List Cl} {ps : List Pr} {p : Int} (h : stepOk cs ps p = true) : (stepR cs ps p).1.length = cs.length ∧ (stepR cs ps p).2.length = ps.length := by
 unfold stepOk at h
 rw [Bool.and_eq_true] at h
 unfold stepR
 rw [h.1, h.2]
 simp only [Bool.not_true, Bool.false_eq_true, if_false, if_true]
 exact ⟨stepC_length .., List.length_set⟩
/-- The second list is led to from the first one. -/
inductive Rch : List Cl × List Pr → List Cl × List Pr → Prop
 |refl (r : List Cl × List Pr) : Rch r r
 |start {r : List Cl × List Pr} {cs : List Cl} {ps : List Pr} (q k c : Int) (h : Rch r (cs, ps)) (he : startE cs ps q k c = 0) : Rch r (startR cs ps q k c)
 |step {r : List Cl × List Pr} {cs : List Cl} {ps : List Pr} (q : Int) (h : Rch r (cs, ps)) (he : stepOk cs ps q = true) : Rch r (stepR cs ps q)
theorem Rch.len {r r' : List Cl × List Pr} (h : Rch r r') : r'.1.length = r.1.length ∧ r'.2.length = r.2.length := by
 induction h with
 |refl => exact ⟨rfl, rfl⟩
 |start q k c h he ih => have := startR_len0 he; dsimp only at ih; omega
 |step q h he ih => have := stepR_len0 he; dsimp only at ih; omega
theorem LgBm.ca {P : Program} {f : FuncId} {args args0 : List SV} {H0 H : AH} {R : SV → AH → Prop} {dr : Bool} {W : List Nat} {k : SV → AH → Prop} (hF : FSpec P f args0 H0 R) (ρ : Nat → Nat)
  (hk : ∀ s0 H1, R s0 H1 → ∀ s1 H2, s1 = s0.ren (cren H0.nxt H.nxt ρ) → H2 = after H0.nxt ρ H0 H H1 → k s1 H2)
  (a1 : SV.wkL args (SV.renL ρ args0) := by simp [SV.wkL, SV.wk, SV.renL, SV.ren, inCl, ownCl, inPr, ownPr, lsBox, lsOwn, noPrs, clCap, intCap, cls_ren', cls_lt, prs_ren', prs_lt, inRow, ownRow, ints_ren', ints_lt', Cl.sv, Pr.sv, ints, tapeRow]) (a2 : SV.ltL H.nxt (SV.renL ρ args0) := by simp [SV.renL, SV.ren, SV.ltL, SV.lt, inCl, ownCl, inPr, ownPr, lsBox, lsOwn, noPrs, clCap, intCap, cls_ren', cls_lt, prs_ren', prs_lt, inRow, ownRow, ints_ren', ints_lt', Cl.sv, Pr.sv, ints, tapeRow]) (a3 : SV.ltL H0.nxt args0 := by simp [SV.ltL, SV.lt, inCl, ownCl, inPr, ownPr, lsBox, lsOwn, noPrs, clCap, intCap, cls_ren', cls_lt, prs_ren', prs_lt, inRow, ownRow, ints_ren', ints_lt', Cl.sv, Pr.sv, ints, tapeRow])
  (a4 : (List.range H0.nxt).all (fun id => decide (ρ id < H.nxt)) = true := by exact rfl) (a5 : HGives ρ H0.nxt H.os H0.os := by simp [HGives, Sk.find, one, objGives, rowGives, renL_id, SV.renL, SV.ren, Obj.lt_row, SV.ltL, SV.lt, inCl, ownCl, inPr, ownPr, lsBox, lsOwn, noPrs, clCap, intCap, cls_ren', cls_lt, prs_ren', prs_lt, inRow, ownRow, ints_ren', ints_lt', Cl.sv, Pr.sv, ints, tapeRow]) (a6 : injB ρ H0.os = true := by exact rfl) (a7 : ownU H0.os := by simp [ownU, one, Obj.own, inCl, ownCl, inPr, ownPr, lsBox, lsOwn, noPrs, clCap, intCap, cls_ren', cls_lt, prs_ren', prs_lt, inRow, ownRow, ints_ren', ints_lt', Cl.sv, Pr.sv, ints, tapeRow])
  (a8 : (H0.os.map (·.1)).Nodup := by simp) (a9 : ∀ x ∈ H0.os, (x.2.2 0).own = true → (Sk.find H.os (ρ x.1)).map (·.1) = some x.2.1 := by simp [one, Obj.own, Sk.find, inCl, ownCl, inPr, ownPr, lsBox, lsOwn, noPrs, clCap, intCap, cls_ren', cls_lt, prs_ren', prs_lt, inRow, ownRow, ints_ren', ints_lt', Cl.sv, Pr.sv, ints, tapeRow]) (a10 : dr = true → (ownIds ρ H0.os).all (fun id => W.contains id) = true := by simp [ownIds, one, Obj.own, inCl, ownCl, inPr, ownPr, lsBox, lsOwn, noPrs, clCap, intCap, cls_ren', cls_lt, prs_ren', prs_lt, inRow, ownRow, ints_ren', ints_lt', Cl.sv, Pr.sv, ints, tapeRow]) : callK P f args H dr W k :=
 callK_of hF ρ a1 a2 a3 a4 a5 a6 a7 a8 a9 a10 hk
theorem LgBm.af {s e e1 : SV} {H g g1 : AH} (h1 : s = e) (h2 : H = g) (a1 : e = e1 := by simp only [after, cren, id, dropO, reduceCtorEq, Nat.reduceEqDiff, Nat.one_ne_zero, Nat.zero_ne_one, renOs, dropIds, ownIds, one, Obj.own, Obj.ren, Row.ren, SV.ren, SV.renL, List.map_cons, List.map_nil, List.nil_append, List.cons_append, ↓reduceIte, Nat.reduceLT, Nat.reduceAdd, Nat.reduceSub, Nat.reduceEqDiff, Nat.add_zero, Bool.false_eq_true, Tryd.tyInt, Tryd.szInt, Tryd.zInt, Tryd.tyInts, Tryd.szInts, Tryd.tyErr, Tryd.szErr, Tryd.zErr, Tryd.tyBool, Tryd.szBool, Tryd.zBool, Tryd.tyStr, Tryd.szStr, Tryd.tyCl, Tryd.szCl, Tryd.zCl, Tryd.tyPr, Tryd.szPr, Tryd.zPr, Tryd.tyCls, Tryd.szCls, Tryd.tyPrs, Tryd.szPrs, Tryd.tyLs, Tryd.szLs, Tryd.zLs, inCl, ownCl, inPr, ownPr, lsBox, lsOwn, noPrs, clCap, intCap, cls_0, cls_1, cls_2, cls_3, cls_4, prs_0, prs_1, prs_2, prs_3, prs_4, prs_5, prs_6, cls_take, prs_take, Cl.sv, Pr.sv, inRow, ownRow, rowsOf_one, app_ints, app_zero, Tryd.tyTape, Tryd.szTape, Tryd.zTape, tapeRow, lsS, lsH, ints_ren, cls_ren, prs_ren, ints_ren, lsS, lsH]; exact rfl) (a2 : g = g1 := by simp only [after, cren, id, dropO, reduceCtorEq, Nat.reduceEqDiff, Nat.one_ne_zero, Nat.zero_ne_one, renOs, dropIds, ownIds, one, Obj.own, Obj.ren, Row.ren, SV.ren, SV.renL, List.map_cons, List.map_nil, List.nil_append, List.cons_append, ↓reduceIte, Nat.reduceLT, Nat.reduceAdd, Nat.reduceSub, Nat.reduceEqDiff, Nat.add_zero, Bool.false_eq_true, Tryd.tyInt, Tryd.szInt, Tryd.zInt, Tryd.tyInts, Tryd.szInts, Tryd.tyErr, Tryd.szErr, Tryd.zErr, Tryd.tyBool, Tryd.szBool, Tryd.zBool, Tryd.tyStr, Tryd.szStr, Tryd.tyCl, Tryd.szCl, Tryd.zCl, Tryd.tyPr, Tryd.szPr, Tryd.zPr, Tryd.tyCls, Tryd.szCls, Tryd.tyPrs, Tryd.szPrs, Tryd.tyLs, Tryd.szLs, Tryd.zLs, inCl, ownCl, inPr, ownPr, lsBox, lsOwn, noPrs, clCap, intCap, cls_0, cls_1, cls_2, cls_3, cls_4, prs_0, prs_1, prs_2, prs_3, prs_4, prs_5, prs_6, cls_take, prs_take, Cl.sv, Pr.sv, inRow, ownRow, rowsOf_one, app_ints, app_zero, Tryd.tyTape, Tryd.szTape, Tryd.zTape, tapeRow, lsS, lsH, ints_ren, cls_ren, prs_ren, ints_ren, lsS, lsH]; exact rfl) : s = e1 ∧ H = g1 := ⟨h1.trans a1, h2.trans a2⟩
theorem LgBm.g1 {X : Cx} {fr : Fr} {H : AH} {fr1 : Fr} {H1 : AH} (ρ : Nat → Nat) (a1 : frGives ρ H1.nxt fr fr1 := by simp [frGives, Sk.get, SV.ren, SV.renL, SV.lt, SV.ltL, inCl, ownCl, inPr, ownPr, lsBox, lsOwn, noPrs, clCap, intCap, cls_ren', cls_lt, prs_ren', prs_lt, inRow, ownRow, ints_ren', ints_lt', Cl.sv, Pr.sv, ints, tapeRow]) (a2 : HGives ρ H1.nxt H.os H1.os := by simp [HGives, Sk.find, one, objGives, rowGives, SV.renL, SV.ren, Obj.lt_row, SV.ltL, SV.lt, inCl, ownCl, inPr, ownPr, lsBox, lsOwn, noPrs, clCap, intCap, cls_ren', cls_lt, prs_ren', prs_lt, inRow, ownRow, ints_ren', ints_lt', Cl.sv, Pr.sv, ints, tapeRow]) (a3 : injB ρ H1.os = true := by exact rfl)
  (a4 : ownU H1.os := by simp [ownU, one, inCl, ownCl, inPr, ownPr, lsBox, lsOwn, noPrs, clCap, intCap, cls_ren', cls_lt, prs_ren', prs_lt, inRow, ownRow, ints_ren', ints_lt', Cl.sv, Pr.sv, ints, tapeRow]) (a5 : (List.range X.m0).all (fun id => ρ id == id) = true := by exact rfl) (a6 : X.m0 ≤ H1.nxt := by exact Nat.le_of_ble_eq_true rfl) (a7 : ownU H.os := by simp [ownU, one, Obj.own, inCl, ownCl, inPr, ownPr, lsBox, lsOwn, noPrs, clCap, intCap, cls_ren', cls_lt, prs_ren', prs_lt, inRow, ownRow, ints_ren', ints_lt', Cl.sv, Pr.sv, ints, tapeRow])
  (a8 : keepB X.m0 H.os H1.os := by simp [keepB, one, Obj.own, Sk.find, inCl, ownCl, inPr, ownPr, lsBox, lsOwn, noPrs, clCap, intCap, cls_ren', cls_lt, prs_ren', prs_lt, inRow, ownRow, ints_ren', ints_lt', Cl.sv, Pr.sv, ints, tapeRow]) (a9 : bigB X.m0 ρ H1.os = true := by exact rfl) : Gives X ρ fr H fr1 H1 := Gives.mk' ρ a1 a2 a3 a4 a5 a6 a7 a8 a9
theorem LgBm.r3 {a : Prop} (h : a := by simp [OwnAll, one, Obj.own, inCl, ownCl, inPr, ownPr, lsBox, lsOwn, noPrs, clCap, intCap, cls_ren', cls_lt, prs_ren', prs_lt, inRow, ownRow, ints_ren', ints_lt', Cl.sv, Pr.sv, ints, tapeRow]) : a := h
theorem LgBm.o {a b c : Prop} (r : a → c) (h : b) (e : a = b := by simp only [stp, isQ, opdK, Sk.get, Sk.put, ofConst, ofConst1, ↓reduceIte, reduceCtorEq, Nat.reduceEqDiff, true_and, and_true, true_implies, implies_true, forall_const, imp_self, Bool.false_eq_true, false_implies, false_and, and_false, Bool.false_and, Bool.and_false, qop, grdK, List.getElem?_toArray, List.getElem?_cons_zero, List.getElem?_cons_succ, beq_true, beq_false, beq_self_eq_true, Bool.and_true, Bool.true_and, Bool.not_true, Bool.not_false, Bool.not_not, Bool.and_eq_true, Bool.not_eq_true', Bool.not_eq_false', pickB_bool, Bool.cond_true_left, Bool.cond_false_left, Bool.cond_true_right, Bool.cond_false_right, cond_true, cond_false, and_imp, loadK, Sk.find, one, Kd.agg, List.contains_nil, List.contains_cons, Nat.reduceBEq, Bool.or_false, Bool.true_or, Bool.or_true, Bool.false_or, ite_self, Nat.lt_one_iff, Nat.zero_add, Nat.add_zero, Nat.reduceAdd, Nat.reduceMul, Nat.reduceSub, Nat.reduceLT, Nat.reduceLeDiff, Nat.le_refl, Nat.zero_le, ne_eq, Nat.one_ne_zero, not_false_eq_true, not_true_eq_false, Int.toNat_natCast, Int.reduceToNat, List.length_cons, List.length_nil, and_self, Kd.slice.injEq, exists_eq', Option.map_some, Option.some.injEq, List.drop_zero, List.drop_succ_cons, List.take_succ_cons, List.take_zero, List.take_nil, List.drop_nil, List.nil_append, List.cons_append, List.append_nil, List.append_eq, List.all_cons, List.all_nil, spl, okCells, SV.cells, SV.scalar, binK, binII, binBB, intK, arithK, strK, shiftK, binAA, binNil, unK, convK, faddrK, fieldK, partK, iaddrK, indexK, optK, sliceK, bndK, Option.isSome_some, Option.isSome_none, Nat.sub_zero, or_true, true_or, partsK, buildK, fillS, placeS, lenK, Keys.len, opdsK, mmK, foldInt, eop, copyK, srcK, srcF_zero, setO, clearK, appendK, dropO, allocK, boxK, bsliceK, replZ, storeK, updF, mkK, mmapK, Keys.ofKd, mputK, Keys.add, Keys.okKd, mlookK, Keys.has, Tryd.tyInt, Tryd.szInt, Tryd.zInt, Tryd.tyInts, Tryd.szInts, Tryd.tyErr, Tryd.szErr, Tryd.zErr, Tryd.tyBool, Tryd.szBool, Tryd.zBool, Tryd.tyStr, Tryd.szStr, Tryd.tyCl, Tryd.szCl, Tryd.zCl, Tryd.tyPr, Tryd.szPr, Tryd.zPr, Tryd.tyCls, Tryd.szCls, Tryd.tyPrs, Tryd.szPrs, Tryd.tyLs, Tryd.szLs, Tryd.zLs, inCl, ownCl, inPr, ownPr, lsBox, lsOwn, noPrs, clCap, intCap, cls_0, cls_1, cls_2, cls_3, cls_4, prs_0, prs_1, prs_2, prs_3, prs_4, prs_5, prs_6, cls_take, prs_take, Cl.sv, Pr.sv, inRow, ownRow, rowsOf_one, app_ints, app_zero, ints, Tryd.tyTape, Tryd.szTape, Tryd.zTape, tapeRow, lsS, lsH]; exact rfl) : c := r (Eq.mpr e h)
theorem LgBm.g0 {X : Cx} {fr : Fr} {H : AH} {fr1 : Fr} {H1 : AH} (ρ : Nat → Nat) (a1 : frGives ρ H1.nxt fr fr1 := by simp [frGives, Sk.get, ren_id, SV.lt, SV.ltL, inCl, ownCl, inPr, ownPr, lsBox, lsOwn, noPrs, clCap, intCap, cls_ren', cls_lt, prs_ren', prs_lt, inRow, ownRow, ints_ren', ints_lt', Cl.sv, Pr.sv, ints, tapeRow]) (a2 : HGives ρ H1.nxt H.os H1.os := by simp [HGives, Sk.find, one, objGives, rowGives, renL_id, Obj.lt_row, SV.ltL, SV.lt, inCl, ownCl, inPr, ownPr, lsBox, lsOwn, noPrs, clCap, intCap, cls_ren', cls_lt, prs_ren', prs_lt, inRow, ownRow, ints_ren', ints_lt', Cl.sv, Pr.sv, ints, tapeRow]) (a3 : injB ρ H1.os = true := by exact rfl)
  (a4 : ownU H1.os := by simp [ownU, one, inCl, ownCl, inPr, ownPr, lsBox, lsOwn, noPrs, clCap, intCap, cls_ren', cls_lt, prs_ren', prs_lt, inRow, ownRow, ints_ren', ints_lt', Cl.sv, Pr.sv, ints, tapeRow]) (a5 : (List.range X.m0).all (fun id => ρ id == id) = true := by exact rfl) (a6 : X.m0 ≤ H1.nxt := by exact Nat.le_of_ble_eq_true rfl) (a7 : ownU H.os := by simp [ownU, one, Obj.own, inCl, ownCl, inPr, ownPr, lsBox, lsOwn, noPrs, clCap, intCap, cls_ren', cls_lt, prs_ren', prs_lt, inRow, ownRow, ints_ren', ints_lt', Cl.sv, Pr.sv, ints, tapeRow])
  (a8 : keepB X.m0 H.os H1.os := by simp [keepB, one, Obj.own, Sk.find, inCl, ownCl, inPr, ownPr, lsBox, lsOwn, noPrs, clCap, intCap, cls_ren', cls_lt, prs_ren', prs_lt, inRow, ownRow, ints_ren', ints_lt', Cl.sv, Pr.sv, ints, tapeRow]) (a9 : bigB X.m0 ρ H1.os = true := by exact rfl) : Gives X ρ fr H fr1 H1 := Gives.mk' ρ a1 a2 a3 a4 a5 a6 a7 a8 a9
set_option maxHeartbeats 2000000 in
theorem lawStart_spec (ls : List Int) (m at_ : Nat) (hx : ls.length ≤ 9223372036854775807) (hm : m ≤ ls.length) (ha : at_ ≤ m) (cs : List Cl) (ps : List Pr) (hc : cs.length ≤ 1000000) (hp : ps.length ≤ 1000000) (q : Int) :
  FSpec Tryd.prog 26 [.ptr 0 0 0 0, .agg [.slc false 2 0 0 cs.length, .slc false 3 0 0 ps.length], .int .i64 q] ⟨4, [(0, tapeRow 1 m at_), (1, inRow ls), (2, inCl cs), (3, inPr ps)]⟩
   (fun s H1 => ∃ (kind cell : Int) (at1 : Nat), (at1 ≤ m ∧ 1 ≤ kind ∧ kind ≤ 3 ∧ 2 ≤ cell) ∧ s = .tup [.agg [.slc true 4 0 0 (startR cs ps q kind cell).1.length, .slc true 5 0 0 (startR cs ps q kind cell).2.length], .bool (startE cs ps q kind cell == 0)] ∧ H1 = ⟨6, [(5, ownPr (startR cs ps q kind cell).2), (4, ownCl (startR cs ps q kind cell).1), (0, tapeRow 1 m at1)]⟩) := by
 refine FSpec.ofC false 28 [.cell 6 35, .tmp 7] Tryd.func26 rfl rfl Tryd.ntmps26 Tryd.results26 rfl ?_
 intro w0 own0 β0 Q hQ hQn
 simp only [argFr]
 refine Cs.seq ?_
 refine Cs.reg [0, 2, 4, 6] rfl ?_
 intro K hK
 iterate 3 (refine LgBm.o runL_cons ?_; repeat (with_reducible apply And.intro; exact ComAm.sd))
 refine runL_nil (ComAm.pr (hK _ _ ?_)); clear hK K
 refine Cs.seq ?_
 refine Cs.regTree [6, 8, 9] (.op 0 (.op 1 (.op 2 (.op 5 (.op 6 (.op 7 (.op 8 (.two 3 15 (.op 4 (.two 9 15 (.op 10 (.two 11 15 (.op 12 (.op 13 (.op 14 (.op 15 (.op 16 (.op 17 .done)))))) (.op 11 (.op 12 (.op 13 (.op 14 (.op 16 (.op 17 .done)))))))) (.op 9 (.op 10 (.op 11 (.op 12 (.op 13 (.op 14 (.op 16 (.op 17 .done)))))))))) (.op 3 (.op 4 (.op 9 (.op 10 (.op 11 (.op 12 (.op 13 (.op 14 (.op 16 (.op 17 .done)))))))))))))))))) [[], [], [], [2], [2, 3], [], [], [6], [6, 7], [2, 3, 5, 6, 7, 8], [2, 3, 5, 6, 7, 8, 9], [0, 1, 2, 3, 4, 5, 6, 7, 8, 9, 10], [0, 1, 2, 3, 4, 5, 6, 7, 8, 9, 10, 11], [0, 1, 2, 3, 4, 5, 6, 7, 8, 9, 10, 11, 12], [0, 1, 2, 3, 4, 5, 6, 7, 8, 9, 10, 11, 12], [], [0, 1, 2, 3, 4, 5, 6, 7, 8, 9, 10, 11, 12, 13, 15], [0, 1, 2, 3, 4, 5, 6, 7, 8, 9, 10, 11, 12, 13, 14, 15, 16]] [[], [], [], [0], [], [], [], [], [], [0], [], [], [], [], [], [], [], []] [[0], [0], [], [0], [0], [0], [0], [0], [0], [0], [0], [0], [0], [0], [0], [0], [0], [0]] Tryd.mo rfl rfl (by kernel_rfl) (by kernel_rfl) (by kernel_rfl) rfl (by kernel_rfl) ?_
 intro K hK hG
 have hk1 : ∀ (kind cell : Int) (at2 : Nat), (at2 ≤ m ∧ 1 ≤ kind ∧ kind ≤ 3 ∧ 2 ≤ cell) → K [(6, .ptr 5 0 0 0), (8, .ptr 8 0 0 0), (9, .int .i64 (startE cs ps q kind cell))] ⟨9, [(8, lsOwn 6 (startR cs ps q kind cell).1.length 7 (startR cs ps q kind cell).2.length), (7, ownPr (startR cs ps q kind cell).2), (6, ownCl (startR cs ps q kind cell).1), (5, one (.row ⟨true, true, 35, 2, 1, fun _ => [.nils, .nils]⟩)), (0, tapeRow 1 m at2)]⟩ := by
  intro kind cell at2 hkc
  refine hK _ _ ?_
  clear hG hK K
  refine Cs.seq ?_
  refine Cs.reg [6, 7] rfl ?_
  intro K hK
  iterate 5 (refine LgBm.o runL_cons ?_; repeat (with_reducible apply And.intro; exact ComAm.sd))
  refine runL_nil (ComAm.pr (hK _ _ ?_)); clear hK K
  refine Cs.ret ?_
  refine hQ _ _ ?_
  refine PostF.mkR (fun k => if k = 4 then 6 else if k = 5 then 7 else k) (.tup [.agg [.slc true 4 0 0 (startR cs ps q kind cell).1.length, .slc true 5 0 0 (startR cs ps q kind cell).2.length], .bool (startE cs ps q kind cell == 0)]) (⟨6, [(5, ownPr (startR cs ps q kind cell).2), (4, ownCl (startR cs ps q kind cell).1), (0, tapeRow 1 m at2)]⟩) (.inl rfl) ?_
  refine LgAm.ou ?_
  repeat (with_reducible apply And.intro; exact ComAm.sd)
  refine ⟨LfDm.r1, ComAm.r2, (LgBm.g1 (fun k => if k = 4 then 6 else if k = 5 then 7 else k)), LgBm.r3, ?_⟩
  exact ⟨kind, cell, at2, hkc, rfl, rfl⟩
 (refine LgBm.o (runT_op _ [] [0] [] rfl rfl rfl rfl) ?_; repeat (with_reducible apply And.intro; exact ComAm.sd))
 (refine LgBm.o (runT_op _ [] [0] [] rfl rfl rfl rfl) ?_; repeat (with_reducible apply And.intro; exact ComAm.sd))
 (refine LgBm.o (runT_op _ [] [] [] rfl rfl rfl rfl) ?_; repeat (with_reducible apply And.intro; exact ComAm.sd))
 (refine LgBm.o (runT_op _ [] [0] [] rfl rfl rfl rfl) ?_; repeat (with_reducible apply And.intro; exact ComAm.sd))
 (refine LgBm.o (runT_op _ [] [0] [] rfl rfl rfl rfl) ?_; repeat (with_reducible apply And.intro; exact ComAm.sd))
 (refine LgBm.o (runT_op _ [] [0] [] rfl rfl rfl rfl) ?_; repeat (with_reducible apply And.intro; exact ComAm.sd))
 (refine LgBm.o (runT_op _ [] [0] [] rfl rfl rfl rfl) ?_; repeat (with_reducible apply And.intro; exact ComAm.sd))
 refine runT_two ?_ ?_
 ·skip
  refine LgBm.o (runT_op _ [0] [0] [] rfl rfl rfl rfl) ?_
  repeat (with_reducible apply And.intro; exact ComAm.sd)
  refine LgBm.ca (next_spec ls m at_ 3 hx hm ha (by omega)) (id) ?_
  rintro s0 H0 ⟨v, at1, g1, g2, g3, g4, rfl, rfl⟩ s1 H1 hs1 hH1
  obtain ⟨hs2, hH2⟩ := LgBm.af hs1 hH1
  clear hs1 hH1
  subst hs2 hH2
  repeat (with_reducible apply And.intro; exact ComAm.sd)
  have g5 := g3 (by omega)
  (refine LgBm.o (runT_op _ [] [0] [] rfl rfl rfl rfl) ?_; repeat (with_reducible apply And.intro; exact ComAm.sd))
  refine runT_two ?_ ?_
  ·skip
   refine LgBm.o (runT_op _ [0] [0] [] rfl rfl rfl rfl) ?_
   repeat (with_reducible apply And.intro; exact ComAm.sd)
   refine LgBm.ca (next_spec ls m at1 cs.length hx hm g1 (by omega)) (id) ?_
   rintro s0 H0 ⟨w, at2, c1, c2, c3, c4, rfl, rfl⟩ s1 H1 hs1 hH1
   obtain ⟨hs2, hH2⟩ := LgBm.af hs1 hH1
   clear hs1 hH1
   subst hs2 hH2
   repeat (with_reducible apply And.intro; exact ComAm.sd)
   have hw8 : w ≤ 1000000 := by
    rcases Int.lt_or_le (cs.length : Int) 1 with h | h
    ·have := c4 h; omega
    ·have := c3 h; omega
   (refine LgBm.o (runT_op _ [] [0] [] rfl rfl rfl rfl) ?_; repeat (with_reducible apply And.intro; exact ComAm.sd))
   refine runT_two ?_ ?_
   ·skip
    refine LgBm.o (runT_op _ [] [0] [] rfl rfl rfl rfl) ?_
    repeat (with_reducible apply And.intro; exact ComAm.sd)
    refine LgBm.ca (start_spec cs ps cs.length ps.length rfl rfl (by omega) (by omega) q (1 + v) (2 + w)) (fun k => k + 2) ?_
    rintro s0 H0 ⟨rfl, rfl⟩ s1 H1 hs1 hH1
    obtain ⟨hs2, hH2⟩ := LgBm.af hs1 hH1
    clear hs1 hH1
    subst hs2 hH2
    repeat (with_reducible apply And.intro; exact ComAm.sd)
    (refine LgBm.o (runT_op _ [] [0] [] rfl rfl rfl rfl) ?_; repeat (with_reducible apply And.intro; exact ComAm.sd))
    (refine LgBm.o (runT_op _ [] [0] [] rfl rfl rfl rfl) ?_; repeat (with_reducible apply And.intro; exact ComAm.sd))
    (refine LgBm.o (runT_op _ [] [0] [] rfl rfl rfl rfl) ?_; repeat (with_reducible apply And.intro; exact ComAm.sd))
    (refine LgBm.o (runT_op _ [] [0] [8] rfl rfl rfl rfl) ?_; repeat (with_reducible apply And.intro; exact ComAm.sd))
    (refine LgBm.o (runT_op _ [8] [0] [8] rfl rfl rfl rfl) ?_; repeat (with_reducible apply And.intro; exact ComAm.sd))
    (refine LgBm.o (runT_op _ [8] [0] [8] rfl rfl rfl rfl) ?_; repeat (with_reducible apply And.intro; exact ComAm.sd))
    refine runT_done ?_
    refine ComAm.pr ?_
    exact hG _ _ _ _ id (LgBm.g0 id) (hk1 (1 + v) (2 + w) at2 ⟨c1, by omega, by omega, by omega⟩)
   ·skip
    (refine LgBm.o (runT_op _ [] [0] [6] rfl rfl rfl rfl) ?_; repeat (with_reducible apply And.intro; exact ComAm.sd))
    refine LgBm.o (runT_op _ [6] [0] [6] rfl rfl rfl rfl) ?_
    repeat (with_reducible apply And.intro; exact ComAm.sd)
    refine LgBm.ca (start_spec cs ps cs.length ps.length rfl rfl (by omega) (by omega) q (1 + v) (2 + w)) (fun k => k + 2) ?_
    rintro s0 H0 ⟨rfl, rfl⟩ s1 H1 hs1 hH1
    obtain ⟨hs2, hH2⟩ := LgBm.af hs1 hH1
    clear hs1 hH1
    subst hs2 hH2
    repeat (with_reducible apply And.intro; exact ComAm.sd)
    (refine LgBm.o (runT_op _ [6] [0] [6] rfl rfl rfl rfl) ?_; repeat (with_reducible apply And.intro; exact ComAm.sd))
    (refine LgBm.o (runT_op _ [6] [0] [6] rfl rfl rfl rfl) ?_; repeat (with_reducible apply And.intro; exact ComAm.sd))
    (refine LgBm.o (runT_op _ [6] [0] [6] rfl rfl rfl rfl) ?_; repeat (with_reducible apply And.intro; exact ComAm.sd))
    (refine LgBm.o (runT_op _ [6] [0] [6] rfl rfl rfl rfl) ?_; repeat (with_reducible apply And.intro; exact ComAm.sd))
    (refine LgBm.o (runT_op _ [6] [0] [6] rfl rfl rfl rfl) ?_; repeat (with_reducible apply And.intro; exact ComAm.sd))
    refine runT_done ?_
    refine ComAm.pr ?_
    exact hG _ _ _ _ (fun k => if k = 8 then 6 else if k = 6 then 7 else if k = 7 then 8 else k) (LgBm.g1 (fun k => if k = 8 then 6 else if k = 6 then 7 else if k = 7 then 8 else k)) (hk1 (1 + v) (2 + w) at2 ⟨c1, by omega, by omega, by omega⟩)
  ·skip
   (refine LgBm.o (runT_op _ [] [0] [6] rfl rfl rfl rfl) ?_; repeat (with_reducible apply And.intro; exact ComAm.sd))
   refine LgBm.o (runT_op _ [0, 6] [0] [6] rfl rfl rfl rfl) ?_
   repeat (with_reducible apply And.intro; exact ComAm.sd)
   refine LgBm.ca (next_spec ls m at1 cs.length hx hm g1 (by omega)) (id) ?_
   rintro s0 H0 ⟨w, at2, c1, c2, c3, c4, rfl, rfl⟩ s1 H1 hs1 hH1
   obtain ⟨hs2, hH2⟩ := LgBm.af hs1 hH1
   clear hs1 hH1
   subst hs2 hH2
   repeat (with_reducible apply And.intro; exact ComAm.sd)
   have hw8 : w ≤ 1000000 := by
    rcases Int.lt_or_le (cs.length : Int) 1 with h | h
    ·have := c4 h; omega
    ·have := c3 h; omega
   (refine LgBm.o (runT_op _ [6] [0] [6] rfl rfl rfl rfl) ?_; repeat (with_reducible apply And.intro; exact ComAm.sd))
   refine LgBm.o (runT_op _ [6] [0] [6] rfl rfl rfl rfl) ?_
   repeat (with_reducible apply And.intro; exact ComAm.sd)
   refine LgBm.ca (start_spec cs ps cs.length ps.length rfl rfl (by omega) (by omega) q (1 + v) (2 + w)) (fun k => k + 2) ?_
   rintro s0 H0 ⟨rfl, rfl⟩ s1 H1 hs1 hH1
   obtain ⟨hs2, hH2⟩ := LgBm.af hs1 hH1
   clear hs1 hH1
   subst hs2 hH2
   repeat (with_reducible apply And.intro; exact ComAm.sd)
   (refine LgBm.o (runT_op _ [6] [0] [6] rfl rfl rfl rfl) ?_; repeat (with_reducible apply And.intro; exact ComAm.sd))
   (refine LgBm.o (runT_op _ [6] [0] [6] rfl rfl rfl rfl) ?_; repeat (with_reducible apply And.intro; exact ComAm.sd))
   (refine LgBm.o (runT_op _ [6] [0] [6] rfl rfl rfl rfl) ?_; repeat (with_reducible apply And.intro; exact ComAm.sd))
   (refine LgBm.o (runT_op _ [6] [0] [6] rfl rfl rfl rfl) ?_; repeat (with_reducible apply And.intro; exact ComAm.sd))
   (refine LgBm.o (runT_op _ [6] [0] [6] rfl rfl rfl rfl) ?_; repeat (with_reducible apply And.intro; exact ComAm.sd))
   refine runT_done ?_
   refine ComAm.pr ?_
   exact hG _ _ _ _ (fun k => if k = 8 then 6 else if k = 6 then 7 else if k = 7 then 8 else k) (LgBm.g1 (fun k => if k = 8 then 6 else if k = 6 then 7 else if k = 7 then 8 else k)) (hk1 (1 + v) (2 + w) at2 ⟨c1, by omega, by omega, by omega⟩)
 ·skip
  (refine LgBm.o (runT_op _ [] [0] [6] rfl rfl rfl rfl) ?_; repeat (with_reducible apply And.intro; exact ComAm.sd))
  refine LgBm.o (runT_op _ [0, 6] [0] [6] rfl rfl rfl rfl) ?_
  repeat (with_reducible apply And.intro; exact ComAm.sd)
  refine LgBm.ca (next_spec ls m at_ 3 hx hm ha (by omega)) (id) ?_
  rintro s0 H0 ⟨v, at1, g1, g2, g3, g4, rfl, rfl⟩ s1 H1 hs1 hH1
  obtain ⟨hs2, hH2⟩ := LgBm.af hs1 hH1
  clear hs1 hH1
  subst hs2 hH2
  repeat (with_reducible apply And.intro; exact ComAm.sd)
  have g5 := g3 (by omega)
  (refine LgBm.o (runT_op _ [6] [0] [6] rfl rfl rfl rfl) ?_; repeat (with_reducible apply And.intro; exact ComAm.sd))
  refine LgBm.o (runT_op _ [0, 6] [0] [6] rfl rfl rfl rfl) ?_
  repeat (with_reducible apply And.intro; exact ComAm.sd)
  refine LgBm.ca (next_spec ls m at1 cs.length hx hm g1 (by omega)) (id) ?_
  rintro s0 H0 ⟨w, at2, c1, c2, c3, c4, rfl, rfl⟩ s1 H1 hs1 hH1
  obtain ⟨hs2, hH2⟩ := LgBm.af hs1 hH1
  clear hs1 hH1
  subst hs2 hH2
  repeat (with_reducible apply And.intro; exact ComAm.sd)
  have hw8 : w ≤ 1000000 := by
   rcases Int.lt_or_le (cs.length : Int) 1 with h | h
   ·have := c4 h; omega
   ·have := c3 h; omega
  (refine LgBm.o (runT_op _ [6] [0] [6] rfl rfl rfl rfl) ?_; repeat (with_reducible apply And.intro; exact ComAm.sd))
  refine LgBm.o (runT_op _ [6] [0] [6] rfl rfl rfl rfl) ?_
  repeat (with_reducible apply And.intro; exact ComAm.sd)
  refine LgBm.ca (start_spec cs ps cs.length ps.length rfl rfl (by omega) (by omega) q (1 + v) (2 + w)) (fun k => k + 2) ?_
  rintro s0 H0 ⟨rfl, rfl⟩ s1 H1 hs1 hH1
  obtain ⟨hs2, hH2⟩ := LgBm.af hs1 hH1
  clear hs1 hH1
  subst hs2 hH2
  repeat (with_reducible apply And.intro; exact ComAm.sd)
  (refine LgBm.o (runT_op _ [6] [0] [6] rfl rfl rfl rfl) ?_; repeat (with_reducible apply And.intro; exact ComAm.sd))
  (refine LgBm.o (runT_op _ [6] [0] [6] rfl rfl rfl rfl) ?_; repeat (with_reducible apply And.intro; exact ComAm.sd))
  (refine LgBm.o (runT_op _ [6] [0] [6] rfl rfl rfl rfl) ?_; repeat (with_reducible apply And.intro; exact ComAm.sd))
  (refine LgBm.o (runT_op _ [6] [0] [6] rfl rfl rfl rfl) ?_; repeat (with_reducible apply And.intro; exact ComAm.sd))
  (refine LgBm.o (runT_op _ [6] [0] [6] rfl rfl rfl rfl) ?_; repeat (with_reducible apply And.intro; exact ComAm.sd))
  refine runT_done ?_
  refine ComAm.pr ?_
  exact hG _ _ _ _ (fun k => if k = 8 then 6 else if k = 6 then 7 else if k = 7 then 8 else k) (LgBm.g1 (fun k => if k = 8 then 6 else if k = 6 then 7 else if k = 7 then 8 else k)) (hk1 (1 + v) (2 + w) at2 ⟨c1, by omega, by omega, by omega⟩)
end Go.Proofs

set_option linter.unusedSimpArgs false
set_option linter.unusedVariables false
set_option maxRecDepth 4000
namespace Go.Proofs
open Go.Sk
end Go.Proofs

set_option linter.unusedSimpArgs false
set_option linter.unusedVariables false
set_option maxRecDepth 4000
namespace Go.Proofs
open Go.Sk
def rt (cs : List Cl) (i : Int) : Int := (cl cs i.toNat).right
def gn (cs : List Cl) (i : Int) : Bool := (cl cs i.toNat).gone
def lk (cs : List Cl) (i : Int) : Int := (cl cs i.toNat).lock
theorem cl_up {cs : List Cl} {c i : Int} {y : Cl} (hc : 0 ≤ c ∧ c < cs.length) (hi : 0 ≤ i) : cl (cs.set c.toNat y) i.toNat = if i = c then y else cl cs i.toNat := by
 by_cases h : i = c
 ·subst h; rw [if_pos rfl, cl_set_eq (by omega)]
 ·rw [if_neg h, cl_set_ne (by omega)]
/-- Lists of cells with the same keys. -/
structure KeyEq (cs ds : List Cl) : Prop where
 len : ds.length = cs.length
 key : ∀ i : Nat, (cl ds i).key = (cl cs i).key
theorem KeyEq.less {cs ds : List Cl} (h : KeyEq cs ds) (a b : Int) : lessC ds a b = lessC cs a b := by simp [lessC, h.key]
theorem KeyEq.refl (cs : List Cl) : KeyEq cs cs := ⟨rfl, fun _ => rfl⟩
theorem KeyEq.trans {cs ds es : List Cl} (h : KeyEq cs ds) (h' : KeyEq ds es) : KeyEq cs es := ⟨h'.len.trans h.len, fun i => (h'.key i).trans (h.key i)⟩
theorem KeyEq.set {cs : List Cl} {c : Nat} {y : Cl} (h : y.key = (cl cs c).key) : KeyEq cs (cs.set c y) := by
 refine ⟨by simp, fun i => ?_⟩
 by_cases e : c = i
 ·subst e
  by_cases hc : c < cs.length
  ·rw [cl_set_eq hc, h]
  ·rw [List.set_eq_of_length_le (by omega)]
 ·rw [cl_set_ne e]
theorem KeyEq.meas {cs ds : List Cl} (h : KeyEq cs ds) (a : Int) : meas ds a = meas cs a := by
 unfold Go.Proofs.meas
 rw [h.len]
 congr 1
 funext j
 exact h.less a j
/-- From a cell to a cell over Rights, ascending. -/
def Seg (cs : List Cl) : Int → List Int → Int → Prop
 |a, [], b => a = b
 |a, x :: l, b => a ≠ 1 ∧ rt cs a = x ∧ lessC cs a x = true ∧ Seg cs x l b
theorem Seg.append {cs : List Cl} : ∀ {a : Int} {l m : List Int} {b : Int}, Seg cs a (l ++ m) b ↔ ∃ c, Seg cs a l c ∧ Seg cs c m b
 |a, [], m, b => by simp [Seg]
 |a, x :: l, m, b => by
  simp only [List.cons_append, Seg, Seg.append]
  constructor
  ·rintro ⟨h1, h2, h3, c, h4, h5⟩; exact ⟨c, ⟨h1, h2, h3, h4⟩, h5⟩
  ·rintro ⟨c, ⟨h1, h2, h3, h4⟩, h5⟩; exact ⟨h1, h2, h3, c, h4, h5⟩
theorem Seg.le {cs : List Cl} : ∀ {a : Int} {l : List Int} {b : Int}, Seg cs a l b → a = b ∨ lessC cs a b = true
 |a, [], b, h => .inl h
 |a, x :: l, b, ⟨h1, h2, h3, h4⟩ => by
  rcases h4.le with e | e
  ·exact .inr (e ▸ h3)
  ·exact .inr (lessC_trans h3 e)
theorem Seg.ge {cs : List Cl} : ∀ {a : Int} {l : List Int} {b x : Int}, Seg cs a l b → x ∈ l → lessC cs a x = true
 |a, y :: l, b, x, ⟨h1, h2, h3, h4⟩, hx => by
  rcases List.mem_cons.1 hx with e | e
  ·exact e ▸ h3
  ·exact lessC_trans h3 (h4.ge e)
theorem less_ne {cs : List Cl} {a b : Int} (h : lessC cs a b = true) : a ≠ b := by
 intro e; subst e; rw [lessC_irr] at h; cases h
theorem Seg.frame {cs ds : List Cl} (hk : KeyEq cs ds) : ∀ {a : Int} {l : List Int} {b : Int}, Seg cs a l b → (∀ x ∈ a :: l, x ≠ b → rt ds x = rt cs x) → Seg ds a l b
 |a, [], b, h, _ => h
 |a, y :: l, b, h, hr => by
  obtain ⟨h1, h2, h3, h4⟩ := h
  have hab : a ≠ b := less_ne (by
   rcases h4.le with e | e
   ·exact e ▸ h3
   ·exact lessC_trans h3 e)
  refine ⟨h1, ?_, ?_, h4.frame hk fun x hx hb => hr x (List.mem_cons_of_mem _ hx) hb⟩
  ·rw [hr a (List.mem_cons_self ..) hab, h2]
  ·rw [hk.less, h3]
theorem Seg.split {cs : List Cl} : ∀ {a : Int} {l : List Int} {b x : Int}, Seg cs a l b → x ∈ a :: l → ∃ A B, l = A ++ B ∧ Seg cs a A x ∧ Seg cs x B b
 |a, [], b, x, h, hx => by
  rcases List.mem_cons.1 hx with e | e
  ·subst e; exact ⟨[], [], rfl, rfl, h⟩
  ·cases e
 |a, y :: l, b, x, h, hx => by
  by_cases e : x = a
  ·subst e; exact ⟨[], y :: l, rfl, rfl, h⟩
  ·obtain ⟨h1, h2, h3, h4⟩ := h
   obtain ⟨A, B, rfl, hA, hB⟩ := h4.split (x := x) (by
    rcases List.mem_cons.1 hx with e' | e'
    ·exact absurd e' e
    ·exact e')
   exact ⟨y :: A, B, rfl, ⟨h1, h2, h3, hA⟩, hB⟩
/-- What is so of the cells that are, or were, in the list; l: the cells in it. -/
structure Core (cs : List Cl) (T : Int → Prop) (l : List Int) : Prop where
 seg : Seg cs 0 l 1
 two : 2 ≤ cs.length
 t0 : T 0
 t1 : T 1
 g0 : gn cs 0 = false
 g1 : gn cs 1 = false
 rng : ∀ i, T i → 0 ≤ i ∧ i < cs.length
 sub : ∀ i, i ∈ l → T i
 clo : ∀ i, T i → i ≠ 1 → T (rt cs i) ∧ lessC cs i (rt cs i) = true
 inl : ∀ i, T i → gn cs i = false → i ∈ 0 :: l
 gT : ∀ i : Int, 0 ≤ i → i < cs.length → gn cs i = true → T i
theorem Core.sub0 {cs : List Cl} {T : Int → Prop} {l : List Int} (h : Core cs T l) : ∀ i ∈ 0 :: l, T i := by
 intro i hi
 rcases List.mem_cons.1 hi with e | e
 ·exact e ▸ h.t0
 ·exact h.sub i e
/-- A change that leaves Rights of T and marks as they are. -/
theorem Core.same {cs ds : List Cl} {T T' : Int → Prop} {l : List Int} (h : Core cs T l) (hk : KeyEq cs ds) (hT : ∀ i, T' i ↔ T i) (hr : ∀ i, T i → rt ds i = rt cs i) (hg : ∀ i : Int, 0 ≤ i → i < cs.length → gn ds i = gn cs i) : Core ds T' l := by
 have h2 := h.two
 refine ⟨h.seg.frame hk fun x hx _ => hr x (h.sub0 x hx), by rw [hk.len]; exact h.two, (hT _).2 h.t0, (hT _).2 h.t1, ?_, ?_, fun i hi => by rw [hk.len]; exact h.rng i ((hT i).1 hi), fun i hi => (hT i).2 (h.sub i hi), fun i hi h1 => ?_, fun i hi h1 => ?_, fun i h1 h2 h3 => ?_⟩
 ·rw [hg 0 (by omega) (by omega)]; exact h.g0
 ·rw [hg 1 (by omega) (by omega)]; exact h.g1
 ·have hi' := (hT i).1 hi
  rw [hr i hi', hk.less]
  have := h.clo i hi' h1
  exact ⟨(hT _).2 this.1, this.2⟩
 ·have hi' := (hT i).1 hi
  have := h.rng i hi'
  rw [hg i this.1 this.2] at h1
  exact h.inl i hi' h1
 ·rw [hk.len] at h2
  rw [hg i h1 h2] at h3
  exact (hT i).2 (h.gT i h1 h2 h3)
/-- A cell of T is marked. -/
theorem Core.mark {cs : List Cl} {T : Int → Prop} {l : List Int} (h : Core cs T l) {c : Int} (hc : T c) (h2 : 2 ≤ c) : Core (setG cs c) T l := by
 have hr := h.rng c hc
 have hk : KeyEq cs (setG cs c) := KeyEq.set rfl
 have hrt : ∀ i : Int, 0 ≤ i → rt (setG cs c) i = rt cs i := fun i hi => by
  simp only [rt, setG]; rw [cl_up hr hi]; split
  ·rename_i e; subst e; rfl
  ·rfl
 have hg : ∀ i : Int, 0 ≤ i → gn (setG cs c) i = if i = c then true else gn cs i := fun i hi => by
  simp only [gn, setG]; rw [cl_up hr hi]; split <;> rfl
 have h2' := h.two
 refine ⟨h.seg.frame hk fun x hx _ => hrt x (h.rng x (h.sub0 x hx)).1, by rw [hk.len]; exact h.two, h.t0, h.t1, ?_, ?_, fun i hi => by rw [hk.len]; exact h.rng i hi, h.sub, fun i hi h1 => ?_, fun i hi h1 => ?_, fun i h1 h2 h3 => ?_⟩
 ·rw [hg 0 (by omega), if_neg (by omega)]; exact h.g0
 ·rw [hg 1 (by omega), if_neg (by omega)]; exact h.g1
 ·rw [hrt i (h.rng i hi).1, hk.less]; exact h.clo i hi h1
 ·rw [hg i (h.rng i hi).1] at h1
  split at h1
  ·cases h1
  ·exact h.inl i hi h1
 ·rw [hk.len] at h2
  rw [hg i h1] at h3
  split at h3
  ·rename_i e; subst e; exact hc
  ·exact h.gT i h1 h2 h3
theorem rt_setR {cs : List Cl} {c i v : Int} (hc : 0 ≤ c ∧ c < cs.length) (hi : 0 ≤ i) : rt (setR cs c v) i = if i = c then v else rt cs i := by
 simp only [rt, setR]; rw [cl_up hc hi]; split <;> rfl
theorem gn_setR {cs : List Cl} {c i v : Int} (hc : 0 ≤ c ∧ c < cs.length) (hi : 0 ≤ i) : gn (setR cs c v) i = gn cs i := by
 simp only [gn, setR]; rw [cl_up hc hi]; split
 ·rename_i e; subst e; rfl
 ·rfl
theorem lk_setR {cs : List Cl} {c i v : Int} (hc : 0 ≤ c ∧ c < cs.length) (hi : 0 ≤ i) : lk (setR cs c v) i = lk cs i := by
 simp only [lk, setR]; rw [cl_up hc hi]; split
 ·rename_i e; subst e; rfl
 ·rfl
theorem key_setR (cs : List Cl) (c v : Int) : KeyEq cs (setR cs c v) := KeyEq.set rfl
/-- Where a cell of the list lies, that is not the tail. -/
theorem Core.at {cs : List Cl} {T : Int → Prop} {l : List Int} (h : Core cs T l) {p : Int} (hp : T p) (hg : gn cs p = false) (h1 : p ≠ 1) :
  ∃ A B, l = A ++ rt cs p :: B ∧ Seg cs 0 A p ∧ Seg cs p (rt cs p :: B) 1 := by
 obtain ⟨A, B, e, hA, hB⟩ := h.seg.split (h.inl p hp hg)
 cases B with
 |nil => exact absurd hB h1
 |cons y B =>
  have := hB.2.1
  subst this
  exact ⟨A, B, e, hA, hB⟩
/-- A cell that is gone is taken out. -/
theorem Core.unlink {cs : List Cl} {T : Int → Prop} {l : List Int} (h : Core cs T l) {p : Int} (hp : T p) (hg : gn cs p = false) (h1 : p ≠ 1) (hs : gn cs (rt cs p) = true) :
  ∃ A B, l = A ++ rt cs p :: rt cs (rt cs p) :: B ∧ Seg cs 0 A p ∧ Core (setR cs p (rt cs (rt cs p))) T (A ++ rt cs (rt cs p) :: B) := by
 obtain ⟨A, B, e, hA, hB⟩ := h.at hp hg h1
 have hr := h.rng p hp
 have hsT : T (rt cs p) := (h.clo p hp h1).1
 have hs1 : rt cs p ≠ 1 := by intro e1; rw [e1, h.g1] at hs; cases hs
 have hk := key_setR cs p (rt cs (rt cs p))
 cases B with
 |nil => exact absurd hB.2.2.2 hs1
 |cons y B =>
  obtain ⟨b1, b2, b3, b4⟩ := hB
  have b5 := b4.2.1
  subst b5
  obtain ⟨b6, b7, b8, b9⟩ := b4
  have hnT : T (rt cs (rt cs p)) := (h.clo _ hsT hs1).1
  have hpn := lessC_trans b3 b8
  refine ⟨A, B, e, hA, ?_⟩
  have hnp : ∀ x, x ∈ rt cs (rt cs p) :: B → x ≠ p := fun x hx => by
   rcases List.mem_cons.1 hx with e1 | e1
   ·exact e1 ▸ (less_ne hpn).symm
   ·exact (less_ne (lessC_trans hpn (b9.ge e1))).symm
  have hmem : ∀ x, x ∈ A ++ rt cs (rt cs p) :: B → x ∈ l := fun x hx => by
   rw [e]
   rcases List.mem_append.1 hx with hx | hx
   ·exact List.mem_append_left _ hx
   ·exact List.mem_append_right _ (List.mem_cons_of_mem _ hx)
  have hT0 : ∀ x, T x → 0 ≤ x := fun x hx => (h.rng x hx).1
  refine ⟨Seg.append.2 ⟨p, hA.frame hk fun x hx hxp => ?_, ⟨h1, ?_, ?_, b9.frame hk fun x hx _ => ?_⟩⟩, by rw [hk.len]; exact h.two, h.t0, h.t1, ?_, ?_, fun i hi => by rw [hk.len]; exact h.rng i hi, fun i hi => h.sub i (hmem i hi), fun i hi h1' => ?_, fun i hi hgi => ?_, fun i g1 g2 g3 => ?_⟩
  ·have hx0 : T x := h.sub0 x (by
    rcases List.mem_cons.1 hx with e1 | e1
    ·rw [e1]; exact List.mem_cons_self ..
    ·rw [e]; exact List.mem_cons_of_mem _ (List.mem_append_left _ e1))
   rw [rt_setR hr (hT0 x hx0), if_neg hxp]
  ·rw [rt_setR hr hr.1, if_pos rfl]
  ·rw [hk.less]; exact hpn
  ·have hx0 : T x := h.sub x (hmem x (List.mem_append_right _ hx))
   rw [rt_setR hr (hT0 x hx0), if_neg (hnp x hx)]
  ·rw [gn_setR hr (by omega)]; exact h.g0
  ·rw [gn_setR hr (by omega)]; exact h.g1
  ·rw [rt_setR hr (hT0 i hi), hk.less]
   split
   ·rename_i e1; subst e1; exact ⟨hnT, hpn⟩
   ·exact h.clo i hi h1'
  ·rw [gn_setR hr (hT0 i hi)] at hgi
   have := h.inl i hi hgi
   rw [e] at this
   rcases List.mem_cons.1 this with e1 | e1
   ·rw [e1]; exact List.mem_cons_self ..
   ·refine List.mem_cons_of_mem _ ?_
    rcases List.mem_append.1 e1 with e1 | e1
    ·exact List.mem_append_left _ e1
    ·rcases List.mem_cons.1 e1 with e2 | e2
     ·rw [e2, hs] at hgi; cases hgi
     ·exact List.mem_append_right _ e2
  ·rw [gn_setR hr g1] at g3
   rw [hk.len] at g2
   exact h.gT i g1 g2 g3
/-- A cell is put in. -/
theorem Core.insert {cs : List Cl} {T T' : Int → Prop} {l : List Int} (h : Core cs T l) {p c : Int} (hp : T p) (hg : gn cs p = false) (h1 : p ≠ 1) (hc : 2 ≤ c ∧ c < cs.length) (hcT : ¬ T c) (hT : ∀ i, T' i ↔ T i ∨ i = c)
  (hpc : lessC cs p c = true) (hcs : lessC cs c (rt cs p) = true) (hrc : rt cs c = rt cs p) :
  ∃ A B, l = A ++ rt cs p :: B ∧ Seg cs 0 A p ∧ Core (setR cs p c) T' (A ++ c :: rt cs p :: B) := by
 obtain ⟨A, B, e, hA, hB⟩ := h.at hp hg h1
 have hr := h.rng p hp
 have hsT : T (rt cs p) := (h.clo p hp h1).1
 have hk := key_setR cs p c
 obtain ⟨b1, b2, b3, b4⟩ := hB
 refine ⟨A, B, e, hA, ?_⟩
 have hT0 : ∀ x, T x → 0 ≤ x := fun x hx => (h.rng x hx).1
 have hpne : c ≠ p := fun e1 => hcT (e1 ▸ hp)
 have hsub : ∀ x, x ∈ rt cs p :: B → T x := fun x hx => h.sub x (by rw [e]; exact List.mem_append_right _ hx)
 refine ⟨Seg.append.2 ⟨p, hA.frame hk fun x hx hxp => ?_, ⟨h1, ?_, ?_, ⟨by omega, ?_, ?_, b4.frame hk fun x hx _ => ?_⟩⟩⟩, by rw [hk.len]; exact h.two, (hT _).2 (.inl h.t0), (hT _).2 (.inl h.t1), ?_, ?_, fun i hi => ?_, fun i hi => ?_, fun i hi h1' => ?_, fun i hi hgi => ?_, fun i g1 g2 g3 => ?_⟩
 ·have hx0 : T x := h.sub0 x (by
   rcases List.mem_cons.1 hx with e1 | e1
   ·rw [e1]; exact List.mem_cons_self ..
   ·rw [e]; exact List.mem_cons_of_mem _ (List.mem_append_left _ e1))
  rw [rt_setR hr (hT0 x hx0), if_neg hxp]
 ·rw [rt_setR hr hr.1, if_pos rfl]
 ·rw [hk.less]; exact hpc
 ·rw [rt_setR hr (by omega), if_neg hpne, hrc]
 ·rw [hk.less]; exact hcs
 ·have hx0 : T x := hsub x hx
  have hxp : x ≠ p := by
   rcases List.mem_cons.1 hx with e1 | e1
   ·exact e1 ▸ (less_ne b3).symm
   ·exact (less_ne (lessC_trans b3 (b4.ge e1))).symm
  rw [rt_setR hr (hT0 x hx0), if_neg hxp]
 ·rw [gn_setR hr (by omega)]; exact h.g0
 ·rw [gn_setR hr (by omega)]; exact h.g1
 ·rw [hk.len]
  rcases (hT i).1 hi with hi | hi
  ·exact h.rng i hi
  ·omega
 ·rw [hT]
  rcases List.mem_append.1 hi with hi | hi
  ·exact .inl (h.sub i (by rw [e]; exact List.mem_append_left _ hi))
  ·rcases List.mem_cons.1 hi with e1 | e1
   ·exact .inr e1
   ·exact .inl (hsub i e1)
 ·have hi0 : 0 ≤ i := by
   rcases (hT i).1 hi with hi | hi
   ·exact hT0 i hi
   ·omega
  rw [rt_setR hr hi0, hk.less]
  split
  ·rename_i e1; subst e1; exact ⟨(hT c).2 (.inr rfl), hpc⟩
  ·rcases (hT i).1 hi with hi | hi
   ·have := h.clo i hi h1'
    exact ⟨(hT _).2 (.inl this.1), this.2⟩
   ·subst hi; rw [hrc]; exact ⟨(hT _).2 (.inl hsT), hcs⟩
 ·rcases (hT i).1 hi with hi | hi
  ·rw [gn_setR hr (hT0 i hi)] at hgi
   have := h.inl i hi hgi
   rw [e] at this
   rcases List.mem_cons.1 this with e1 | e1
   ·rw [e1]; exact List.mem_cons_self ..
   ·refine List.mem_cons_of_mem _ ?_
    rcases List.mem_append.1 e1 with e1 | e1
    ·exact List.mem_append_left _ e1
    ·exact List.mem_append_right _ (List.mem_cons_of_mem _ e1)
  ·rw [hi]
   exact List.mem_cons_of_mem _ (List.mem_append_right _ (List.mem_cons_self ..))
 ·rw [gn_setR hr g1] at g3
  rw [hk.len] at g2
  exact (hT i).2 (.inl (h.gT i g1 g2 g3))
end Go.Proofs

set_option linter.unusedSimpArgs false
set_option linter.unusedVariables false
set_option maxRecDepth 4000
namespace Go.Proofs
open Go.Sk
theorem bl_total : ∀ {a b : List UInt8}, Go.Op.bytesLess a b = false → Go.Op.bytesLess b a = false → a = b
 |[], [], _, _ => rfl
 |[], _ :: _, h, _ => by simp [Go.Op.bytesLess] at h
 |_ :: _, [], _, h => by simp [Go.Op.bytesLess] at h
 |a :: l, b :: r, h, h' => by
  simp only [Go.Op.bytesLess, Bool.or_eq_false_iff, Bool.and_eq_false_imp, decide_eq_false_iff_not, beq_iff_eq] at h h'
  have e : a = b := by
   have h1 := UInt8.not_lt.1 h.1
   have h2 := UInt8.not_lt.1 h'.1
   exact UInt8.le_antisymm h2 h1
  rw [e, bl_total (h.2 e) (h'.2 e.symm)]
theorem ba_ext' {x y : ByteArray} (h : x.toList = y.toList) : x = y := by
 cases x with
 |mk a =>
  cases y with
  |mk b =>
   have h1 : (⟨a⟩ : ByteArray).toList = a.toList := ByteArray.toList_eq _
   have h2 : (⟨b⟩ : ByteArray).toList = b.toList := ByteArray.toList_eq _
   rw [h1, h2] at h
   congr 1
   exact Array.toList_inj.1 h
theorem sLt_total {a b : ByteArray} (h : sLt a b = false) (h' : sLt b a = false) : a = b := ba_ext' (bl_total h h')
/-- No key stands twice, but for the head's and the tail's. -/
def Dst (cs : List Cl) : Prop := ∀ i j : Nat, 2 ≤ i → i < cs.length → 2 ≤ j → j < cs.length → (cl cs i).key = (cl cs j).key → i = j
theorem Dst.total {cs : List Cl} (h : Dst cs) {a b : Int} (ha : 0 ≤ a ∧ a < cs.length) (hb : 0 ≤ b ∧ b < cs.length) (hne : a ≠ b) (h1 : lessC cs a b = false) : lessC cs b a = true := by
 rw [lessC_iff]
 refine ⟨hne.symm, fun e => ?_, fun e => ?_, ?_⟩
 ·subst e
  have : lessC cs a 1 = true := by
   rw [lessC_iff]; exact ⟨hne, hne, by decide, .inr (.inl rfl)⟩
  rw [this] at h1; cases h1
 ·subst e
  have : lessC cs 0 b = true := by
   rw [lessC_iff]; exact ⟨hne, by decide, hne.symm, .inl rfl⟩
  rw [this] at h1; cases h1
 ·by_cases e0 : b = 0
  ·exact .inl e0
  by_cases e1 : a = 1
  ·exact .inr (.inl e1)
  refine .inr (.inr ?_)
  cases hs : sLt (cl cs b.toNat).key (cl cs a.toNat).key with
  |true => rfl
  |false =>
   by_cases ea : a = 0
   ·subst ea
    have : lessC cs 0 b = true := by rw [lessC_iff]; exact ⟨hne, by decide, e0, .inl rfl⟩
    rw [this] at h1; cases h1
   by_cases eb : b = 1
   ·subst eb
    have : lessC cs a 1 = true := by rw [lessC_iff]; exact ⟨hne, e1, by decide, .inr (.inl rfl)⟩
    rw [this] at h1; cases h1
   cases hs' : sLt (cl cs a.toNat).key (cl cs b.toNat).key with
   |true =>
    have : lessC cs a b = true := by rw [lessC_iff]; exact ⟨hne, e1, e0, .inr (.inr hs')⟩
    rw [this] at h1; cases h1
   |false =>
    have := h a.toNat b.toNat (by omega) (by omega) (by omega) (by omega) (sLt_total hs' hs)
    omega
theorem dst_of {cs : List Cl} {ps : List Pr} (h : validL cs ps = true) : Dst cs := by
 simp only [validL, Bool.and_eq_true, Bool.not_eq_true'] at h
 have hc := anyB_iff.1 h.1.2
 have key : ∀ i j : Nat, 2 ≤ i → i < j → j < cs.length → (cl cs i).key = (cl cs j).key → False := by
  intro i j h1 h2 h3 h4
  have := hc j h3
  rw [Bool.or_eq_false_iff] at this
  have hd := this.2
  rw [dupC, decide_eq_true (by omega : 1 < (j : Int)), Bool.true_and] at hd
  have := anyB_iff.1 hd (i - 2) (by omega)
  rw [sameKey, show 2 + (i - 2) = i by omega, sEq_iff, h4] at this
  simp at this
 intro i j h1 h2 h3 h4 h5
 rcases Nat.lt_trichotomy i j with h | h | h
 ·exact (key i j h1 h h4 h5).elim
 ·exact h
 ·exact (key j i h3 h h2 h5.symm).elim
theorem valid_mk {cs ds : List Cl} {ps qs : List Pr} (hv : validL cs ps = true) (hk : KeyEq cs ds) (hl : qs.length = ps.length)
  (hc : ∀ i, i < cs.length → (cl ds i).left = 0 ∧ 0 ≤ (cl ds i).right ∧ (cl ds i).right < cs.length ∧ 0 ≤ (cl ds i).lock ∧ (cl ds i).lock ≤ 1)
  (hp : ∀ i, i < ps.length → PrOk cs.length (pr qs i) ∧ knownP (pr qs i).phase = true ∧ 0 ≤ (pr qs i).kind ∧ (pr qs i).kind ≤ 3 ∧ ((pr qs i).kind = 0 ↔ (pr qs i).phase = 0)) : validL ds qs = true := by
 simp only [validL, Bool.and_eq_true, Bool.not_eq_true'] at hv ⊢
 obtain ⟨⟨h1, h2⟩, h3⟩ := hv
 have h2' := anyB_iff.1 h2
 refine ⟨⟨?_, anyB_iff.2 fun i hi => ?_⟩, anyB_iff.2 fun i hi => ?_⟩
 ·simp only [headBad, hk.len, hl, hk.key] at h1 ⊢; exact h1
 ·rw [hk.len] at hi ⊢
  have h4 := h2' i hi
  have h5 := hc i hi
  rw [Bool.or_eq_false_iff] at h4 ⊢
  refine ⟨?_, ?_⟩
  ·have h6 := h4.1
   simp only [badC, Bool.or_eq_false_iff, decide_eq_false_iff_not, bne_eq_false_iff_eq, hk.key] at h6 ⊢
   exact ⟨⟨⟨⟨⟨h5.1, by omega⟩, by omega⟩, by omega⟩, by omega⟩, h6.2⟩
  ·have h6 := h4.2
   simp only [dupC, sameKey, hk.key] at h6 ⊢
   exact h6
 ·rw [hl] at hi
  obtain ⟨⟨a1, a2, a3, a4⟩, a5, a6, a7, a8⟩ := hp i hi
  simp only [badP, Bool.or_eq_false_iff, decide_eq_false_iff_not, bne_eq_false_iff_eq, hk.len]
  refine ⟨⟨⟨⟨⟨by omega, by omega⟩, by omega⟩, by omega⟩, by rw [a5]; rfl⟩, ?_⟩
  rw [Bool.eq_iff_iff]
  simpa using a8
/-- What one step does to the cells and to the process. -/
inductive Tr (cs : List Cl) (x : Pr) : List Cl → Pr → Prop
 |clean (h : x.phase = 1) (hg : gn cs x.succ = true) : Tr cs x cs { x with next := rt cs x.succ, phase := 14 }
 |adv (h : x.phase = 1) (hg : gn cs x.succ = false) (hl : lessC cs x.succ x.cell = true) : Tr cs x cs { x with pred := x.succ, succ := rt cs x.succ }
 |link (h : x.phase = 1) (hg : gn cs x.succ = false) (hl : lessC cs x.succ x.cell = false) (hk : x.kind = 1) : Tr cs x cs { x with next := rt cs x.succ, phase := 6 }
 |aim (h : x.phase = 1) (hg : gn cs x.succ = false) (hl : lessC cs x.succ x.cell = false) (hk : x.kind = 2) (he : x.succ = x.cell) : Tr cs x cs { x with next := rt cs x.succ, phase := 16 }
 |found (h : x.phase = 1) (hg : gn cs x.succ = false) (hl : lessC cs x.succ x.cell = false) (hk : x.kind = 3) : Tr cs x cs { x with next := rt cs x.succ, res := x.succ == x.cell, phase := 18 }
 |none (h : x.phase = 1) (hg : gn cs x.succ = false) (hl : lessC cs x.succ x.cell = false) (hk : x.kind ≠ 1 ∧ x.kind ≠ 3) (he : x.kind = 2 → x.succ ≠ x.cell) : Tr cs x cs { x with next := rt cs x.succ, phase := 18 }
 |retry (h : (x.phase = 14 ∨ x.phase = 15) ∧ swapBad cs x.pred x.succ = true ∨ x.phase = 16 ∧ swapBad cs x.cell x.next = true) : Tr cs x cs (againP cs x)
 |unl (h : x.phase = 14) (hb : swapBad cs x.pred x.succ = false) : Tr cs x (setR cs x.pred x.next) { x with succ := x.next, phase := 1 }
 |lay (h : x.phase = 6) : Tr cs x (setR cs x.cell x.succ) { x with phase := 15 }
 |ins (h : x.phase = 15) (hb : swapBad cs x.pred x.succ = false) : Tr cs x (setR cs x.pred x.cell) { x with res := true, phase := 18 }
 |mark (h : x.phase = 16) (hb : swapBad cs x.cell x.next = false) : Tr cs x (setG (setR cs x.cell x.next) x.cell) { x with res := true, phase := 17 }
 |cut (h : x.phase = 17) (hb : swapBad cs x.pred x.cell = false) : Tr cs x (setR cs x.pred x.next) { x with phase := 18 }
 |miss (h : x.phase = 17) (hb : swapBad cs x.pred x.cell = true) : Tr cs x cs { x with phase := 18 }
theorem Tr.of {cs : List Cl} {x : Pr} (ha : actP x = true) (hk : knownP x.phase = true) : Tr cs x (stepC cs x) (stepP cs x) := by
 have hs : ∀ c old new, swapBad cs c old = false → swapC cs c old new = setR cs c new := fun c old new h => by rw [swapC, h]; rfl
 have hp : x.phase = 1 ∨ x.phase = 14 ∨ x.phase = 6 ∨ x.phase = 15 ∨ x.phase = 16 ∨ x.phase = 17 := by
  simp only [knownP, decide_eq_true_eq, actP, Bool.and_eq_true, bne_iff_ne] at ha hk
  omega
 rcases hp with h | h | h | h | h | h
 ·have e1 : stepC cs x = cs := by simp [stepC, h]
  have e2 : stepP cs x = findP cs x := by simp [stepP, h]
  rw [e1, e2]
  unfold findP
  split
  ·exact .clean h ‹_›
  ·rename_i hg
   have hg : gn cs x.succ = false := by simpa [gn] using hg
   split
   ·exact .adv h hg ‹_›
   ·rename_i hl
    have hl : lessC cs x.succ x.cell = false := by simpa using hl
    split
    ·exact .link h hg hl ‹_›
    ·rename_i h1
     split
     ·rename_i h2
      rw [Bool.and_eq_true, beq_iff_eq, beq_iff_eq] at h2
      exact .aim h hg hl h2.1 h2.2
     ·rename_i h2
      split
      ·exact .found h hg hl ‹_›
      ·exact .none h hg hl ⟨h1, ‹_›⟩ fun h3 h4 => h2 (by rw [h3, h4]; simp)
 ·have e1 : stepC cs x = swapC cs x.pred x.succ x.next := by simp [stepC, h]
  have e2 : stepP cs x = if swapBad cs x.pred x.succ then againP cs x else { x with succ := x.next, phase := 1 } := by simp [stepP, h]
  rw [e1, e2]
  cases hb : swapBad cs x.pred x.succ with
  |true => rw [swap_same hb]; exact .retry (.inl ⟨.inl h, hb⟩)
  |false => rw [hs _ _ _ hb]; exact .unl h hb
 ·have e1 : stepC cs x = setR cs x.cell x.succ := by simp [stepC, h]
  have e2 : stepP cs x = { x with phase := 15 } := by simp [stepP, h]
  rw [e1, e2]
  exact .lay h
 ·have e1 : stepC cs x = swapC cs x.pred x.succ x.cell := by simp [stepC, h]
  have e2 : stepP cs x = if swapBad cs x.pred x.succ then againP cs x else { x with res := true, phase := 18 } := by simp [stepP, h]
  rw [e1, e2]
  cases hb : swapBad cs x.pred x.succ with
  |true => rw [swap_same hb]; exact .retry (.inl ⟨.inr h, hb⟩)
  |false => rw [hs _ _ _ hb]; exact .ins h hb
 ·have e1 : stepC cs x = if swapBad cs x.cell x.next then cs else setG (swapC cs x.cell x.next x.next) x.cell := by simp [stepC, h]
  have e2 : stepP cs x = if swapBad cs x.cell x.next then againP cs x else { x with res := true, phase := 17 } := by simp [stepP, h]
  rw [e1, e2]
  cases hb : swapBad cs x.cell x.next with
  |true => exact .retry (.inr ⟨h, hb⟩)
  |false => rw [hs _ _ _ hb]; exact .mark h hb
 ·have e1 : stepC cs x = swapC cs x.pred x.cell x.next := by simp [stepC, h]
  have e2 : stepP cs x = { x with phase := 18 } := by simp [stepP, h]
  rw [e1, e2]
  cases hb : swapBad cs x.pred x.cell with
  |true => rw [swap_same hb]; exact .miss h hb
  |false => rw [hs _ _ _ hb]; exact .cut h hb
/-- A process has yet to insert the cell. -/
def pend (ps : List Pr) (i : Int) : Prop := ∃ q, q < ps.length ∧ (pr ps q).kind = 1 ∧ actP (pr ps q) = true ∧ (pr ps q).cell = i
/-- The cell is, or was, in the list. -/
def Tin (cs : List Cl) (ps : List Pr) (i : Int) : Prop := 0 ≤ i ∧ i < cs.length ∧ (i < 2 ∨ lk cs i = 1 ∧ ¬ pend ps i)
theorem pend_set {ps : List Pr} {p : Nat} {y : Pr} (hp : p < ps.length) (i : Int) : pend (ps.set p y) i ↔ (y.kind = 1 ∧ actP y = true ∧ y.cell = i) ∨ ∃ q, q ≠ p ∧ q < ps.length ∧ (pr ps q).kind = 1 ∧ actP (pr ps q) = true ∧ (pr ps q).cell = i := by
 constructor
 ·rintro ⟨q, h1, h2⟩
  rw [List.length_set] at h1
  by_cases e : p = q
  ·subst e; rw [pr_set_eq hp] at h2; exact .inl h2
  ·rw [pr_set_ne e] at h2; exact .inr ⟨q, Ne.symm e, h1, h2⟩
 ·rintro (h | ⟨q, h0, h1, h2⟩)
  ·exact ⟨p, by simpa using hp, by rw [pr_set_eq hp]; exact h⟩
  ·exact ⟨q, by simpa using h1, by rw [pr_set_ne (Ne.symm h0)]; exact h2⟩
/-- What is so of an active process. -/
structure PI (cs : List Cl) (T : Int → Prop) (x : Pr) : Prop where
 c2 : 2 ≤ x.cell
 pT : T x.pred
 pl : lessC cs x.pred x.cell = true
 sT : T x.succ
 p14 : x.phase = 14 → gn cs x.succ = true ∧ x.next = rt cs x.succ
 p6 : x.phase = 6 → x.kind = 1 ∧ lessC cs x.cell x.succ = true
 p15 : x.phase = 15 → x.kind = 1 ∧ lessC cs x.cell x.succ = true ∧ rt cs x.cell = x.succ
 p16 : x.phase = 16 → x.kind = 2 ∧ x.succ = x.cell
 p17 : x.phase = 17 → x.kind = 2 ∧ gn cs x.cell = true ∧ x.next = rt cs x.cell ∧ x.succ = x.cell
/-- The invariant of a list; l: the cells in it, behind the head. -/
structure Inv (cs : List Cl) (ps : List Pr) (l : List Int) : Prop where
 vb : validL cs ps = true
 core : Core cs (Tin cs ps) l
 lk01 : lk cs 0 = 1 ∧ lk cs 1 = 1
 uniq : ∀ q q', q < ps.length → q' < ps.length → (pr ps q).kind = 1 → actP (pr ps q) = true → (pr ps q').kind = 1 → actP (pr ps q') = true → (pr ps q).cell = (pr ps q').cell → q = q'
 pnd : ∀ q, q < ps.length → (pr ps q).kind = 1 → actP (pr ps q) = true → lk cs (pr ps q).cell = 1
 prc : ∀ q, q < ps.length → actP (pr ps q) = true → PI cs (Tin cs ps) (pr ps q)
theorem PI.mono {cs ds : List Cl} {T T' : Int → Prop} {x : Pr} (h : PI cs T x) (hk : KeyEq cs ds) (hT : ∀ i, T i → T' i) (hx : 0 ≤ x.cell ∧ 0 ≤ x.succ) (hg : ∀ i : Int, 0 ≤ i → gn cs i = true → gn ds i = true ∧ rt ds i = rt cs i) (h15 : x.phase = 15 → rt ds x.cell = rt cs x.cell) : PI ds T' x := by
 refine ⟨h.c2, hT _ h.pT, by rw [hk.less]; exact h.pl, hT _ h.sT, fun e => ?_, fun e => ?_, fun e => ?_, h.p16, fun e => ?_⟩
 ·have := h.p14 e
  have h2 := hg _ hx.2 this.1
  exact ⟨h2.1, by rw [h2.2]; exact this.2⟩
 ·rw [hk.less]; exact h.p6 e
 ·rw [hk.less, h15 e]; exact h.p15 e
 ·obtain ⟨a, b, c, d⟩ := h.p17 e
  have h2 := hg _ hx.1 b
  exact ⟨a, h2.1, by rw [h2.2]; exact c, d⟩
/-- What a step leaves behind keeps the invariant, if ... -/
theorem Inv.next {cs ds : List Cl} {ps : List Pr} {l l' : List Int} (h : Inv cs ps l) {p : Nat} {y : Pr} {T' : Int → Prop} (hp : p < ps.length) (hk : KeyEq cs ds)
  (hc : ∀ i, i < cs.length → (cl ds i).left = 0 ∧ 0 ≤ (cl ds i).right ∧ (cl ds i).right < cs.length ∧ (cl ds i).lock = (cl cs i).lock)
  (hy : PrOk cs.length y) (hyk : y.kind = (pr ps p).kind) (hyc : y.cell = (pr ps p).cell) (hph : knownP y.phase = true) (hp0 : y.phase ≠ 0) (ha : actP (pr ps p) = true)
  (hT : ∀ i, Tin ds (ps.set p y) i ↔ T' i) (hcore : Core ds T' l') (hTT : ∀ i, Tin cs ps i → T' i)
  (hg : ∀ i : Int, 0 ≤ i → gn cs i = true → gn ds i = true ∧ rt ds i = rt cs i)
  (h15 : ∀ q, q ≠ p → q < ps.length → actP (pr ps q) = true → (pr ps q).phase = 15 → rt ds (pr ps q).cell = rt cs (pr ps q).cell)
  (hPI : actP y = true → PI ds T' y) : Inv ds (ps.set p y) l' := by
 have hv := vld_of h.vb
 have hTe : Tin ds (ps.set p y) = T' := funext fun i => propext (hT i)
 have hl2 := hv.two
 refine ⟨?_, by rw [hTe]; exact hcore, ?_, ?_, ?_, ?_⟩
 ·refine valid_mk h.vb hk (by simp) (fun i hi => ?_) fun i hi => ?_
  ·have h1 := hc i hi
   have h2 := hv.cell i hi
   rw [h1.2.2.2]
   exact ⟨h1.1, h1.2.1, h1.2.2.1, h2.2.2.2.1, h2.2.2.2.2⟩
  ·by_cases e : p = i
   ·subst e
    rw [pr_set_eq hp, hyk]
    have h3 := hv.kind p hi
    refine ⟨hy, hph, h3.1, h3.2.1, fun e => ?_, fun e => absurd e hp0⟩
    have := h3.2.2.1 e
    rw [actP, this] at ha; simp at ha
   ·rw [pr_set_ne e]
    have h3 := hv.kind i hi
    exact ⟨hv.proc i hi, hv.phase i hi, h3.1, h3.2.1, h3.2.2⟩
 ·have h0 := hc 0 (by omega)
  have h1 := hc 1 (by omega)
  have := h.lk01
  exact ⟨h0.2.2.2.trans this.1, h1.2.2.2.trans this.2⟩
 ·have key : ∀ q, actP (pr (ps.set p y) q) = true → (pr (ps.set p y) q).kind = 1 → (pr ps q).kind = 1 ∧ actP (pr ps q) = true ∧ (pr (ps.set p y) q).cell = (pr ps q).cell := by
   intro q h1 h2
   by_cases e : p = q
   ·subst e
    rw [pr_set_eq hp] at h1 h2 ⊢
    exact ⟨hyk ▸ h2, ha, hyc⟩
   ·rw [pr_set_ne e] at h1 h2 ⊢
    exact ⟨h2, h1, rfl⟩
  intro q q' h1 h2 h3 h4 h5 h6 h7
  rw [List.length_set] at h1 h2
  obtain ⟨a1, a2, a3⟩ := key q h4 h3
  obtain ⟨b1, b2, b3⟩ := key q' h6 h5
  rw [a3, b3] at h7
  exact h.uniq q q' h1 h2 a1 a2 b1 b2 h7
 ·intro q h1 h2 h3
  rw [List.length_set] at h1
  have hlk : ∀ i : Int, 0 ≤ i ∧ i < cs.length → lk ds i = lk cs i := fun i hi => (hc i.toNat (by omega)).2.2.2
  by_cases e : p = q
  ·subst e
   rw [pr_set_eq hp] at h2 ⊢
   rw [hyc, hlk _ (hv.proc p hp).cell]
   exact h.pnd p hp (hyk ▸ h2) ha
  ·rw [pr_set_ne e] at h2 h3 ⊢
   rw [hlk _ (hv.proc q h1).cell]
   exact h.pnd q h1 h2 h3
 ·intro q h1 h2
  rw [List.length_set] at h1
  rw [hTe]
  by_cases e : p = q
  ·subst e
   rw [pr_set_eq hp] at h2 ⊢
   exact hPI h2
  ·rw [pr_set_ne e] at h2 ⊢
   exact (h.prc q h1 h2).mono hk hTT ⟨(hv.proc q h1).cell.1, (hv.proc q h1).succ.1⟩ hg fun e' => h15 q (Ne.symm e) h1 h2 e'
end Go.Proofs

set_option linter.unusedSimpArgs false
set_option linter.unusedVariables false
set_option maxRecDepth 4000
namespace Go.Proofs
open Go.Sk
/-- What a step does to the cells in the list and to the marks. -/
inductive Eff (cs ds : List Cl) (T : Int → Prop) (x y : Pr) (l l' : List Int) : Prop
 |quiet (hl : l' = l) (hr : ∀ i, T i → rt ds i = rt cs i) (hg : ∀ i : Int, 0 ≤ i → gn ds i = gn cs i) (hx : y.kind ≠ 3 → y.res = x.res) (hy : y.phase = 18 → y.kind ≠ 1)
 |unlink (A B : List Int) (s n : Int) (h : l = A ++ s :: n :: B) (hl : l' = A ++ n :: B) (hs : gn cs s = true) (hg : ∀ i : Int, 0 ≤ i → gn ds i = gn cs i) (hx : x.phase = 14 ∧ y.phase = 1 ∨ x.phase = 17 ∧ y.phase = 18 ∧ x.kind = 2) (hy : y.res = x.res) (hk : y.phase = 18 → y.kind ≠ 1)
 |insert (A B : List Int) (s : Int) (h : l = A ++ s :: B) (hl : l' = A ++ x.cell :: s :: B) (hc : x.cell ∉ l) (hn : gn cs x.cell = false) (hg : ∀ i : Int, 0 ≤ i → gn ds i = gn cs i) (hx : x.phase = 15 ∧ x.kind = 1 ∧ y.phase = 18) (hy : y.res = true)
 |mark (hl : l' = l) (hr : ∀ i : Int, 0 ≤ i → rt ds i = rt cs i) (hg : ∀ i : Int, 0 ≤ i → gn ds i = if i = x.cell then true else gn cs i) (hc : x.cell ∈ l) (hn : gn cs x.cell = false) (hx : x.phase = 16 ∧ x.kind = 2 ∧ y.phase = 17) (hy : y.res = true)
theorem pend_keep {ps : List Pr} {p : Nat} {y : Pr} (hp : p < ps.length) (hyk : y.kind = (pr ps p).kind) (hyc : y.cell = (pr ps p).cell) (ha : actP (pr ps p) = true) (hact : (pr ps p).kind = 1 → actP y = true) (i : Int) : pend (ps.set p y) i ↔ pend ps i := by
 rw [pend_set hp]
 constructor
 ·rintro (⟨h1, h2, h3⟩ | ⟨q, _, h⟩)
  ·exact ⟨p, hp, hyk ▸ h1, ha, hyc ▸ h3⟩
  ·exact ⟨q, h⟩
 ·rintro ⟨q, h1, h2, h3, h4⟩
  by_cases e : q = p
  ·subst e; exact .inl ⟨hyk.trans h2, hact h2, hyc.trans h4⟩
  ·exact .inr ⟨q, e, h1, h2, h3, h4⟩
theorem Tin_keep {cs ds : List Cl} {ps : List Pr} {p : Nat} {y : Pr} (hk : KeyEq cs ds) (hlk : ∀ i : Int, 0 ≤ i → lk ds i = lk cs i) (hp : p < ps.length) (hyk : y.kind = (pr ps p).kind) (hyc : y.cell = (pr ps p).cell) (ha : actP (pr ps p) = true) (hact : (pr ps p).kind = 1 → actP y = true) (i : Int) : Tin ds (ps.set p y) i ↔ Tin cs ps i := by
 unfold Tin
 rw [hk.len, pend_keep hp hyk hyc ha hact]
 constructor
 ·rintro ⟨h1, h2, h3⟩; exact ⟨h1, h2, by rw [← hlk i h1]; exact h3⟩
 ·rintro ⟨h1, h2, h3⟩; exact ⟨h1, h2, by rw [hlk i h1]; exact h3⟩
theorem Inv.notT {cs : List Cl} {ps : List Pr} {l : List Int} (h : Inv cs ps l) {q : Nat} (hq : q < ps.length) (hk : (pr ps q).kind = 1) (ha : actP (pr ps q) = true) : ¬ Tin cs ps (pr ps q).cell := by
 rintro ⟨_, _, h1⟩
 have h2 := (h.prc q hq ha).c2
 rcases h1 with h1 | h1
 ·omega
 ·exact h1.2 ⟨q, hq, hk, ha, rfl⟩
theorem less_ne_one {cs : List Cl} {a b : Int} (h : lessC cs a b = true) : a ≠ 1 := (lessC_iff.1 h).2.1
theorem swapBad_false {cs : List Cl} {c old : Int} (h : swapBad cs c old = false) : gn cs c = false ∧ rt cs c = old := by
 rw [swapBad, Bool.or_eq_false_iff, bne_eq_false_iff_eq] at h; exact h
theorem act_of {y : Pr} {n : Int} (h : y.phase = n) (h0 : n ≠ 0) (h18 : n ≠ 18) : actP y = true := by
 simp only [actP, h, Bool.and_eq_true, bne_iff_ne]; exact ⟨h0, h18⟩
/-- A step that changes no cell. -/
theorem Inv.quiet {cs : List Cl} {ps : List Pr} {l : List Int} (h : Inv cs ps l) {p : Nat} {y : Pr} (hp : p < ps.length) (ha : actP (pr ps p) = true) (hy : PrOk cs.length y) (hyk : y.kind = (pr ps p).kind) (hyc : y.cell = (pr ps p).cell)
  (hph : knownP y.phase = true) (hp0 : y.phase ≠ 0) (hact : (pr ps p).kind = 1 → actP y = true) (hPI : actP y = true → PI cs (Tin cs ps) y) : Inv cs (ps.set p y) l := by
 have hv := vld_of h.vb
 refine h.next hp (KeyEq.refl cs) (fun i hi => ?_) hy hyk hyc hph hp0 ha (Tin_keep (KeyEq.refl cs) (fun _ _ => rfl) hp hyk hyc ha hact) h.core (fun _ hi => hi) (fun _ _ hg => ⟨hg, rfl⟩) (fun _ _ _ _ _ => rfl) hPI
 have := hv.cell i hi
 exact ⟨this.1, this.2.1, this.2.2.1, rfl⟩
theorem rt_in {cs : List Cl} {ps : List Pr} (hv : Vld cs ps) {i : Int} (hi : 0 ≤ i ∧ i < cs.length) : 0 ≤ rt cs i ∧ rt cs i < cs.length := by
 have := hv.cell i.toNat (by omega)
 exact ⟨this.2.1, this.2.2.1⟩
theorem setR_cell {cs : List Cl} {ps : List Pr} (hv : Vld cs ps) {c v : Int} (hc : 0 ≤ c ∧ c < cs.length) (hn : 0 ≤ v ∧ v < cs.length) (i : Nat) (hi : i < cs.length) :
  (cl (setR cs c v) i).left = 0 ∧ 0 ≤ (cl (setR cs c v) i).right ∧ (cl (setR cs c v) i).right < cs.length ∧ (cl (setR cs c v) i).lock = (cl cs i).lock := by
 have := hv.cell i hi
 have e := cl_up (cs := cs) (c := c) (i := (i : Int)) (y := { cl cs c.toNat with right := v }) hc (by omega)
 rw [Int.toNat_natCast] at e
 simp only [setR]
 rw [e]
 split
 ·rename_i e1
  have e2 : c.toNat = i := by omega
  rw [e2]
  exact ⟨this.1, hn.1, hn.2, rfl⟩
 ·exact ⟨this.1, this.2.1, this.2.2.1, rfl⟩
/-- A step that sets the Right of a cell of T that is not gone. -/
theorem Inv.swapT {cs : List Cl} {ps : List Pr} {l l' : List Int} (h : Inv cs ps l) {p : Nat} {y : Pr} {c v : Int} {T' : Int → Prop} (hp : p < ps.length) (ha : actP (pr ps p) = true) (hc : Tin cs ps c) (hcg : gn cs c = false) (hv : 0 ≤ v ∧ v < cs.length)
  (hy : PrOk cs.length y) (hyk : y.kind = (pr ps p).kind) (hyc : y.cell = (pr ps p).cell) (hph : knownP y.phase = true) (hp0 : y.phase ≠ 0)
  (hT : ∀ i, Tin (setR cs c v) (ps.set p y) i ↔ T' i) (hcore : Core (setR cs c v) T' l') (hTT : ∀ i, Tin cs ps i → T' i) (hPI : actP y = true → PI (setR cs c v) T' y) : Inv (setR cs c v) (ps.set p y) l' := by
 have hvl := vld_of h.vb
 have hr := h.core.rng c hc
 refine h.next hp (key_setR ..) (setR_cell hvl hr hv) hy hyk hyc hph hp0 ha hT hcore hTT (fun i hi hg => ?_) (fun q hqp hq hqa h15 => ?_) hPI
 ·have hne : i ≠ c := fun e => by rw [e, hcg] at hg; cases hg
  exact ⟨by rw [gn_setR hr hi]; exact hg, by rw [rt_setR hr hi, if_neg hne]⟩
 ·have hP := h.prc q hq hqa
  have hne : (pr ps q).cell ≠ c := fun e => h.notT hq (hP.p15 h15).1 hqa (e ▸ hc)
  have := hP.c2
  rw [rt_setR hr (by omega), if_neg hne]
set_option maxHeartbeats 1000000 in
theorem Inv.step {cs ds : List Cl} {ps : List Pr} {l : List Int} (h : Inv cs ps l) {p : Nat} {y : Pr} (hp : p < ps.length) (ha : actP (pr ps p) = true) (ht : Tr cs (pr ps p) ds y) :
  ∃ l', Inv ds (ps.set p y) l' ∧ Eff cs ds (Tin cs ps) (pr ps p) y l l' ∧ (y.phase = 1 → gn ds y.pred = false ∧ rt ds y.pred = y.succ) := by
 have hv := vld_of h.vb
 have hd := dst_of h.vb
 have hP := h.prc p hp ha
 have hO := hv.proc p hp
 have hcT := fun hk => h.notT hp hk ha
 have hnl := h.core.two
 have huniq : ∀ q, q ≠ p → q < ps.length → (pr ps q).kind = 1 → actP (pr ps q) = true → (pr ps p).kind = 1 → (pr ps q).cell ≠ (pr ps p).cell := fun q h1 h2 h3 h4 h5 e => h1 (h.uniq q p h2 hp h3 h4 h5 ha e)
 have hpn := h.pnd p hp
 generalize hx : pr ps p = x at *
 obtain ⟨oc, op, os, on⟩ := hO
 have hsr := rt_in hv os
 cases ht with
 |clean hph hg =>
  refine ⟨l, h.quiet hp (hx ▸ ha) ⟨oc, op, os, hsr⟩ (by rw [hx]) (by rw [hx]) (by show knownP 14 = true; decide) (by show (14 : Int) ≠ 0; decide) (fun _ => act_of (n := 14) rfl (by decide) (by decide)) fun _ => ?_, .quiet rfl (fun _ _ => rfl) (fun _ _ => rfl) (fun _ => rfl) (fun e => by cases e), fun e => by cases e⟩
  exact ⟨hP.c2, hP.pT, hP.pl, hP.sT, fun _ => ⟨hg, rfl⟩, (fun e => by cases e), (fun e => by cases e), (fun e => by cases e), fun e => by cases e⟩
 |adv hph hg hl =>
  have hs1 := less_ne_one hl
  refine ⟨l, h.quiet hp (hx ▸ ha) ⟨oc, os, hsr, on⟩ (by rw [hx]) (by rw [hx]) (by show knownP x.phase = true; rw [hph]; decide) (by show x.phase ≠ 0; omega) (fun _ => act_of (n := 1) hph (by decide) (by decide)) fun _ => ?_, .quiet rfl (fun _ _ => rfl) (fun _ _ => rfl) (fun _ => rfl) (fun e => by have e2 : x.phase = 18 := e; omega), fun _ => ⟨hg, rfl⟩⟩
  refine ⟨hP.c2, hP.sT, hl, (h.core.clo _ hP.sT hs1).1, fun e => ?_, fun e => ?_, fun e => ?_, fun e => ?_, fun e => ?_⟩ <;> (dsimp only at e; omega)
 |link hph hg hl hk =>
  have hsc : x.succ ≠ x.cell := fun e => hcT hk (e ▸ hP.sT)
  have hcs := hd.total os oc hsc hl
  refine ⟨l, h.quiet hp (hx ▸ ha) ⟨oc, op, os, hsr⟩ (by rw [hx]) (by rw [hx]) (by show knownP 6 = true; decide) (by show (6 : Int) ≠ 0; decide) (fun _ => act_of (n := 6) rfl (by decide) (by decide)) fun _ => ?_, .quiet rfl (fun _ _ => rfl) (fun _ _ => rfl) (fun _ => rfl) (fun e => by cases e), fun e => by cases e⟩
  exact ⟨hP.c2, hP.pT, hP.pl, hP.sT, (fun e => by cases e), fun _ => ⟨hk, hcs⟩, (fun e => by cases e), (fun e => by cases e), fun e => by cases e⟩
 |aim hph hg hl hk he =>
  refine ⟨l, h.quiet hp (hx ▸ ha) ⟨oc, op, os, hsr⟩ (by rw [hx]) (by rw [hx]) (by show knownP 16 = true; decide) (by show (16 : Int) ≠ 0; decide) (fun _ => act_of (n := 16) rfl (by decide) (by decide)) fun _ => ?_, .quiet rfl (fun _ _ => rfl) (fun _ _ => rfl) (fun _ => rfl) (fun e => by cases e), fun e => by cases e⟩
  exact ⟨hP.c2, hP.pT, hP.pl, hP.sT, (fun e => by cases e), (fun e => by cases e), (fun e => by cases e), fun _ => ⟨hk, he⟩, fun e => by cases e⟩
 |found hph hg hl hk =>
  refine ⟨l, h.quiet hp (hx ▸ ha) ⟨oc, op, os, hsr⟩ (by rw [hx]) (by rw [hx]) (by show knownP 18 = true; decide) (by show (18 : Int) ≠ 0; decide) (fun e => ?_) fun e => by simp [actP] at e, .quiet rfl (fun _ _ => rfl) (fun _ _ => rfl) (fun e => absurd hk e) (fun _ => by show x.kind ≠ 1; omega), fun e => by cases e⟩
  rw [hx] at e; omega
 |none hph hg hl hk he =>
  refine ⟨l, h.quiet hp (hx ▸ ha) ⟨oc, op, os, hsr⟩ (by rw [hx]) (by rw [hx]) (by show knownP 18 = true; decide) (by show (18 : Int) ≠ 0; decide) (fun e => ?_) fun e => by simp [actP] at e, .quiet rfl (fun _ _ => rfl) (fun _ _ => rfl) (fun _ => rfl) (fun _ => hk.1), fun e => by cases e⟩
  rw [hx] at e; exact absurd e hk.1
 |retry hb =>
  have h0 : 0 ≤ (0 : Int) ∧ (0 : Int) < cs.length := by omega
  refine ⟨l, h.quiet hp (hx ▸ ha) ⟨oc, h0, rt_in hv h0, on⟩ (by rw [hx]; rfl) (by rw [hx]; rfl) (by show knownP 1 = true; decide) (by show (1 : Int) ≠ 0; decide) (fun _ => act_of (n := 1) rfl (by decide) (by decide)) fun _ => ?_, .quiet rfl (fun _ _ => rfl) (fun _ _ => rfl) (fun _ => rfl) (fun e => by cases e), fun _ => ⟨h.core.g0, rfl⟩⟩
  refine ⟨hP.c2, h.core.t0, ?_, (h.core.clo 0 h.core.t0 (by decide)).1, (fun e => by cases e), (fun e => by cases e), (fun e => by cases e), (fun e => by cases e), fun e => by cases e⟩
  have := hP.c2
  rw [lessC_iff]
  exact ⟨by show (0 : Int) ≠ x.cell; omega, by show (0 : Int) ≠ 1; decide, by show x.cell ≠ 0; omega, .inl rfl⟩
 |unl hph hb =>
  obtain ⟨b1, b2⟩ := swapBad_false hb
  obtain ⟨b3, b4⟩ := hP.p14 hph
  have hp1 := less_ne_one hP.pl
  have hs1 : x.succ ≠ 1 := fun e => by rw [e, h.core.g1] at b3; cases b3
  have hnx : x.next = rt cs (rt cs x.pred) := by rw [b2, b4]
  obtain ⟨A, B, e1, _, hC⟩ := h.core.unlink hP.pT b1 hp1 (by rw [b2]; exact b3)
  rw [← hnx] at e1 hC
  rw [b2] at e1
  have hT := Tin_keep (ps := ps) (p := p) (y := { x with succ := x.next, phase := 1 }) (key_setR cs x.pred x.next) (fun i hi => lk_setR op hi) hp (by rw [hx]) (by rw [hx]) (by rw [hx]; exact ha) fun _ => act_of (n := 1) rfl (by decide) (by decide)
  refine ⟨_, h.swapT hp (hx ▸ ha) hP.pT b1 on ⟨oc, op, on, on⟩ (by rw [hx]) (by rw [hx]) (by show knownP 1 = true; decide) (by show (1 : Int) ≠ 0; decide) hT hC (fun _ h => h) fun _ => ?_, .unlink A B x.succ x.next e1 rfl b3 (fun i hi => gn_setR op hi) (.inl ⟨hph, rfl⟩) rfl (fun e => by cases e), fun _ => ⟨by rw [gn_setR op op.1]; exact b1, by rw [rt_setR op op.1, if_pos rfl]⟩⟩
  refine ⟨hP.c2, hP.pT, ?_, ?_, (fun e => by cases e), (fun e => by cases e), (fun e => by cases e), (fun e => by cases e), fun e => by cases e⟩
  ·rw [(key_setR ..).less]; exact hP.pl
  ·show Tin cs ps x.next
   rw [b4]; exact (h.core.clo _ hP.sT hs1).1
 |lay hph =>
  obtain ⟨hk, hcs⟩ := hP.p6 hph
  have hnT := hcT hk
  have hT := Tin_keep (ps := ps) (p := p) (y := { x with phase := 15 }) (key_setR cs x.cell x.succ) (fun i hi => lk_setR oc hi) hp (by rw [hx]) (by rw [hx]) (by rw [hx]; exact ha) fun _ => act_of (n := 15) rfl (by decide) (by decide)
  have hr : ∀ i, Tin cs ps i → rt (setR cs x.cell x.succ) i = rt cs i := fun i hi => by
   have hne : i ≠ x.cell := fun e => hnT (e ▸ hi)
   rw [rt_setR oc (h.core.rng i hi).1, if_neg hne]
  refine ⟨l, h.next hp (key_setR ..) (setR_cell hv oc os) ⟨oc, op, os, on⟩ (by rw [hx]) (by rw [hx]) (by show knownP 15 = true; decide) (by show (15 : Int) ≠ 0; decide) (hx ▸ ha) hT (h.core.same (key_setR ..) (fun _ => Iff.rfl) hr fun i hi _ => gn_setR oc hi) (fun _ h => h) (fun i hi hg => ?_) (fun q hqp hq hqa h15 => ?_) fun _ => ?_, .quiet rfl hr (fun i hi => gn_setR oc hi) (fun _ => rfl) (fun e => by cases e), fun e => by cases e⟩
  ·have hin : i < cs.length := by
    rcases Int.lt_or_le i cs.length with h' | h'
    ·exact h'
    ·exfalso
     have : cl cs i.toNat = noCl := by
      rw [cl, List.getD_eq_getElem?_getD, List.getElem?_eq_none (by omega)]; rfl
     rw [gn, this] at hg; cases hg
   exact ⟨by rw [gn_setR oc hi]; exact hg, hr i (h.core.gT i hi hin hg)⟩
  ·have hPq := h.prc q hq hqa
   have hne := huniq q hqp hq (hPq.p15 h15).1 hqa hk
   have := hPq.c2
   rw [rt_setR oc (by omega), if_neg hne]
  ·refine ⟨hP.c2, hP.pT, ?_, hP.sT, (fun e => by cases e), (fun e => by cases e), fun _ => ⟨hk, ?_, ?_⟩, (fun e => by cases e), fun e => by cases e⟩
   ·rw [(key_setR ..).less]; exact hP.pl
   ·rw [(key_setR ..).less]; exact hcs
   ·show rt (setR cs x.cell x.succ) x.cell = x.succ
    rw [rt_setR oc oc.1, if_pos rfl]
 |ins hph hb =>
  obtain ⟨b1, b2⟩ := swapBad_false hb
  obtain ⟨hk, hcs, hrc⟩ := hP.p15 hph
  have hnT := hcT hk
  have hp1 := less_ne_one hP.pl
  have hc2 := hP.c2
  obtain ⟨A, B, e1, _, hC⟩ := h.core.insert (T' := fun i => Tin cs ps i ∨ i = x.cell) hP.pT b1 hp1 ⟨hc2, oc.2⟩ hnT (fun _ => Iff.rfl) hP.pl (by rw [b2]; exact hcs) (by rw [b2]; exact hrc)
  rw [b2] at e1 hC
  have hcn : x.cell ∉ l := fun hm => hnT (h.core.sub _ hm)
  have hcg : gn cs x.cell = false := by
   cases hg : gn cs x.cell with
   |false => rfl
   |true => exact absurd (h.core.gT _ oc.1 oc.2 hg) hnT
  refine ⟨_, h.swapT (T' := fun i => Tin cs ps i ∨ i = x.cell) hp (hx ▸ ha) hP.pT b1 oc ⟨oc, op, os, on⟩ (by rw [hx]) (by rw [hx]) (by show knownP 18 = true; decide) (by show (18 : Int) ≠ 0; decide) (fun i => ?_) hC (fun _ h => .inl h) fun e => by simp [actP] at e, .insert A B x.succ e1 rfl hcn hcg (fun i hi => gn_setR op hi) ⟨hph, hk, rfl⟩ rfl, fun e => by cases e⟩
  unfold Tin
  rw [(key_setR ..).len, pend_set hp]
  constructor
  ·rintro ⟨h1, h2, h3⟩
   by_cases e : i = x.cell
   ·exact .inr e
   ·refine .inl ⟨h1, h2, ?_⟩
    rcases h3 with h3 | ⟨h3, h4⟩
    ·exact .inl h3
    ·rw [lk_setR op h1] at h3
     refine .inr ⟨h3, fun ⟨q, q1, q2, q3, q4⟩ => h4 (.inr ⟨q, fun e' => ?_, q1, q2, q3, q4⟩)⟩
     rw [e', hx] at q4; exact e q4.symm
  ·rintro (⟨h1, h2, h3⟩ | rfl)
   ·refine ⟨h1, h2, ?_⟩
    rcases h3 with h3 | ⟨h3, h4⟩
    ·exact .inl h3
    ·refine .inr ⟨by rw [lk_setR op h1]; exact h3, ?_⟩
     rintro (⟨_, q2, _⟩ | ⟨q, _, q1⟩)
     ·simp [actP] at q2
     ·exact h4 ⟨q, q1⟩
   ·refine ⟨oc.1, oc.2, .inr ⟨by rw [lk_setR op oc.1]; exact hpn hk ha, ?_⟩⟩
    rintro (⟨_, q2, _⟩ | ⟨q, q0, q1, q2, q3, q4⟩)
    ·simp [actP] at q2
    ·exact huniq q q0 q1 q2 q3 hk q4
 |mark hph hb =>
  obtain ⟨b1, b2⟩ := swapBad_false hb
  obtain ⟨hk, hsc⟩ := hP.p16 hph
  have hcTin : Tin cs ps x.cell := hsc ▸ hP.sT
  have hc2 := hP.c2
  have hk1 := key_setR cs x.cell x.next
  have hrs : ∀ i : Int, 0 ≤ i → rt (setR cs x.cell x.next) i = rt cs i := fun i hi => by
   rw [rt_setR oc hi]; split
   ·rename_i e; rw [e]; exact b2.symm
   ·rfl
  have hC1 : Core (setR cs x.cell x.next) (Tin cs ps) l := h.core.same hk1 (fun _ => Iff.rfl) (fun i hi => hrs i (h.core.rng i hi).1) fun i hi _ => gn_setR oc hi
  have hC := hC1.mark hcTin hc2
  have hk2 : KeyEq (setR cs x.cell x.next) (setG (setR cs x.cell x.next) x.cell) := KeyEq.set rfl
  have hk3 := hk1.trans hk2
  have hlen : (setR cs x.cell x.next).length = cs.length := hk1.len
  have oc' : 0 ≤ x.cell ∧ x.cell < (setR cs x.cell x.next).length := by rw [hlen]; exact oc
  have hr : ∀ i : Int, 0 ≤ i → rt (setG (setR cs x.cell x.next) x.cell) i = rt cs i := fun i hi => by
   rw [← hrs i hi]; simp only [rt, setG]; rw [cl_up oc' hi]; split
   ·rename_i e; subst e; rfl
   ·rfl
  have hg : ∀ i : Int, 0 ≤ i → gn (setG (setR cs x.cell x.next) x.cell) i = if i = x.cell then true else gn cs i := fun i hi => by
   rw [← gn_setR (v := x.next) oc hi]; simp only [gn, setG]; rw [cl_up oc' hi]; split <;> rfl
  have hlk : ∀ i : Int, 0 ≤ i → lk (setG (setR cs x.cell x.next) x.cell) i = lk cs i := fun i hi => by
   rw [← lk_setR (v := x.next) oc hi]; simp only [lk, setG]; rw [cl_up oc' hi]; split
   ·rename_i e; subst e; rfl
   ·rfl
  have hT := Tin_keep (ps := ps) (p := p) (y := { x with res := true, phase := 17 }) hk3 hlk hp (by rw [hx]) (by rw [hx]) (by rw [hx]; exact ha) fun _ => act_of (n := 17) rfl (by decide) (by decide)
  have hcl : x.cell ∈ l := by
   rcases List.mem_cons.1 (h.core.inl _ hcTin b1) with e | e
   ·omega
   ·exact e
  refine ⟨l, h.next hp hk3 (fun i hi => ?_) ⟨oc, op, os, on⟩ (by rw [hx]) (by rw [hx]) (by show knownP 17 = true; decide) (by show (17 : Int) ≠ 0; decide) (hx ▸ ha) hT hC (fun _ h => h) (fun i hi hgi => ?_) (fun q hqp hq hqa h15 => ?_) fun _ => ?_, .mark rfl hr hg hcl b1 ⟨hph, hk, rfl⟩ rfl, fun e => by cases e⟩
  ·have h0 := hv.cell i hi
   have h1 := hr i (by omega)
   have h2 := hlk i (by omega)
   have e := cl_up (cs := setR cs x.cell x.next) (c := x.cell) (i := (i : Int)) (y := { cl (setR cs x.cell x.next) x.cell.toNat with gone := true }) oc' (by omega)
   have h3 := setR_cell hv oc on i hi
   rw [Int.toNat_natCast] at e
   simp only [rt, lk, Int.toNat_natCast] at h1 h2
   refine ⟨?_, by rw [h1]; exact h0.2.1, by rw [h1]; exact h0.2.2.1, h2⟩
   simp only [setG]
   rw [e]
   split
   ·rename_i e1
    have e2 : x.cell.toNat = i := by omega
    show (cl (setR cs x.cell x.next) x.cell.toNat).left = 0
    rw [e2]; exact h3.1
   ·exact h3.1
  ·rw [hg i hi, hr i hi]
   split
   ·exact ⟨rfl, rfl⟩
   ·exact ⟨hgi, rfl⟩
  ·have := (h.prc q hq hqa).c2
   exact hr _ (by omega)
  ·refine ⟨hc2, hP.pT, by rw [hk3.less]; exact hP.pl, hP.sT, (fun e => by cases e), (fun e => by cases e), (fun e => by cases e), (fun e => by cases e), fun _ => ⟨hk, ?_, ?_, hsc⟩⟩
   ·show gn (setG (setR cs x.cell x.next) x.cell) x.cell = true
    rw [hg _ oc.1, if_pos rfl]
   ·show x.next = rt (setG (setR cs x.cell x.next) x.cell) x.cell
    rw [hr _ oc.1]; exact b2.symm
 |cut hph hb =>
  obtain ⟨b1, b2⟩ := swapBad_false hb
  obtain ⟨hk, b3, b4, hsc⟩ := hP.p17 hph
  have hp1 := less_ne_one hP.pl
  have hnx : x.next = rt cs (rt cs x.pred) := by rw [b2, b4]
  obtain ⟨A, B, e1, _, hC⟩ := h.core.unlink hP.pT b1 hp1 (by rw [b2]; exact b3)
  rw [← hnx] at e1 hC
  rw [b2] at e1
  have hT := Tin_keep (ps := ps) (p := p) (y := { x with phase := 18 }) (key_setR cs x.pred x.next) (fun i hi => lk_setR op hi) hp (by rw [hx]) (by rw [hx]) (by rw [hx]; exact ha) fun e => by rw [hx] at e; omega
  exact ⟨_, h.swapT hp (hx ▸ ha) hP.pT b1 on ⟨oc, op, os, on⟩ (by rw [hx]) (by rw [hx]) (by show knownP 18 = true; decide) (by show (18 : Int) ≠ 0; decide) hT hC (fun _ h => h) fun e => by simp [actP] at e, .unlink A B x.cell x.next e1 rfl b3 (fun i hi => gn_setR op hi) (.inr ⟨hph, rfl, hk⟩) rfl (fun _ => by show x.kind ≠ 1; omega), fun e => by cases e⟩
 |miss hph hb =>
  obtain ⟨hk, b3, b4, hsc⟩ := hP.p17 hph
  refine ⟨l, h.quiet hp (hx ▸ ha) ⟨oc, op, os, on⟩ (by rw [hx]) (by rw [hx]) (by show knownP 18 = true; decide) (by show (18 : Int) ≠ 0; decide) (fun e => ?_) fun e => by simp [actP] at e, .quiet rfl (fun _ _ => rfl) (fun _ _ => rfl) (fun _ => rfl) (fun _ => by show x.kind ≠ 1; omega), fun e => by cases e⟩
  rw [hx] at e; omega
end Go.Proofs

set_option linter.unusedSimpArgs false
set_option linter.unusedVariables false
set_option maxRecDepth 4000
namespace Go.Proofs
open Go.Sk
theorem startE_zero {cs : List Cl} {ps : List Pr} {p kind cell : Int} (h : startE cs ps p kind cell = 0) : validL cs ps = true ∧ (0 ≤ p ∧ p < ps.length) ∧ (2 ≤ cell ∧ cell < cs.length) ∧ (1 ≤ kind ∧ kind ≤ 3) ∧ actP (pr ps p.toNat) = false ∧ (kind = 1 → lk cs cell ≠ 1) := by
 unfold startE at h
 split at h
 ·cases h
 rename_i h1
 split at h
 ·cases h
 rename_i h2
 split at h
 ·cases h
 rename_i h3
 split at h
 ·cases h
 rename_i h4
 split at h
 ·cases h
 rename_i h5
 split at h
 ·cases h
 rename_i h6
 simp only [kindBad, Bool.or_eq_true, Bool.and_eq_true, decide_eq_true_eq, Bool.not_eq_true', Bool.not_eq_true, beq_iff_eq] at h1 h2 h3 h4 h5 h6
 refine ⟨by simpa using h1, by omega, by omega, by omega, h5, fun e e2 => h6 ⟨e, e2⟩⟩
theorem Inv.start {cs : List Cl} {ps : List Pr} {l : List Int} (h : Inv cs ps l) {p kind cell : Int} (he : startE cs ps p kind cell = 0) : Inv (startC cs kind cell) (startP cs ps p kind cell) l := by
 obtain ⟨_, hp, hc, hk, hna, hlk⟩ := startE_zero he
 have hv := vld_of h.vb
 have hc' : 0 ≤ cell ∧ cell < cs.length := ⟨by omega, hc.2⟩
 have hpl : p.toNat < ps.length := by omega
 have h0 : 0 ≤ (0 : Int) ∧ (0 : Int) < cs.length := by have := hv.two; omega
 have hke : KeyEq cs (startC cs kind cell) := by
  unfold startC; split
  ·exact KeyEq.set rfl
  ·exact KeyEq.refl cs
 have hat : ∀ i : Int, 0 ≤ i → cl (startC cs kind cell) i.toNat = if kind = 1 ∧ i = cell then { cl cs i.toNat with lock := 1 } else cl cs i.toNat := fun i hi => by
  unfold startC
  by_cases hk1 : kind = 1
  ·rw [if_pos hk1, cl_up hc' hi]
   by_cases e : i = cell
   ·subst e; rw [if_pos rfl, if_pos ⟨hk1, rfl⟩]
   ·rw [if_neg e, if_neg fun h => e h.2]
  ·rw [if_neg hk1, if_neg fun h => hk1 h.1]
 have hrt : ∀ i : Int, 0 ≤ i → rt (startC cs kind cell) i = rt cs i := fun i hi => by
  simp only [rt]; rw [hat i hi]; split <;> rfl
 have hgn : ∀ i : Int, 0 ≤ i → gn (startC cs kind cell) i = gn cs i := fun i hi => by
  simp only [gn]; rw [hat i hi]; split <;> rfl
 have hlk' : ∀ i : Int, 0 ≤ i → lk (startC cs kind cell) i = if kind = 1 ∧ i = cell then 1 else lk cs i := fun i hi => by
  simp only [lk]; rw [hat i hi]; split <;> rfl
 have hpe : ∀ i, pend (startP cs ps p kind cell) i ↔ (kind = 1 ∧ cell = i) ∨ pend ps i := fun i => by
  unfold startP
  rw [pend_set hpl]
  constructor
  ·rintro (⟨h1, _, h3⟩ | ⟨q, _, h2⟩)
   ·exact .inl ⟨h1, h3⟩
   ·exact .inr ⟨q, h2⟩
  ·rintro (⟨h1, h3⟩ | ⟨q, h1, h2, h3, h4⟩)
   ·exact .inl ⟨h1, act_of (n := 1) rfl (by decide) (by decide), h3⟩
   ·refine .inr ⟨q, fun e => ?_, h1, h2, h3, h4⟩
    rw [e, hna] at h3; cases h3
 have hT : ∀ i, Tin (startC cs kind cell) (startP cs ps p kind cell) i ↔ Tin cs ps i := fun i => by
  unfold Tin
  rw [hke.len, hpe]
  constructor
  ·rintro ⟨h1, h2, h3⟩
   refine ⟨h1, h2, ?_⟩
   rcases h3 with h3 | ⟨h3, h4⟩
   ·exact .inl h3
   ·rw [hlk' i h1, if_neg fun e => h4 (.inl ⟨e.1, e.2.symm⟩)] at h3
    exact .inr ⟨h3, fun h5 => h4 (.inr h5)⟩
  ·rintro ⟨h1, h2, h3⟩
   refine ⟨h1, h2, ?_⟩
   rcases h3 with h3 | ⟨h3, h4⟩
   ·exact .inl h3
   ·have hne : ¬ (kind = 1 ∧ i = cell) := fun e => hlk e.1 (e.2 ▸ h3)
    rw [hlk' i h1, if_neg hne]
    refine .inr ⟨h3, ?_⟩
    rintro (h5 | h5)
    ·exact hne ⟨h5.1, h5.2.symm⟩
    ·exact h4 h5
 have hTe : Tin (startC cs kind cell) (startP cs ps p kind cell) = Tin cs ps := funext fun i => propext (hT i)
 have hrng := h.core.rng
 have hpr : ∀ q, pr (startP cs ps p kind cell) q = if p.toNat = q then ⟨kind, cell, 1, 0, (cl cs 0).right, 0, false⟩ else pr ps q := fun q => by
  unfold startP
  split
  ·rename_i e; subst e; rw [pr_set_eq hpl]
  ·rename_i e; rw [pr_set_ne e]
 have hlen : (startP cs ps p kind cell).length = ps.length := startP_length ..
 refine ⟨?_, ?_, ?_, ?_, ?_, ?_⟩
 ·refine valid_mk h.vb hke hlen (fun i hi => ?_) fun i hi => ?_
  ·have h1 := hv.cell i hi
   have h2 := hat i (by omega)
   rw [Int.toNat_natCast] at h2
   rw [h2]
   split
   ·exact ⟨h1.1, h1.2.1, h1.2.2.1, by show (0 : Int) ≤ 1; decide, by show (1 : Int) ≤ 1; decide⟩
   ·exact h1
  ·rw [hpr]
   split
   ·have h1 := rt_in hv h0
    exact ⟨⟨hc', h0, h1, h0⟩, by show knownP 1 = true; decide, by show 0 ≤ kind; omega, by show kind ≤ 3; omega, fun e => by dsimp only at e; omega, fun e => by cases e⟩
   ·have h3 := hv.kind i hi
    exact ⟨hv.proc i hi, hv.phase i hi, h3.1, h3.2.1, h3.2.2⟩
 ·rw [hTe]
  exact h.core.same hke (fun _ => Iff.rfl) (fun i hi => hrt i (hrng i hi).1) fun i hi _ => hgn i hi
 ·rw [hlk' 0 (by omega), hlk' 1 (by omega), if_neg (by omega), if_neg (by omega)]; exact h.lk01
 ·intro q q' h1 h2 h3 h4 h5 h6 h7
  rw [hlen] at h1 h2
  rw [hpr] at h3 h4 h7
  rw [hpr] at h5 h6 h7
  have hbad : ∀ q, q < ps.length → (pr ps q).kind = 1 → actP (pr ps q) = true → kind = 1 → (pr ps q).cell ≠ cell := fun q g1 g2 g3 g4 e => hlk g4 (e ▸ h.pnd q g1 g2 g3)
  by_cases e1 : p.toNat = q
  ·by_cases e2 : p.toNat = q'
   ·exact e1.symm.trans e2
   ·rw [if_pos e1] at h3 h7
    rw [if_neg e2] at h5 h6 h7
    exact absurd h7.symm (hbad q' h2 h5 h6 h3)
  ·rw [if_neg e1] at h3 h4 h7
   by_cases e2 : p.toNat = q'
   ·rw [if_pos e2] at h5 h7
    exact absurd h7 (hbad q h1 h3 h4 h5)
   ·rw [if_neg e2] at h5 h6 h7
    exact h.uniq q q' h1 h2 h3 h4 h5 h6 h7
 ·intro q h1 h2 h3
  rw [hlen] at h1
  rw [hpr] at h2 h3 ⊢
  by_cases e : p.toNat = q
  ·rw [if_pos e] at h2 ⊢
   rw [hlk' _ hc'.1, if_pos ⟨h2, rfl⟩]
  ·rw [if_neg e] at h2 h3 ⊢
   rw [hlk' _ (hv.proc q h1).cell.1]
   split
   ·rfl
   ·exact h.pnd q h1 h2 h3
 ·intro q h1 h2
  rw [hlen] at h1
  rw [hTe]
  rw [hpr] at h2 ⊢
  by_cases e : p.toNat = q
  ·rw [if_pos e]
   refine ⟨hc.1, h.core.t0, ?_, (h.core.clo 0 h.core.t0 (by decide)).1, (fun e => by cases e), (fun e => by cases e), (fun e => by cases e), (fun e => by cases e), fun e => by cases e⟩
   rw [hke.less, lessC_iff]
   exact ⟨by show (0 : Int) ≠ cell; omega, by show (0 : Int) ≠ 1; decide, by show cell ≠ 0; omega, .inl rfl⟩
  ·rw [if_neg e] at h2 ⊢
   have hq := hv.proc q h1
   refine (h.prc q h1 h2).mono hke (fun _ h => h) ⟨hq.cell.1, hq.succ.1⟩ (fun i hi hg => ⟨by rw [hgn i hi]; exact hg, hrt i hi⟩) fun _ => hrt _ hq.cell.1
theorem Tin.lock {cs : List Cl} {ps : List Pr} {l : List Int} (h : Inv cs ps l) {i : Int} (hi : Tin cs ps i) : lk cs i = 1 := by
 obtain ⟨h1, h2, h3⟩ := hi
 rcases h3 with h3 | h3
 ·rcases (show i = 0 ∨ i = 1 by omega) with rfl | rfl
  ·exact h.lk01.1
  ·exact h.lk01.2
 ·exact h3.1
/-- Those of some cells that are members. -/
def memb (cs : List Cl) (l : List Int) : List Int := l.filter fun i => i != 1 && !gn cs i
theorem Seg.mem {cs : List Cl} : ∀ {a : Int} {l : List Int} (k : Nat) (met : List Int), Seg cs a l 1 → (∀ x ∈ a :: l, x ≠ 1 → met.contains x = false) → met.contains 1 = true → (∀ x ∈ l, 0 ≤ x ∧ x < cs.length) → meas cs a < k → memF cs k met a = memb cs (a :: l)
 |a, [], k + 1, met, h, hm, h1, _, _ => by
  have : a = 1 := h
  subst this
  rw [memF, h1]; rfl
 |a, x :: l, k + 1, met, h, hm, h1, hr, hk => by
  obtain ⟨h2, h3, h4, h5⟩ := h
  have h6 := meas_lt (hr x (List.mem_cons_self ..)) h4
  have ha := hm a (List.mem_cons_self ..) h2
  have hge : ∀ y ∈ x :: l, y ≠ a := fun y hy => by
   rcases List.mem_cons.1 hy with e | e
   ·exact e ▸ (less_ne h4).symm
   ·exact (less_ne (lessC_trans h4 (h5.ge e))).symm
  have h7 := h5.mem k (met ++ [a]) (fun y hy hy1 => by
   have e1 := hm y (List.mem_cons_of_mem _ hy) hy1
   have e2 := hge y hy
   simp only [List.contains_append, List.contains_cons, List.contains_nil, Bool.or_false, Bool.or_eq_false_iff, beq_eq_false_iff_ne]
   exact ⟨e1, e2⟩) (by simp only [List.contains_append, h1, Bool.true_or]) (fun y hy => hr y (List.mem_cons_of_mem _ hy)) (by omega)
  have e : (cl cs a.toNat).right = x := h3
  rw [memF, ha, e, h7]
  have e3 : (a != 1) = true := by simpa using h2
  simp only [Bool.false_eq_true, if_false, memb, List.filter_cons (x := a), e3, Bool.true_and]
  show (if (cl cs a.toNat).gone = true then [] else [a]) ++ _ = _
  cases hg : (cl cs a.toNat).gone <;> simp [gn, hg]
theorem Inv.members {cs : List Cl} {ps : List Pr} {l : List Int} (h : Inv cs ps l) : membersL cs ps = memb cs l := by
 have hC := h.core
 rw [membersL, h.vb]
 simp only [Bool.not_true, Bool.false_eq_true, if_false]
 cases hl : l with
 |nil => have := hC.seg; rw [hl] at this; cases this
 |cons x m =>
  have hs := hC.seg
  rw [hl] at hs
  obtain ⟨h1, h2, h3, h4⟩ := hs
  have e : (cl cs 0).right = x := h2
  have hr : ∀ y ∈ x :: m, 0 ≤ y ∧ y < cs.length := fun y hy => hC.rng y (hC.sub y (by rw [hl]; exact hy))
  rw [e]
  refine h4.mem _ _ (fun y hy hy1 => ?_) (by decide) (fun y hy => hr y (List.mem_cons_of_mem _ hy)) (by have := meas_le cs x; omega)
  have : lessC cs 0 y = true := by
   rcases List.mem_cons.1 hy with e | e
   ·exact e ▸ h3
   ·exact lessC_trans h3 (h4.ge e)
  have hne := less_ne this
  simp only [List.contains_cons, List.contains_nil, Bool.or_false, Bool.or_eq_false_iff, beq_eq_false_iff_ne]
  exact ⟨hne.symm, hy1⟩
theorem memb_iff {cs : List Cl} {l : List Int} {i : Int} : i ∈ memb cs l ↔ i ∈ l ∧ i ≠ 1 ∧ gn cs i = false := by simp [memb]
theorem Seg.nodup {cs : List Cl} : ∀ {a : Int} {l : List Int} {b : Int}, Seg cs a l b → (a :: l).Nodup
 |a, [], b, _ => by simp
 |a, x :: l, b, h => by
  rw [List.nodup_cons]
  refine ⟨fun hm => ?_, h.2.2.2.nodup⟩
  have := h.ge hm
  rw [lessC_irr] at this; cases this
theorem filter_ne {P : Int → Bool} {c : Int} : ∀ {l : List Int}, l.Nodup → c ∈ l → P c = true → (l.filter fun i => P i && i != c).length + 1 = (l.filter P).length
 |a :: l, hn, hc, hP => by
  rw [List.nodup_cons] at hn
  by_cases e : a = c
  ·subst e
   have : l.filter (fun i => P i && i != a) = l.filter P := List.filter_congr fun x hx => by
    have : x ≠ a := fun e => hn.1 (e ▸ hx)
    simp [this]
   simp [List.filter_cons, hP, this]
  ·have hc' : c ∈ l := by
    rcases List.mem_cons.1 hc with e' | e'
    ·exact absurd e'.symm e
    ·exact e'
   have ih := filter_ne hn.2 hc' hP
   have e2 : (a != c) = true := by simpa using e
   simp only [List.filter_cons, e2, Bool.and_true]
   split <;> simp [ih]
/-- What a step does to the members. -/
inductive MEff (x y : Pr) (old new : List Int) : Prop
 |same (h : new = old) (hy : y.kind ≠ 3 → y.res = x.res) (hk : y.phase = 18 → y.kind ≠ 1)
 |grow (h1 : x.cell ∉ old) (h2 : x.cell ∈ new) (h3 : new.length = old.length + 1) (hx : x.phase = 15 ∧ x.kind = 1 ∧ y.phase = 18) (hy : y.res = true)
 |fall (h1 : x.cell ∈ old) (h2 : x.cell ∉ new) (h3 : old.length = new.length + 1) (hx : x.phase = 16 ∧ x.kind = 2 ∧ y.phase = 17) (hy : y.res = true)
theorem Eff.toM {cs ds : List Cl} {ps : List Pr} {l l' : List Int} {x y : Pr} (h : Inv cs ps l) (hx : 2 ≤ x.cell) (he : Eff cs ds (Tin cs ps) x y l l') : MEff x y (memb cs l) (memb ds l') := by
 have h0 : ∀ i ∈ l, 0 ≤ i := fun i hi => (h.core.rng i (h.core.sub i hi)).1
 have hnd := (List.nodup_cons.1 h.core.seg.nodup).2
 cases he with
 |quiet hl hr hg hy hk =>
  subst hl
  refine .same (List.filter_congr fun i hi => ?_) hy hk
  rw [hg i (h0 i hi)]
 |unlink A B s n hl hl' hs hg hxy hy hk =>
  refine .same ?_ (fun _ => hy) hk
  have e : memb ds l' = memb cs l' := by
   refine List.filter_congr fun i hi => ?_
   rw [hg i]
   have : i ∈ l := by
    rw [hl]; rw [hl'] at hi
    rcases List.mem_append.1 hi with hi | hi
    ·exact List.mem_append_left _ hi
    ·exact List.mem_append_right _ (List.mem_cons_of_mem _ hi)
   exact h0 i this
  rw [e, hl, hl', memb, memb, List.filter_append, List.filter_append, List.filter_cons (x := s), hs]
  simp
 |insert A B s hl hl' hc hn hg hxy hy =>
  have e : memb ds l' = memb cs l' := by
   refine List.filter_congr fun i hi => ?_
   rw [hg i]
   rw [hl'] at hi
   rcases List.mem_append.1 hi with hi | hi
   ·exact h0 i (by rw [hl]; exact List.mem_append_left _ hi)
   ·rcases List.mem_cons.1 hi with hi | hi
    ·omega
    ·exact h0 i (by rw [hl]; exact List.mem_append_right _ hi)
  rw [e]
  refine .grow (fun hm => hc (memb_iff.1 hm).1) (memb_iff.2 ⟨by rw [hl']; exact List.mem_append_right _ (List.mem_cons_self ..), by omega, hn⟩) ?_ hxy hy
  have e1 : (x.cell != 1) = true := by simp; omega
  rw [hl, hl', memb, memb, List.filter_append, List.filter_append, List.filter_cons (x := x.cell), hn, e1]
  simp
  omega
 |mark hl hr hg hc hn hxy hy =>
  subst hl
  have e : memb ds l' = l'.filter fun i => (i != 1 && !gn cs i) && i != x.cell := by
   refine List.filter_congr fun i hi => ?_
   rw [hg i (h0 i hi)]
   by_cases e : i = x.cell <;> simp [e]
  refine .fall (memb_iff.2 ⟨hc, by omega, hn⟩) (fun hm => ?_) ?_ hxy hy
  ·have := (memb_iff.1 hm).2.2
   rw [hg _ (by omega), if_pos rfl] at this; cases this
  ·rw [e, filter_ne hnd hc (by simp [hn]; omega)]; rfl
end Go.Proofs

set_option linter.unusedSimpArgs false
set_option linter.unusedVariables false
set_option maxRecDepth 4000
namespace Go.Proofs
open Go.Sk
theorem lnk_cell : ∀ (l : List Int) (cs : List Cl) (a : Int), (0 ≤ a ∧ a < cs.length) → (∀ x ∈ l, 0 ≤ x ∧ x < cs.length) → ∀ i : Nat, ∃ r : Int, cl (lnk cs a l) i = { cl cs i with right := r } ∧ (r = (cl cs i).right ∨ r ∈ l)
 |[], cs, a, _, _, i => ⟨(cl cs i).right, rfl, .inl rfl⟩
 |c :: l, cs, a, ha, hl, i => by
  have hlen : (setR cs a c).length = cs.length := setR_length ..
  obtain ⟨r, h1, h2⟩ := lnk_cell l (setR cs a c) c (by rw [hlen]; exact hl c (List.mem_cons_self ..)) (fun x hx => by rw [hlen]; exact hl x (List.mem_cons_of_mem _ hx)) i
  have e := cl_up (cs := cs) (c := a) (i := (i : Int)) (y := { cl cs a.toNat with right := c }) ha (by omega)
  rw [Int.toNat_natCast] at e
  have e2 : cl (setR cs a c) i = if (i : Int) = a then { cl cs a.toNat with right := c } else cl cs i := e
  rw [lnk]
  by_cases hia : (i : Int) = a
  ·rw [if_pos hia] at e2
   rw [h1, e2]
   have e3 : a.toNat = i := by omega
   rw [e3]
   refine ⟨r, rfl, ?_⟩
   rw [e2] at h2
   rcases h2 with h2 | h2
   ·exact .inr (h2 ▸ List.mem_cons_self ..)
   ·exact .inr (List.mem_cons_of_mem _ h2)
  ·rw [if_neg hia] at e2
   rw [h1, e2]
   refine ⟨r, rfl, ?_⟩
   rw [e2] at h2
   rcases h2 with h2 | h2
   ·exact .inl h2
   ·exact .inr (List.mem_cons_of_mem _ h2)
theorem lnk_key {l : List Int} {cs : List Cl} {a : Int} (ha : 0 ≤ a ∧ a < cs.length) (hl : ∀ x ∈ l, 0 ≤ x ∧ x < cs.length) : KeyEq cs (lnk cs a l) :=
 ⟨lnk_length .., fun i => by obtain ⟨r, h, _⟩ := lnk_cell l cs a ha hl i; rw [h]⟩
theorem rt_lnk_ne : ∀ (l : List Int) (cs : List Cl) (a i : Int), (0 ≤ a ∧ a < cs.length) → (∀ x ∈ l, 0 ≤ x ∧ x < cs.length) → 0 ≤ i → i ∉ a :: l → rt (lnk cs a l) i = rt cs i
 |[], cs, a, i, _, _, _, _ => rfl
 |c :: l, cs, a, i, ha, hl, hi, hn => by
  have hlen : (setR cs a c).length = cs.length := setR_length ..
  rw [lnk, rt_lnk_ne l (setR cs a c) c i (by rw [hlen]; exact hl c (List.mem_cons_self ..)) (fun x hx => by rw [hlen]; exact hl x (List.mem_cons_of_mem _ hx)) hi fun h => hn (List.mem_cons_of_mem _ h), rt_setR ha hi, if_neg]
  intro e
  exact hn (e ▸ List.mem_cons_self ..)
theorem seg_lnk : ∀ (m : List Int) (cs : List Cl) (a : Int), (∀ x ∈ a :: (m ++ [1]), 0 ≤ x ∧ x < cs.length) → (a :: (m ++ [1])).Pairwise (fun x y => lessC cs x y = true) → Seg (lnk cs a (m ++ [1])) a (m ++ [1]) 1
 |[], cs, a, hr, hp => by
  have ha := hr a (List.mem_cons_self ..)
  have h1 := (List.pairwise_cons.1 hp).1 1 (by simp)
  show Seg (setR cs a 1) a [1] 1
  refine ⟨less_ne_one h1, ?_, ?_, rfl⟩
  ·rw [rt_setR ha ha.1, if_pos rfl]
  ·rw [(key_setR ..).less]; exact h1
 |c :: m, cs, a, hr, hp => by
  have ha := hr a (List.mem_cons_self ..)
  have hlen : (setR cs a c).length = cs.length := setR_length ..
  obtain ⟨hp1, hp2⟩ := List.pairwise_cons.1 hp
  have hr2 : ∀ x ∈ c :: (m ++ [1]), 0 ≤ x ∧ x < (setR cs a c).length := fun x hx => by rw [hlen]; exact hr x (List.mem_cons_of_mem _ hx)
  have hk := key_setR cs a c
  have hk2 : KeyEq (setR cs a c) (lnk (setR cs a c) c (m ++ [1])) := lnk_key (hr2 c (List.mem_cons_self ..)) fun x hx => hr2 x (List.mem_cons_of_mem _ hx)
  have ih := seg_lnk m (setR cs a c) c hr2 (hp2.imp fun {x y} h => by rw [hk.less]; exact h)
  have hac := hp1 c (List.mem_cons_self ..)
  have hne : a ∉ c :: (m ++ [1]) := fun h => absurd rfl (less_ne (hp1 a h))
  show Seg (lnk (setR cs a c) c (m ++ [1])) a (c :: (m ++ [1])) 1
  refine ⟨less_ne_one hac, ?_, ?_, ih⟩
  ·rw [rt_lnk_ne _ _ _ _ (hr2 c (List.mem_cons_self ..)) (fun x hx => hr2 x (List.mem_cons_of_mem _ hx)) ha.1 hne, rt_setR ha ha.1, if_pos rfl]
  ·rw [hk2.less, hk.less]; exact hac
theorem insV_pw {lt : Int → Int → Bool} (ht : ∀ a b c, lt a b = true → lt b c = true → lt a c = true) {x : Int} : ∀ {l : List Int}, l.Pairwise (fun a b => lt b a = true) → (∀ y ∈ l, lt x y = false → lt y x = true) → (insV lt x l).Pairwise (fun a b => lt b a = true)
 |[], _, _ => by simp [insV]
 |y :: t, hp, hx => by
  obtain ⟨h1, h2⟩ := List.pairwise_cons.1 hp
  simp only [insV]
  split
  ·rename_i h
   rw [List.pairwise_cons]
   refine ⟨fun z hz => ?_, insV_pw ht h2 fun z hz => hx z (List.mem_cons_of_mem _ hz)⟩
   rcases insV_mem.1 hz with e | e
   ·exact e ▸ h
   ·exact h1 z e
  ·rename_i h
   have h3 := hx y (List.mem_cons_self ..) (by simpa using h)
   rw [List.pairwise_cons]
   refine ⟨fun z hz => ?_, hp⟩
   rcases List.mem_cons.1 hz with e | e
   ·exact e ▸ h3
   ·exact ht _ _ _ (h1 z e) h3
theorem insR_pw {lt : Int → Int → Bool} (ht : ∀ a b c, lt a b = true → lt b c = true → lt a c = true) {x : Int} {l : List Int} (hp : l.Pairwise (fun a b => lt a b = true)) (hx : ∀ y ∈ l, lt x y = false → lt y x = true) : (insR lt l x).Pairwise (fun a b => lt a b = true) := by
 rw [insR, List.pairwise_reverse]
 exact insV_pw ht (List.pairwise_reverse.2 hp) fun y hy => hx y (List.mem_reverse.1 hy)
theorem ltK_trans (keys : List ByteArray) (a b c : Int) (h : ltK keys a b = true) (h' : ltK keys b c = true) : ltK keys a c = true := bl_trans' h h'
theorem kAt_inj2 {keys : List ByteArray} (h : keys.Nodup) {i j : Nat} (hi : i < keys.length) (hj : j < keys.length) (e : kAt keys i = kAt keys j) : i = j := by
 rcases Nat.lt_trichotomy i j with h1 | h1 | h1
 ·exact absurd e.symm (kAt_inj h hj h1)
 ·exact h1
 ·exact absurd e (kAt_inj h hi h1)
theorem srt_pw {keys : List ByteArray} {inn : List Bool} (h : keys.Nodup) : ∀ i, i ≤ keys.length → (srtR (ltK keys) (mems inn i)).Pairwise (fun a b => ltK keys a b = true)
 |0, _ => by simp [mems, srtR]
 |i + 1, hi => by
  simp only [mems]
  split
  ·rw [srtR_snoc]
   refine insR_pw (ltK_trans keys) (srt_pw h i (by omega)) fun y hy hlt => ?_
   obtain ⟨j, hj, _, rfl⟩ := mems_mem.1 ((srtR_mem _).1 hy)
   cases hb : ltK keys ((j : Int) + 2) ((i : Int) + 2) with
   |true => rfl
   |false =>
    have e := sLt_total hlt hb
    have e1 : ((i : Int) + 2).toNat - 2 = i := by omega
    have e2 : ((j : Int) + 2).toNat - 2 = j := by omega
    rw [e1, e2] at e
    have := kAt_inj2 h (by omega) (by omega) e
    omega
  ·exact srt_pw h i (by omega)
theorem noPr_at (p q : Nat) : pr (List.replicate p noPr) q = noPr := by
 simp only [pr, List.getD, List.getElem?_replicate]
 split <;> rfl
theorem inv_made {keys : List ByteArray} {inn : List Bool} {p : Nat} (h : Mk keys inn p) : Inv (newC keys inn keys.length) (List.replicate p noPr) (ordN keys inn keys.length) := by
 have hlen := newC_length keys inn keys.length
 have hlP : (celP keys inn keys.length).length = keys.length + 2 := celG_length ..
 have h0 : 0 ≤ (0 : Int) ∧ (0 : Int) < (celP keys inn keys.length).length := by omega
 have hor : ∀ x ∈ ordN keys inn keys.length, 0 ≤ x ∧ x < (celP keys inn keys.length).length := fun x hx => by have := ordN_mem hx; omega
 have hkey : KeyEq (celP keys inn keys.length) (newC keys inn keys.length) := lnk_key h0 hor
 have hcell : ∀ i : Nat, i < keys.length + 2 → ∃ r : Int, cl (newC keys inn keys.length) i = { (if i < 2 then endC 1 else ⟨kAt keys (i - 2), 0, 0, if bAt inn (i - 2) then 1 else 0, false⟩ : Cl) with right := r } ∧ 0 ≤ r ∧ r < keys.length + 2 := fun i hi => by
  obtain ⟨r, h1, h2⟩ := lnk_cell (ordN keys inn keys.length) (celP keys inn keys.length) 0 h0 hor i
  have h3 : cl (celP keys inn keys.length) i = _ := celG_at 1 (fun j => if bAt inn j then 1 else 0) keys keys.length hi
  rw [h3] at h1 h2
  refine ⟨r, h1, ?_⟩
  rcases h2 with h2 | h2
  ·have : r = 0 := by rw [h2]; split <;> rfl
   omega
  ·have := ordN_mem h2; omega
 have hl6 := h.len
 have hin : ∀ i : Int, 0 ≤ i → i < keys.length + 2 → gn (newC keys inn keys.length) i = false ∧ lk (newC keys inn keys.length) i = if i < 2 then 1 else if bAt inn (i.toNat - 2) then 1 else 0 := fun i hi hi2 => by
  obtain ⟨r, h1, _⟩ := hcell i.toNat (by omega)
  simp only [gn, lk]
  rw [h1]
  by_cases c : i < 2
  ·rw [if_pos (show i.toNat < 2 by omega), if_pos c]; exact ⟨rfl, rfl⟩
  ·rw [if_neg (show ¬ i.toNat < 2 by omega), if_neg c]; exact ⟨rfl, rfl⟩
 have hvb : validL (newC keys inn keys.length) (List.replicate p noPr) = true := by
  have hk0 : ∀ i : Nat, i < 2 → (cl (newC keys inn keys.length) i).key = ⟨#[]⟩ := fun i hi => by
   obtain ⟨r, h1, _⟩ := hcell i (by omega)
   rw [h1, if_pos hi]; rfl
  have h2 := h.two
  have h4 := h.four
  simp only [validL, Bool.and_eq_true, Bool.not_eq_true']
  refine ⟨⟨?_, anyB_iff.2 fun i hi => ?_⟩, anyB_iff.2 fun i hi => ?_⟩
  ·simp only [headBad, hlen, List.length_replicate, hk0 0 (by omega), hk0 1 (by omega), sEq_iff, decide_true, Bool.not_true, Bool.or_false, Bool.or_eq_false_iff, decide_eq_false_iff_not]
   omega
  ·rw [hlen] at hi
   obtain ⟨r, h1, h3⟩ := hcell i hi
   rw [Bool.or_eq_false_iff]
   constructor
   ·have hok : okKey (cl (newC keys inn keys.length) i).key = true := by
     by_cases c : i < 2
     ·rw [hk0 i c]; decide
     ·rw [h1, if_neg c]; exact h.ok _ (by omega)
    simp only [badC, hok, Bool.or_eq_false_iff, decide_eq_false_iff_not, bne_eq_false_iff_eq, Bool.not_true, hlen]
    rw [h1]
    refine ⟨⟨⟨⟨⟨?_, by dsimp only; omega⟩, by dsimp only; omega⟩, ?_⟩, ?_⟩, trivial⟩
    ·split <;> rfl
    ·by_cases c : i < 2
     ·rw [if_pos c]; show ¬ (1 : Int) < 0; decide
     ·rw [if_neg c]; dsimp only; split <;> decide
    ·by_cases c : i < 2
     ·rw [if_pos c]; show ¬ (1 : Int) < 1; decide
     ·rw [if_neg c]; dsimp only; split <;> decide
   ·rw [dupC]
    by_cases c : 1 < (i : Int)
    ·rw [decide_eq_true c, Bool.true_and, anyB_iff]
     intro q hq
     rw [sameKey, sEq_iff, decide_eq_false_iff_not]
     obtain ⟨r', g1, _⟩ := hcell (2 + q) (by omega)
     have c1 : ¬ i < 2 := by omega
     have c2 : ¬ 2 + q < 2 := by omega
     rw [h1, g1, if_neg c1, if_neg c2]
     intro e
     have := kAt_inj2 h.nodup (by omega) (by omega) e
     omega
    ·rw [decide_eq_false c, Bool.false_and]
  ·rw [noPr_at, hlen]
   simp only [badP, noPr, Bool.or_eq_false_iff, decide_eq_false_iff_not]
   refine ⟨⟨⟨⟨⟨by decide, ?_⟩, by decide⟩, by decide⟩, by decide⟩, by decide⟩
   have e0 : max (max (max (0 : Int) 0) 0) 0 = 0 := by decide
   exact decide_eq_false (show ¬ ((keys.length + 2 : Nat) : Int) ≤ max (max (max (0 : Int) 0) 0) 0 by rw [e0]; omega)
 have hpe : ∀ i, ¬ pend (List.replicate p noPr) i := by
  rintro i ⟨q, _, h2, _⟩
  rw [noPr_at] at h2; cases h2
 have hT : ∀ i, Tin (newC keys inn keys.length) (List.replicate p noPr) i → i ∈ 0 :: ordN keys inn keys.length := by
  rintro i ⟨h1, h2, h3⟩
  rw [hlen] at h2
  rcases (show i = 0 ∨ i = 1 ∨ 2 ≤ i by omega) with rfl | rfl | h4
  ·exact List.mem_cons_self ..
  ·refine List.mem_cons_of_mem _ ?_
   rw [ordN]; simp
  ·refine List.mem_cons_of_mem _ ?_
   rcases h3 with h3 | ⟨h3, _⟩
   ·omega
   ·rw [(hin i h1 (by omega)).2, if_neg (by omega)] at h3
    rw [ordN, List.mem_append, srtR_mem]
    refine .inl (mems_mem.2 ⟨i.toNat - 2, by omega, ?_, by omega⟩)
    cases hb : bAt inn (i.toNat - 2) with
    |true => rfl
    |false => rw [hb] at h3; cases h3
 have hTo : ∀ i, i ∈ 0 :: ordN keys inn keys.length → Tin (newC keys inn keys.length) (List.replicate p noPr) i := by
  intro i hi
  rcases List.mem_cons.1 hi with rfl | hi
  ·exact ⟨by omega, by rw [hlen]; omega, .inl (by decide)⟩
  ·have h1 := ordN_mem hi
   rw [ordN, List.mem_append, srtR_mem, List.mem_singleton] at hi
   refine ⟨by omega, by rw [hlen]; omega, ?_⟩
   rcases hi with hi | rfl
   ·obtain ⟨j, hj, hb, rfl⟩ := mems_mem.1 hi
    refine .inr ⟨?_, hpe _⟩
    rw [(hin _ (by omega) (by omega)).2, if_neg (by omega), show ((j : Int) + 2).toNat - 2 = j by omega, if_pos hb]
   ·exact .inl (by decide)
 have hseg : Seg (newC keys inn keys.length) 0 (ordN keys inn keys.length) 1 := by
  rw [newC, ordN]
  refine seg_lnk _ _ 0 (fun x hx => ?_) ?_
  ·rcases List.mem_cons.1 hx with rfl | hx
   ·exact h0
   ·exact hor x hx
  ·have hm : ∀ x ∈ srtR (ltK keys) (mems inn keys.length), 2 ≤ x ∧ x < keys.length + 2 := fun x hx => by
    obtain ⟨j, hj, _, rfl⟩ := mems_mem.1 ((srtR_mem _).1 hx); omega
   rw [List.pairwise_cons, List.pairwise_append]
   refine ⟨fun x hx => ?_, ?_, by simp, fun x hx y hy => ?_⟩
   ·rw [lessC_iff]
    have hx1 : 1 ≤ x := (ordN_mem (keys := keys) (inn := inn) (n := keys.length) hx).1
    exact ⟨by omega, by decide, by omega, .inl rfl⟩
   ·refine (srt_pw h.nodup keys.length (Nat.le_refl _)).imp_of_mem fun {x y} hx hy hxy => ?_
    rw [celP, lessC_cel (hm x hx) (hm y hy)]; exact hxy
   ·rw [List.mem_singleton] at hy
    subst hy
    have := hm x hx
    rw [lessC_iff]
    exact ⟨by omega, by omega, by decide, .inr (.inl rfl)⟩
 refine ⟨hvb, ?_, ?_, ?_, ?_, ?_⟩
 ·refine ⟨hseg, by rw [hlen]; omega, hTo 0 (List.mem_cons_self ..), ⟨by omega, by rw [hlen]; omega, .inl (by decide)⟩, (hin 0 (by omega) (by omega)).1, (hin 1 (by omega) (by omega)).1, fun i hi => ⟨hi.1, hi.2.1⟩, fun i hi => hTo i (List.mem_cons_of_mem _ hi), fun i hi h1 => ?_, fun i hi _ => hT i hi, fun i h1 h2 h3 => ?_⟩
  ·obtain ⟨A, B, e, hA, hB⟩ := hseg.split (hT i hi)
   cases B with
   |nil => exact absurd hB h1
   |cons y B =>
    obtain ⟨b1, b2, b3, b4⟩ := hB
    rw [b2]
    refine ⟨hTo y (List.mem_cons_of_mem _ ?_), b3⟩
    rw [e]; exact List.mem_append_right _ (List.mem_cons_self ..)
  ·rw [hlen] at h2
   rw [(hin i h1 (by omega)).1] at h3; cases h3
 ·exact ⟨(hin 0 (by omega) (by omega)).2, (hin 1 (by omega) (by omega)).2⟩
 ·intro q q' _ _ h1; rw [noPr_at] at h1; cases h1
 ·intro q _ h1; rw [noPr_at] at h1; cases h1
 ·intro q _ h1; rw [noPr_at] at h1; cases h1
/-- A list that is led to from one that has the invariant has it. -/
theorem Inv.act_step {cs : List Cl} {ps : List Pr} {l : List Int} (h : Inv cs ps l) {q : Int} (he : stepOk cs ps q = true) :
  q.toNat < ps.length ∧ actP (pr ps q.toNat) = true ∧ stepR cs ps q = (stepC cs (pr ps q.toNat), ps.set q.toNat (stepP cs (pr ps q.toNat))) ∧ ∃ l', Inv (stepC cs (pr ps q.toNat)) (ps.set q.toNat (stepP cs (pr ps q.toNat))) l' ∧ Eff cs (stepC cs (pr ps q.toNat)) (Tin cs ps) (pr ps q.toNat) (stepP cs (pr ps q.toNat)) l l' ∧
   ((stepP cs (pr ps q.toNat)).phase = 1 → gn (stepC cs (pr ps q.toNat)) (stepP cs (pr ps q.toNat)).pred = false ∧ rt (stepC cs (pr ps q.toNat)) (stepP cs (pr ps q.toNat)).pred = (stepP cs (pr ps q.toNat)).succ) := by
 rw [stepOk, h.vb, Bool.true_and] at he
 have hr : stepR cs ps q = (stepC cs (pr ps q.toNat), ps.set q.toNat (stepP cs (pr ps q.toNat))) := by
  rw [stepR, h.vb, he]; rfl
 simp only [goesB, Bool.and_eq_true, Bool.not_eq_true', Bool.or_eq_false_iff, decide_eq_false_iff_not] at he
 have hq : q.toNat < ps.length := by omega
 exact ⟨hq, he.2, hr, h.step hq he.2 (Tr.of he.2 ((vld_of h.vb).phase _ hq))⟩
end Go.Proofs

set_option linter.unusedSimpArgs false
set_option linter.unusedVariables false
set_option maxRecDepth 4000
namespace Go.Proofs
open Go.Sk
theorem Inv.lens {cs : List Cl} {ps : List Pr} {l : List Int} (h : Inv cs ps l) : (2 ≤ cs.length ∧ cs.length ≤ 66) ∧ 1 ≤ ps.length ∧ ps.length ≤ 8 := by
 have := vld_of h.vb
 exact ⟨⟨this.two, this.most⟩, this.one, this.eight⟩
theorem Inv.ok {cs : List Cl} {ps : List Pr} {l : List Int} (h : Inv cs ps l) {q : Int} (hq : 0 ≤ q ∧ q < ps.length) : stepOk cs ps q = actP (pr ps q.toNat) := by
 rw [stepOk, h.vb, Bool.true_and, goesB, decide_eq_false (by omega : ¬ q < 0), decide_eq_false (by omega : ¬ (ps.length : Int) ≤ q)]
 rfl
end Go.Proofs

set_option linter.unusedSimpArgs false
set_option linter.unusedVariables false
set_option maxRecDepth 4000
namespace Go.Proofs
open Go.Sk
theorem LgNm.g0 {X : Cx} {fr : Fr} {H : AH} {fr1 : Fr} {H1 : AH} (ρ : Nat → Nat) (a1 : frGives ρ H1.nxt fr fr1 := by simp [frGives, Sk.get, ren_id, SV.lt, SV.ltL, inCl, ownCl, inPr, ownPr, lsBox, lsOwn, noPrs, clCap, intCap, cls_ren', cls_lt, prs_ren', prs_lt, inRow, ownRow, ints_ren', ints_lt', Cl.sv, Pr.sv, ints]) (a2 : HGives ρ H1.nxt H.os H1.os := by simp [HGives, Sk.find, one, objGives, rowGives, renL_id, Obj.lt_row, SV.ltL, SV.lt, inCl, ownCl, inPr, ownPr, lsBox, lsOwn, noPrs, clCap, intCap, cls_ren', cls_lt, prs_ren', prs_lt, inRow, ownRow, ints_ren', ints_lt', Cl.sv, Pr.sv, ints]) (a3 : injB ρ H1.os = true := by exact rfl)
  (a4 : ownU H1.os := by simp [ownU, one, inCl, ownCl, inPr, ownPr, lsBox, lsOwn, noPrs, clCap, intCap, cls_ren', cls_lt, prs_ren', prs_lt, inRow, ownRow, ints_ren', ints_lt', Cl.sv, Pr.sv, ints]) (a5 : (List.range X.m0).all (fun id => ρ id == id) = true := by exact rfl) (a6 : X.m0 ≤ H1.nxt := by exact Nat.le_of_ble_eq_true rfl) (a7 : ownU H.os := by simp [ownU, one, Obj.own, inCl, ownCl, inPr, ownPr, lsBox, lsOwn, noPrs, clCap, intCap, cls_ren', cls_lt, prs_ren', prs_lt, inRow, ownRow, ints_ren', ints_lt', Cl.sv, Pr.sv, ints])
  (a8 : keepB X.m0 H.os H1.os := by simp [keepB, one, Obj.own, Sk.find, inCl, ownCl, inPr, ownPr, lsBox, lsOwn, noPrs, clCap, intCap, cls_ren', cls_lt, prs_ren', prs_lt, inRow, ownRow, ints_ren', ints_lt', Cl.sv, Pr.sv, ints]) (a9 : bigB X.m0 ρ H1.os = true := by exact rfl) : Gives X ρ fr H fr1 H1 := Gives.mk' ρ a1 a2 a3 a4 a5 a6 a7 a8 a9
theorem LgNm.r3 {a : Prop} (h : a := by simp [OwnAll, one, Obj.own, inCl, ownCl, inPr, ownPr, lsBox, lsOwn, noPrs, clCap, intCap, cls_ren', cls_lt, prs_ren', prs_lt, inRow, ownRow, ints_ren', ints_lt', Cl.sv, Pr.sv, ints]) : a := h
theorem LgNm.o {a b c : Prop} (r : a → c) (h : b) (e : a = b := by simp only [stp, isQ, opdK, Sk.get, Sk.put, ofConst, ofConst1, ↓reduceIte, reduceCtorEq, Nat.reduceEqDiff, true_and, and_true, true_implies, implies_true, forall_const, imp_self, Bool.false_eq_true, false_implies, false_and, and_false, Bool.false_and, Bool.and_false, qop, grdK, List.getElem?_toArray, List.getElem?_cons_zero, List.getElem?_cons_succ, beq_true, beq_false, beq_self_eq_true, Bool.and_true, Bool.true_and, Bool.not_true, Bool.not_false, Bool.not_not, Bool.and_eq_true, Bool.not_eq_true', Bool.not_eq_false', pickB_bool, Bool.cond_true_left, Bool.cond_false_left, Bool.cond_true_right, Bool.cond_false_right, cond_true, cond_false, and_imp, loadK, Sk.find, one, Kd.agg, List.contains_nil, List.contains_cons, Nat.reduceBEq, Bool.or_false, Bool.true_or, Bool.or_true, Bool.false_or, ite_self, Nat.lt_one_iff, Nat.zero_add, Nat.add_zero, Nat.reduceAdd, Nat.reduceMul, Nat.reduceSub, Nat.reduceLT, Nat.reduceLeDiff, Nat.le_refl, Nat.zero_le, ne_eq, Nat.one_ne_zero, not_false_eq_true, not_true_eq_false, Int.toNat_natCast, Int.reduceToNat, List.length_cons, List.length_nil, and_self, Kd.slice.injEq, exists_eq', Option.map_some, Option.some.injEq, List.drop_zero, List.drop_succ_cons, List.take_succ_cons, List.take_zero, List.take_nil, List.drop_nil, List.nil_append, List.cons_append, List.append_nil, List.append_eq, List.all_cons, List.all_nil, spl, okCells, SV.cells, SV.scalar, binK, binII, binBB, intK, arithK, strK, shiftK, binAA, binNil, unK, convK, faddrK, fieldK, partK, iaddrK, indexK, optK, sliceK, bndK, Option.isSome_some, Option.isSome_none, Nat.sub_zero, or_true, true_or, partsK, buildK, fillS, placeS, lenK, Keys.len, opdsK, mmK, foldInt, eop, copyK, srcK, srcF_zero, setO, clearK, appendK, dropO, allocK, boxK, bsliceK, replZ, storeK, updF, mkK, mmapK, Keys.ofKd, mputK, Keys.add, Keys.okKd, mlookK, Keys.has, Tryd.tyInt, Tryd.szInt, Tryd.zInt, Tryd.tyInts, Tryd.szInts, Tryd.tyErr, Tryd.szErr, Tryd.zErr, Tryd.tyBool, Tryd.szBool, Tryd.zBool, Tryd.tyStr, Tryd.szStr, Tryd.tyCl, Tryd.szCl, Tryd.zCl, Tryd.tyPr, Tryd.szPr, Tryd.zPr, Tryd.tyCls, Tryd.szCls, Tryd.tyPrs, Tryd.szPrs, Tryd.tyLs, Tryd.szLs, Tryd.zLs, inCl, ownCl, inPr, ownPr, lsBox, lsOwn, noPrs, clCap, intCap, cls_0, cls_1, cls_2, cls_3, cls_4, prs_0, prs_1, prs_2, prs_3, prs_4, prs_5, prs_6, cls_take, prs_take, Cl.sv, Pr.sv, inRow, ownRow, rowsOf_one, app_ints, app_zero, ints]; exact rfl) : c := r (Eq.mpr e h)
theorem has_spec (xs : List Int) (v : Int) (n : Nat) (hn : xs.length = n) (hx : n ≤ 9223372036854775807) :
  FSpec Tryd.prog 28 [.slc false 0 0 0 n, .int .i64 v] ⟨1, [(0, inRow xs)]⟩ (fun s H1 => s = .bool (hasB xs v) ∧ H1 = ⟨1, []⟩) := by
 subst hn
 refine FSpec.ofC false 18 [.tmp 4] Tryd.func28 rfl rfl Tryd.ntmps28 Tryd.results28 rfl ?_
 intro w0 own0 β0 Q hQ hQn
 simp only [argFr]
 refine Cs.seq ?_
 refine Cs.reg [0, 1] rfl ?_
 intro K hK
 (refine LgNm.o runL_cons ?_; repeat (with_reducible apply And.intro; exact ComAm.sd))
 refine runL_nil (ComAm.pr (hK _ _ ?_)); clear hK K
 refine Cs.seq ?_
 refine Cs.seq ?_
 refine Cs.reg [0, 1, 5] rfl ?_
 intro K hK
 (refine LgNm.o runL_cons ?_; repeat (with_reducible apply And.intro; exact ComAm.sd))
 refine runL_nil (ComAm.pr (hK _ _ ?_)); clear hK K
 refine Cs.block ?_
 intro Q0 hN0 hX0 hR0 hE0
 refine Cs.loop (σ := Nat) (fun i => i ≤ xs.length ∧ ∀ j, j < i → (v == nth xs j) = false) (fun i => xs.length - i) (fun i => [(0, .slc false 0 0 0 xs.length), (1, .int .i64 v), (5, .int .i64 i)]) (fun i => ⟨1, [(0, inRow xs)]⟩) 0 ⟨by omega, by omega⟩ (ρ := id) (LgNm.g0 id) ?_
 rintro i hi QL1 hL1 hRL1 hEL1
 refine Cs.seq ?_
 refine Cs.seq ?_
 refine Cs.reg [0, 1, 5, 9] rfl ?_
 intro K hK
 iterate 4 (refine LgNm.o runL_cons ?_; repeat (with_reducible apply And.intro; exact ComAm.sd))
 refine runL_nil (ComAm.pr (hK _ _ ?_)); clear hK K
 refine Cs.cond _ rfl ?_ ?_
 ·intro h9
  try replace h9 := ComAm.nb h9
  refine Cs.skip ?_
  refine Cs.seq ?_
  refine Cs.block ?_
  intro Q1 hN1 hX1 hR1 hE1
  refine Cs.seq ?_
  refine Cs.reg [0, 1, 5, 17] rfl ?_
  intro K hK
  iterate 6 (refine LgNm.o runL_cons ?_; repeat (with_reducible apply And.intro; exact ComAm.sd))
  refine runL_nil (ComAm.pr (hK _ _ ?_)); clear hK K
  refine Cs.cond _ rfl ?_ ?_
  ·intro h17
   try replace h17 := ComAm.nb h17
   refine Cs.seq ?_
   refine Cs.reg [4] rfl ?_
   intro K hK
   (refine LgNm.o runL_cons ?_; repeat (with_reducible apply And.intro; exact ComAm.sd))
   refine runL_nil (ComAm.pr (hK _ _ ?_)); clear hK K
   refine Cs.ret ?_
   refine hR1 _ _ ?_
   refine hRL1 _ _ ?_
   refine hR0 _ _ ?_
   refine hQ _ _ ?_
   refine PostF.mk (H' := ⟨1, []⟩) (.inl rfl) ?_
   refine LfBm.ou ?_
   repeat (with_reducible apply And.intro; exact ComAm.sd)
   refine ⟨ComAm.r2, (LgNm.g0 id), LgNm.r3, ?_⟩
   have : hasB xs v = true := anyB_true (i := i) (by omega) (by simp; omega)
   exact ⟨by rw [this], by trivial⟩
  ·intro h17
   try replace h17 := ComAm.nb h17
   refine Cs.skip ?_
   refine Cs.nil ?_
   refine hN1 _ _ ?_
   refine Cs.reg [0, 1, 5] rfl ?_
   intro K hK
   iterate 3 (refine LgNm.o runL_cons ?_; repeat (with_reducible apply And.intro; exact ComAm.sd))
   refine runL_nil (ComAm.pr (hK _ _ ?_)); clear hK K
   refine Cs.nil ?_
   refine hL1 _ _ ?_
   refine ⟨i + 1, ⟨⟨by omega, fun j hj => ?_⟩, by omega⟩, id, (LgNm.g0 id)⟩
   by_cases h : j = i
   ·subst h; simp; omega
   ·exact hi.2 j (by omega)
 ·intro h9
  try replace h9 := ComAm.nb h9
  refine Cs.exit ?_
  refine hEL1 _ _ _ ?_
  refine hX0 _ _ ?_
  refine Cs.seq ?_
  refine Cs.reg [4] rfl ?_
  intro K hK
  (refine LgNm.o runL_cons ?_; repeat (with_reducible apply And.intro; exact ComAm.sd))
  refine runL_nil (ComAm.pr (hK _ _ ?_)); clear hK K
  refine Cs.ret ?_
  refine hQ _ _ ?_
  refine PostF.mk (H' := ⟨1, []⟩) (.inl rfl) ?_
  refine LfBm.ou ?_
  repeat (with_reducible apply And.intro; exact ComAm.sd)
  refine ⟨ComAm.r2, (LgNm.g0 id), LgNm.r3, ?_⟩
  have : hasB xs v = false := anyB_false fun j hj => hi.2 j (by omega)
  exact ⟨by rw [this], by trivial⟩
def growB (x : Pr) (old new : List Int) : Bool := x.phase == 15 && !hasB old x.cell && hasB new x.cell && ((new.length : Int) == old.length + 1)
def fallB (x : Pr) (old new : List Int) : Bool := x.phase == 16 && hasB old x.cell && !hasB new x.cell && ((new.length : Int) == old.length - 1)
/-- What did tells of the processes. -/
def DI (ps : List Pr) (did : List Bool) : Prop := did.length = ps.length ∧ ∀ q, q < ps.length → (pr ps q).kind ≠ 3 → (pr ps q).res = bAt did q ∧ ((pr ps q).phase = 18 → (pr ps q).kind = 1 → (pr ps q).res = true)
theorem bAt_set {l : List Bool} {k j : Nat} {b : Bool} (h : k < l.length) : bAt (l.set k b) j = if j = k then b else bAt l j := by
 simp only [bAt, List.getD]
 by_cases e : j = k
 ·subst e; simp [h]
 ·rw [List.getElem?_set_ne (Ne.symm e), if_neg e]
theorem bos_put {l : List Bool} {k : Nat} (h : k < l.length) (b : Bool) : (fun i => if i = k then [SV.bool b] else [SV.bool (bAt l i)]) = bos (l.set k b) := by
 funext i
 simp only [bos]
 rw [bAt_set h]
 split <;> rfl
theorem bos_rep (n : Nat) : (fun _ => [SV.bool false] : Nat → List SV) = bos (List.replicate n false) := by
 funext i
 simp only [bos, bAt, List.getD, List.getElem?_replicate]
 split <;> rfl
theorem bAt_rep (n i : Nat) : bAt (List.replicate n false) i = false := by
 simp only [bAt, List.getD, List.getElem?_replicate]
 split <;> rfl
theorem Tr.kind {cs ds : List Cl} {x y : Pr} (h : Tr cs x ds y) : y.kind = x.kind ∧ y.cell = x.cell := by
 cases h <;> exact ⟨rfl, rfl⟩
theorem growB_len {x : Pr} {old : List Int} : growB x old old = false := by
 have : ((old.length : Int) == old.length + 1) = false := by rw [beq_eq_false_iff_ne]; omega
 simp only [growB, this, Bool.and_false]
theorem fallB_len {x : Pr} {old : List Int} : fallB x old old = false := by
 have : ((old.length : Int) == old.length - 1) = false := by rw [beq_eq_false_iff_ne]; omega
 simp only [fallB, this, Bool.and_false]
theorem stepR_idle {cs : List Cl} {ps : List Pr} {q : Int} (hv : validL cs ps = true) (h : stepOk cs ps q = false) : stepR cs ps q = (cs, ps) := by
 rw [stepOk, hv, Bool.true_and] at h
 rw [stepR, hv, h]; rfl
theorem hasB_false {xs : List Int} {v : Int} : hasB xs v = false ↔ v ∉ xs := by
 rw [← hasB_iff]; simp
theorem DI.step {cs : List Cl} {ps : List Pr} {l : List Int} {did : List Bool} {q : Int} (h : Inv cs ps l) (hd : DI ps did) (hq : 0 ≤ q ∧ q < ps.length) :
  (growB (pr ps q.toNat) (membersL cs ps) (membersL (stepR cs ps q).1 (stepR cs ps q).2) = false → fallB (pr ps q.toNat) (membersL cs ps) (membersL (stepR cs ps q).1 (stepR cs ps q).2) = false → membersL cs ps = membersL (stepR cs ps q).1 (stepR cs ps q).2) ∧
  DI (stepR cs ps q).2 (did.set q.toNat (bAt did q.toNat || growB (pr ps q.toNat) (membersL cs ps) (membersL (stepR cs ps q).1 (stepR cs ps q).2) || fallB (pr ps q.toNat) (membersL cs ps) (membersL (stepR cs ps q).1 (stepR cs ps q).2))) ∧
  (∃ l', Inv (stepR cs ps q).1 (stepR cs ps q).2 l') ∧ (stepR cs ps q).2.length = ps.length := by
 have hqn : q.toNat < ps.length := by omega
 cases hok : stepOk cs ps q with
 |false =>
  rw [stepR_idle h.vb hok]
  refine ⟨fun _ _ => rfl, ?_, ⟨l, h⟩, rfl⟩
  dsimp only
  rw [growB_len, fallB_len, Bool.or_false, Bool.or_false]
  refine ⟨by rw [List.length_set, hd.1], fun j hj hk => ?_⟩
  rw [bAt_set (by rw [hd.1]; exact hqn)]
  have := hd.2 j hj hk
  split
  ·rename_i e; subst e; exact this
  ·exact this
 |true =>
  obtain ⟨_, ha, hr, l', hI, hE, _⟩ := h.act_step hok
  have hph := (vld_of h.vb).phase _ hqn
  obtain ⟨tk, tc⟩ := (Tr.of ha hph : Tr cs _ _ _).kind
  have hM := hE.toM h (h.prc _ hqn ha).c2
  rw [hr]
  dsimp only
  rw [h.members, hI.members]
  generalize stepC cs (pr ps q.toNat) = ds at *
  generalize stepP cs (pr ps q.toNat) = y at *
  generalize memb cs l = old at *
  generalize memb ds l' = new at *
  have hlen : (did.set q.toNat (bAt did q.toNat || growB (pr ps q.toNat) old new || fallB (pr ps q.toNat) old new)).length = (ps.set q.toNat y).length := by rw [List.length_set, List.length_set, hd.1]
  have hset : ∀ b : Bool, (y.kind ≠ 3 → y.res = b ∧ (y.phase = 18 → y.kind = 1 → y.res = true)) → DI (ps.set q.toNat y) (did.set q.toNat b) := fun b hb => by
   refine ⟨by rw [List.length_set, List.length_set, hd.1], fun j hj hk => ?_⟩
   rw [List.length_set] at hj
   rw [bAt_set (by rw [hd.1]; exact hqn)]
   by_cases e : j = q.toNat
   ·subst e
    rw [pr_set_eq hqn] at hk ⊢
    rw [if_pos rfl]
    exact hb hk
   ·rw [pr_set_ne (Ne.symm e)] at hk ⊢
    rw [if_neg e]
    exact hd.2 j hj hk
  cases hM with
  |same e hy hk =>
   subst e
   rw [growB_len, fallB_len, Bool.or_false, Bool.or_false]
   refine ⟨fun _ _ => rfl, hset _ fun hk3 => ⟨?_, fun h18 h1 => absurd h1 (hk h18)⟩, ⟨l', hI⟩, List.length_set⟩
   rw [hy hk3]
   exact (hd.2 _ hqn (by rw [← tk]; exact hk3)).1
  |grow h1 h2 h3 hx hy =>
   have hg : growB (pr ps q.toNat) old new = true := by
    rw [growB, hasB_false.2 h1, hasB_iff.2 h2, hx.1, h3]; simp
   rw [hg]
   refine ⟨(fun h => by cases h), hset _ fun hk3 => ⟨?_, fun _ _ => hy⟩, ⟨l', hI⟩, List.length_set⟩
   rw [hy]; simp
  |fall h1 h2 h3 hx hy =>
   have hg : fallB (pr ps q.toNat) old new = true := by
    rw [fallB, hasB_false.2 h2, hasB_iff.2 h1, hx.1, h3]; simp
   rw [hg]
   refine ⟨(fun _ h => by cases h), hset _ fun hk3 => ⟨?_, fun _ _ => hy⟩, ⟨l', hI⟩, List.length_set⟩
   rw [hy]; simp
theorem DI.start {cs : List Cl} {ps : List Pr} {did : List Bool} {q k c : Int} (hd : DI ps did) (he : startE cs ps q k c = 0) : DI (startR cs ps q k c).2 (did.set q.toNat false) := by
 obtain ⟨_, hp, _⟩ := startE_zero he
 rw [startR, if_pos he]
 show DI (startP cs ps q k c) _
 unfold startP
 refine ⟨by rw [List.length_set, List.length_set, hd.1], fun j hj hk => ?_⟩
 rw [List.length_set] at hj
 rw [bAt_set (by rw [hd.1]; omega)]
 by_cases e : j = q.toNat
 ·subst e
  rw [pr_set_eq hj]
  rw [if_pos rfl]
  exact ⟨rfl, fun h => by cases h⟩
 ·rw [pr_set_ne (Ne.symm e)] at hk ⊢
  rw [if_neg e]
  exact hd.2 j hj hk
theorem DI.made (p : Nat) : DI (List.replicate p noPr) (List.replicate p false) := by
 refine ⟨by simp, fun q _ _ => ?_⟩
 rw [noPr_at, bAt_rep]
 exact ⟨rfl, fun h => by cases h⟩
end Go.Proofs

set_option linter.unusedSimpArgs false
set_option linter.unusedVariables false
set_option maxRecDepth 4000
namespace Go.Proofs
open Go.Sk
theorem memF_length (cs : List Cl) : ∀ (k : Nat) (met : List Int) (a : Int), (memF cs k met a).length ≤ k
 |0, _, _ => by simp [memF]
 |k + 1, met, a => by
  rw [memF]
  split
  ·simp
  ·have := memF_length cs k (met ++ [a]) (cl cs a.toNat).right
   rw [List.length_append]
   split
   ·simp; omega
   ·simp; omega
theorem membersL_len (cs : List Cl) (ps : List Pr) : (membersL cs ps).length ≤ cs.length + 1 := by
 unfold membersL
 split
 ·simp
 ·exact memF_length ..
end Go.Proofs

set_option linter.unusedSimpArgs false
set_option linter.unusedVariables false
set_option maxRecDepth 4000
namespace Go.Proofs
open Go.Sk
noncomputable def ownBo (n : Nat) (l : List Bool) : Nat × (Nat → Sk.Obj) := one (.row ⟨true, false, 4, 1, n, bos l⟩)
theorem LgOm.ca {P : Program} {f : FuncId} {args args0 : List SV} {H0 H : AH} {R : SV → AH → Prop} {dr : Bool} {W : List Nat} {k : SV → AH → Prop} (hF : FSpec P f args0 H0 R) (ρ : Nat → Nat)
  (hk : ∀ s0 H1, R s0 H1 → ∀ s1 H2, s1 = s0.ren (cren H0.nxt H.nxt ρ) → H2 = after H0.nxt ρ H0 H H1 → k s1 H2)
  (a1 : SV.wkL args (SV.renL ρ args0) := by simp [SV.wkL, SV.wk, SV.renL, SV.ren, inCl, ownCl, inPr, ownPr, lsBox, lsOwn, noPrs, clCap, intCap, cls_ren', cls_lt, prs_ren', prs_lt, inRow, ownRow, ints_ren', ints_lt', Cl.sv, Pr.sv, ints, tapeRow, bos_ren', bos_lt, ownBo]) (a2 : SV.ltL H.nxt (SV.renL ρ args0) := by simp [SV.renL, SV.ren, SV.ltL, SV.lt, inCl, ownCl, inPr, ownPr, lsBox, lsOwn, noPrs, clCap, intCap, cls_ren', cls_lt, prs_ren', prs_lt, inRow, ownRow, ints_ren', ints_lt', Cl.sv, Pr.sv, ints, tapeRow, bos_ren', bos_lt, ownBo]) (a3 : SV.ltL H0.nxt args0 := by simp [SV.ltL, SV.lt, inCl, ownCl, inPr, ownPr, lsBox, lsOwn, noPrs, clCap, intCap, cls_ren', cls_lt, prs_ren', prs_lt, inRow, ownRow, ints_ren', ints_lt', Cl.sv, Pr.sv, ints, tapeRow, bos_ren', bos_lt, ownBo])
  (a4 : (List.range H0.nxt).all (fun id => decide (ρ id < H.nxt)) = true := by exact rfl) (a5 : HGives ρ H0.nxt H.os H0.os := by simp [HGives, Sk.find, one, objGives, rowGives, renL_id, SV.renL, SV.ren, Obj.lt_row, SV.ltL, SV.lt, inCl, ownCl, inPr, ownPr, lsBox, lsOwn, noPrs, clCap, intCap, cls_ren', cls_lt, prs_ren', prs_lt, inRow, ownRow, ints_ren', ints_lt', Cl.sv, Pr.sv, ints, tapeRow, bos_ren', bos_lt, ownBo]) (a6 : injB ρ H0.os = true := by exact rfl) (a7 : ownU H0.os := by simp [ownU, one, Obj.own, inCl, ownCl, inPr, ownPr, lsBox, lsOwn, noPrs, clCap, intCap, cls_ren', cls_lt, prs_ren', prs_lt, inRow, ownRow, ints_ren', ints_lt', Cl.sv, Pr.sv, ints, tapeRow, bos_ren', bos_lt, ownBo])
  (a8 : (H0.os.map (·.1)).Nodup := by simp) (a9 : ∀ x ∈ H0.os, (x.2.2 0).own = true → (Sk.find H.os (ρ x.1)).map (·.1) = some x.2.1 := by simp [one, Obj.own, Sk.find, inCl, ownCl, inPr, ownPr, lsBox, lsOwn, noPrs, clCap, intCap, cls_ren', cls_lt, prs_ren', prs_lt, inRow, ownRow, ints_ren', ints_lt', Cl.sv, Pr.sv, ints, tapeRow, bos_ren', bos_lt, ownBo]) (a10 : dr = true → (ownIds ρ H0.os).all (fun id => W.contains id) = true := by simp [ownIds, one, Obj.own, inCl, ownCl, inPr, ownPr, lsBox, lsOwn, noPrs, clCap, intCap, cls_ren', cls_lt, prs_ren', prs_lt, inRow, ownRow, ints_ren', ints_lt', Cl.sv, Pr.sv, ints, tapeRow, bos_ren', bos_lt, ownBo]) : callK P f args H dr W k :=
 callK_of hF ρ a1 a2 a3 a4 a5 a6 a7 a8 a9 a10 hk
theorem LgOm.af {s e e1 : SV} {H g g1 : AH} (h1 : s = e) (h2 : H = g) (a1 : e = e1 := by simp only [after, cren, id, dropO, reduceCtorEq, Nat.reduceEqDiff, Nat.one_ne_zero, Nat.zero_ne_one, renOs, dropIds, ownIds, one, Obj.own, Obj.ren, Row.ren, SV.ren, SV.renL, List.map_cons, List.map_nil, List.nil_append, List.cons_append, ↓reduceIte, Nat.reduceLT, Nat.reduceAdd, Nat.reduceSub, Nat.reduceEqDiff, Nat.add_zero, Bool.false_eq_true, Tryd.tyInt, Tryd.szInt, Tryd.zInt, Tryd.tyInts, Tryd.szInts, Tryd.tyErr, Tryd.szErr, Tryd.zErr, Tryd.tyBool, Tryd.szBool, Tryd.zBool, Tryd.tyStr, Tryd.szStr, Tryd.tyCl, Tryd.szCl, Tryd.zCl, Tryd.tyPr, Tryd.szPr, Tryd.zPr, Tryd.tyCls, Tryd.szCls, Tryd.tyPrs, Tryd.szPrs, Tryd.tyLs, Tryd.szLs, Tryd.zLs, inCl, ownCl, inPr, ownPr, lsBox, lsOwn, noPrs, clCap, intCap, cls_0, cls_1, cls_2, cls_3, cls_4, prs_0, prs_1, prs_2, prs_3, prs_4, prs_5, prs_6, cls_take, prs_take, Cl.sv, Pr.sv, inRow, ownRow, rowsOf_one, app_ints, app_zero, Tryd.tyTape, Tryd.szTape, Tryd.zTape, tapeRow, lsS, lsH, Tryd.tyBools, Tryd.szBools, bos_ap, ownBo, ints_ren, cls_ren, prs_ren, ints_ren, lsS, lsH, bos_ren]; exact rfl) (a2 : g = g1 := by simp only [after, cren, id, dropO, reduceCtorEq, Nat.reduceEqDiff, Nat.one_ne_zero, Nat.zero_ne_one, renOs, dropIds, ownIds, one, Obj.own, Obj.ren, Row.ren, SV.ren, SV.renL, List.map_cons, List.map_nil, List.nil_append, List.cons_append, ↓reduceIte, Nat.reduceLT, Nat.reduceAdd, Nat.reduceSub, Nat.reduceEqDiff, Nat.add_zero, Bool.false_eq_true, Tryd.tyInt, Tryd.szInt, Tryd.zInt, Tryd.tyInts, Tryd.szInts, Tryd.tyErr, Tryd.szErr, Tryd.zErr, Tryd.tyBool, Tryd.szBool, Tryd.zBool, Tryd.tyStr, Tryd.szStr, Tryd.tyCl, Tryd.szCl, Tryd.zCl, Tryd.tyPr, Tryd.szPr, Tryd.zPr, Tryd.tyCls, Tryd.szCls, Tryd.tyPrs, Tryd.szPrs, Tryd.tyLs, Tryd.szLs, Tryd.zLs, inCl, ownCl, inPr, ownPr, lsBox, lsOwn, noPrs, clCap, intCap, cls_0, cls_1, cls_2, cls_3, cls_4, prs_0, prs_1, prs_2, prs_3, prs_4, prs_5, prs_6, cls_take, prs_take, Cl.sv, Pr.sv, inRow, ownRow, rowsOf_one, app_ints, app_zero, Tryd.tyTape, Tryd.szTape, Tryd.zTape, tapeRow, lsS, lsH, Tryd.tyBools, Tryd.szBools, bos_ap, ownBo, ints_ren, cls_ren, prs_ren, ints_ren, lsS, lsH, bos_ren]; exact rfl) : s = e1 ∧ H = g1 := ⟨h1.trans a1, h2.trans a2⟩
theorem LgOm.g1 {X : Cx} {fr : Fr} {H : AH} {fr1 : Fr} {H1 : AH} (ρ : Nat → Nat) (a1 : frGives ρ H1.nxt fr fr1 := by simp [frGives, Sk.get, SV.ren, SV.renL, SV.lt, SV.ltL, inCl, ownCl, inPr, ownPr, lsBox, lsOwn, noPrs, clCap, intCap, cls_ren', cls_lt, prs_ren', prs_lt, inRow, ownRow, ints_ren', ints_lt', Cl.sv, Pr.sv, ints, tapeRow, bos_ren', bos_lt, ownBo]) (a2 : HGives ρ H1.nxt H.os H1.os := by simp [HGives, Sk.find, one, objGives, rowGives, SV.renL, SV.ren, Obj.lt_row, SV.ltL, SV.lt, inCl, ownCl, inPr, ownPr, lsBox, lsOwn, noPrs, clCap, intCap, cls_ren', cls_lt, prs_ren', prs_lt, inRow, ownRow, ints_ren', ints_lt', Cl.sv, Pr.sv, ints, tapeRow, bos_ren', bos_lt, ownBo]) (a3 : injB ρ H1.os = true := by exact rfl)
  (a4 : ownU H1.os := by simp [ownU, one, inCl, ownCl, inPr, ownPr, lsBox, lsOwn, noPrs, clCap, intCap, cls_ren', cls_lt, prs_ren', prs_lt, inRow, ownRow, ints_ren', ints_lt', Cl.sv, Pr.sv, ints, tapeRow, bos_ren', bos_lt, ownBo]) (a5 : (List.range X.m0).all (fun id => ρ id == id) = true := by exact rfl) (a6 : X.m0 ≤ H1.nxt := by exact Nat.le_of_ble_eq_true rfl) (a7 : ownU H.os := by simp [ownU, one, Obj.own, inCl, ownCl, inPr, ownPr, lsBox, lsOwn, noPrs, clCap, intCap, cls_ren', cls_lt, prs_ren', prs_lt, inRow, ownRow, ints_ren', ints_lt', Cl.sv, Pr.sv, ints, tapeRow, bos_ren', bos_lt, ownBo])
  (a8 : keepB X.m0 H.os H1.os := by simp [keepB, one, Obj.own, Sk.find, inCl, ownCl, inPr, ownPr, lsBox, lsOwn, noPrs, clCap, intCap, cls_ren', cls_lt, prs_ren', prs_lt, inRow, ownRow, ints_ren', ints_lt', Cl.sv, Pr.sv, ints, tapeRow, bos_ren', bos_lt, ownBo]) (a9 : bigB X.m0 ρ H1.os = true := by exact rfl) : Gives X ρ fr H fr1 H1 := Gives.mk' ρ a1 a2 a3 a4 a5 a6 a7 a8 a9
theorem LgOm.g0 {X : Cx} {fr : Fr} {H : AH} {fr1 : Fr} {H1 : AH} (ρ : Nat → Nat) (a1 : frGives ρ H1.nxt fr fr1 := by simp [frGives, Sk.get, ren_id, SV.lt, SV.ltL, inCl, ownCl, inPr, ownPr, lsBox, lsOwn, noPrs, clCap, intCap, cls_ren', cls_lt, prs_ren', prs_lt, inRow, ownRow, ints_ren', ints_lt', Cl.sv, Pr.sv, ints, tapeRow, bos_ren', bos_lt, ownBo]) (a2 : HGives ρ H1.nxt H.os H1.os := by simp [HGives, Sk.find, one, objGives, rowGives, renL_id, Obj.lt_row, SV.ltL, SV.lt, inCl, ownCl, inPr, ownPr, lsBox, lsOwn, noPrs, clCap, intCap, cls_ren', cls_lt, prs_ren', prs_lt, inRow, ownRow, ints_ren', ints_lt', Cl.sv, Pr.sv, ints, tapeRow, bos_ren', bos_lt, ownBo]) (a3 : injB ρ H1.os = true := by exact rfl)
  (a4 : ownU H1.os := by simp [ownU, one, inCl, ownCl, inPr, ownPr, lsBox, lsOwn, noPrs, clCap, intCap, cls_ren', cls_lt, prs_ren', prs_lt, inRow, ownRow, ints_ren', ints_lt', Cl.sv, Pr.sv, ints, tapeRow, bos_ren', bos_lt, ownBo]) (a5 : (List.range X.m0).all (fun id => ρ id == id) = true := by exact rfl) (a6 : X.m0 ≤ H1.nxt := by exact Nat.le_of_ble_eq_true rfl) (a7 : ownU H.os := by simp [ownU, one, Obj.own, inCl, ownCl, inPr, ownPr, lsBox, lsOwn, noPrs, clCap, intCap, cls_ren', cls_lt, prs_ren', prs_lt, inRow, ownRow, ints_ren', ints_lt', Cl.sv, Pr.sv, ints, tapeRow, bos_ren', bos_lt, ownBo])
  (a8 : keepB X.m0 H.os H1.os := by simp [keepB, one, Obj.own, Sk.find, inCl, ownCl, inPr, ownPr, lsBox, lsOwn, noPrs, clCap, intCap, cls_ren', cls_lt, prs_ren', prs_lt, inRow, ownRow, ints_ren', ints_lt', Cl.sv, Pr.sv, ints, tapeRow, bos_ren', bos_lt, ownBo]) (a9 : bigB X.m0 ρ H1.os = true := by exact rfl) : Gives X ρ fr H fr1 H1 := Gives.mk' ρ a1 a2 a3 a4 a5 a6 a7 a8 a9
theorem LgOm.r3 {a : Prop} (h : a := by simp [OwnAll, one, Obj.own, inCl, ownCl, inPr, ownPr, lsBox, lsOwn, noPrs, clCap, intCap, cls_ren', cls_lt, prs_ren', prs_lt, inRow, ownRow, ints_ren', ints_lt', Cl.sv, Pr.sv, ints, tapeRow, bos_ren', bos_lt, ownBo]) : a := h
theorem LgOm.o {a b c : Prop} (r : a → c) (h : b) (e : a = b := by simp only [stp, isQ, opdK, Sk.get, Sk.put, ofConst, ofConst1, ↓reduceIte, reduceCtorEq, Nat.reduceEqDiff, true_and, and_true, true_implies, implies_true, forall_const, imp_self, Bool.false_eq_true, false_implies, false_and, and_false, Bool.false_and, Bool.and_false, qop, grdK, List.getElem?_toArray, List.getElem?_cons_zero, List.getElem?_cons_succ, beq_true, beq_false, beq_self_eq_true, Bool.and_true, Bool.true_and, Bool.not_true, Bool.not_false, Bool.not_not, Bool.and_eq_true, Bool.not_eq_true', Bool.not_eq_false', pickB_bool, Bool.cond_true_left, Bool.cond_false_left, Bool.cond_true_right, Bool.cond_false_right, cond_true, cond_false, and_imp, loadK, Sk.find, one, Kd.agg, List.contains_nil, List.contains_cons, Nat.reduceBEq, Bool.or_false, Bool.true_or, Bool.or_true, Bool.false_or, ite_self, Nat.lt_one_iff, Nat.zero_add, Nat.add_zero, Nat.reduceAdd, Nat.reduceMul, Nat.reduceSub, Nat.reduceLT, Nat.reduceLeDiff, Nat.le_refl, Nat.zero_le, ne_eq, Nat.one_ne_zero, not_false_eq_true, not_true_eq_false, Int.toNat_natCast, Int.reduceToNat, List.length_cons, List.length_nil, and_self, Kd.slice.injEq, exists_eq', Option.map_some, Option.some.injEq, List.drop_zero, List.drop_succ_cons, List.take_succ_cons, List.take_zero, List.take_nil, List.drop_nil, List.nil_append, List.cons_append, List.append_nil, List.append_eq, List.all_cons, List.all_nil, spl, okCells, SV.cells, SV.scalar, binK, binII, binBB, intK, arithK, strK, shiftK, binAA, binNil, unK, convK, faddrK, fieldK, partK, iaddrK, indexK, optK, sliceK, bndK, Option.isSome_some, Option.isSome_none, Nat.sub_zero, or_true, true_or, partsK, buildK, fillS, placeS, lenK, Keys.len, opdsK, mmK, foldInt, eop, copyK, srcK, srcF_zero, setO, clearK, appendK, dropO, allocK, boxK, bsliceK, replZ, storeK, updF, mkK, mmapK, Keys.ofKd, mputK, Keys.add, Keys.okKd, mlookK, Keys.has, Tryd.tyInt, Tryd.szInt, Tryd.zInt, Tryd.tyInts, Tryd.szInts, Tryd.tyErr, Tryd.szErr, Tryd.zErr, Tryd.tyBool, Tryd.szBool, Tryd.zBool, Tryd.tyStr, Tryd.szStr, Tryd.tyCl, Tryd.szCl, Tryd.zCl, Tryd.tyPr, Tryd.szPr, Tryd.zPr, Tryd.tyCls, Tryd.szCls, Tryd.tyPrs, Tryd.szPrs, Tryd.tyLs, Tryd.szLs, Tryd.zLs, inCl, ownCl, inPr, ownPr, lsBox, lsOwn, noPrs, clCap, intCap, cls_0, cls_1, cls_2, cls_3, cls_4, prs_0, prs_1, prs_2, prs_3, prs_4, prs_5, prs_6, cls_take, prs_take, Cl.sv, Pr.sv, inRow, ownRow, rowsOf_one, app_ints, app_zero, ints, Tryd.tyTape, Tryd.szTape, Tryd.zTape, tapeRow, lsS, lsH, Tryd.tyBools, Tryd.szBools, bos_ap, ownBo]; exact rfl) : c := r (Eq.mpr e h)
set_option maxHeartbeats 8000000 in
theorem changes_spec (ls : List Int) (hx : ls.length ≤ 9223372036854775807) :
  FSpec Tryd.prog 5 [.slc false 0 0 0 ls.length] ⟨1, [(0, inRow ls)]⟩ (fun s _ => s = .bool true) := by
 refine FSpec.ofC false 188 [.tmp 2] Tryd.func5 rfl rfl Tryd.ntmps5 Tryd.results5 rfl ?_
 intro w0 own0 β0 Q hQ hQn
 simp only [argFr]
 refine Cs.seq ?_
 refine Cs.reg [0] rfl ?_
 intro K hK
 (refine LgOm.o runL_cons ?_; repeat (with_reducible apply And.intro; exact ComAm.sd))
 refine runL_nil (ComAm.pr (hK _ _ ?_)); clear hK K
 refine Cs.seq ?_
 refine Cs.reg [3] rfl ?_
 intro K hK
 (refine LgOm.o runL_cons ?_; repeat (with_reducible apply And.intro; exact ComAm.sd))
 refine LgOm.o runL_cons ?_
 repeat (with_reducible apply And.intro; exact ComAm.sd)
 refine LgOm.ca (new_spec ls hx) (id) ?_
 rintro s0 H0 ⟨m, hm, rfl, rfl⟩ s1 H1 hs1 hH1
 obtain ⟨hs2, hH2⟩ := LgOm.af hs1 hH1
 clear hs1 hH1
 subst hs2 hH2
 repeat (with_reducible apply And.intro; exact ComAm.sd)
 (refine LgOm.o runL_cons ?_; repeat (with_reducible apply And.intro; exact ComAm.sd))
 refine runL_nil (ComAm.pr (hK _ _ ?_)); clear hK K
 refine Cs.seq ?_
 refine Cs.reg [3, 4, 5] rfl ?_
 intro K hK
 (refine LgOm.o runL_cons ?_; repeat (with_reducible apply And.intro; exact ComAm.sd))
 refine LgOm.o runL_cons ?_
 repeat (with_reducible apply And.intro; exact ComAm.sd)
 refine LgOm.ca (made_spec ls m 0 hx hm (Nat.zero_le _)) (fun k => if k = 0 then 1 else 0) ?_
 rintro s0 H0 ⟨keys, inn, np, at1, ⟨ha1, hmk⟩, rfl, rfl⟩ s1 H1 hs1 hH1
 obtain ⟨hs2, hH2⟩ := LgOm.af hs1 hH1
 clear hs1 hH1
 subst hs2 hH2
 repeat (with_reducible apply And.intro; exact ComAm.sd)
 have hk6 := hmk.len
 have hp4 := hmk.four
 have hI0 := inv_made hmk
 have hD0 := DI.made np
 iterate 6 (refine LgOm.o runL_cons ?_; repeat (with_reducible apply And.intro; exact ComAm.sd))
 refine runL_nil (ComAm.pr (hK _ _ ?_)); clear hK K
 refine Cs.seq ?_
 refine Cs.seq ?_
 refine Cs.reg [3, 4, 27] rfl ?_
 intro K hK
 iterate 2 (refine LgOm.o runL_cons ?_; repeat (with_reducible apply And.intro; exact ComAm.sd))
 refine runL_nil (ComAm.pr (hK _ _ ?_)); clear hK K
 refine Cs.cond _ rfl ?_ ?_
 ·intro h27
  exfalso; cases h27
 ·intro h27
  
  refine Cs.skip ?_
  refine Cs.seq ?_
  have hcl := newC_length keys inn keys.length
  have hpl : (List.replicate np noPr).length = np := List.length_replicate
  generalize newC keys inn keys.length = cs0 at *
  generalize List.replicate np noPr = ps0 at *
  generalize ordN keys inn keys.length = l0 at *
  rw [← hcl, ← hpl]
  rw [← hpl] at hp4 hD0
  refine Cs.reg [3, 4, 6] rfl ?_
  intro K hK
  iterate 5 (refine LgOm.o runL_cons ?_; repeat (with_reducible apply And.intro; exact ComAm.sd))
  refine runL_nil ?_
  refine ComAm.pr ?_
  rw [bos_rep ps0.length]
  refine hK _ _ ?_
  clear hK K
  refine Cs.seq ?_
  refine Cs.seq ?_
  refine Cs.reg [3, 4, 6, 7] rfl ?_
  intro K hK
  (refine LgOm.o runL_cons ?_; repeat (with_reducible apply And.intro; exact ComAm.sd))
  refine runL_nil (ComAm.pr (hK _ _ ?_)); clear hK K
  refine Cs.block ?_
  intro Q0 hN0 hX0 hR0 hE0
  refine Cs.loop (σ := (List Cl × List Pr) × List Bool × Nat × Nat) (fun σ => ((∃ l, Inv σ.1.1 σ.1.2 l) ∧ DI σ.1.2 σ.2.1 ∧ σ.1.2.length = ps0.length) ∧ σ.2.2.1 ≤ m ∧ σ.2.2.2 ≤ 100) (fun σ => 100 - σ.2.2.2) (fun σ => [(3, .ptr 1 0 0 0), (4, .ptr 4 0 0 0), (6, .slc true 5 0 0 ps0.length), (7, .int .i64 σ.2.2.2)]) (fun σ => ⟨6, [(1, tapeRow 0 m σ.2.2.1), (5, ownBo ps0.length σ.2.1), (4, lsOwn 2 σ.1.1.length 3 σ.1.2.length), (3, ownPr σ.1.2), (2, ownCl σ.1.1), (0, inRow ls)]⟩) ((cs0, ps0), List.replicate ps0.length false, at1, 0) ⟨⟨⟨l0, hI0⟩, hD0, rfl⟩, ha1, Nat.zero_le _⟩ (ρ := id) (LgOm.g0 id) ?_
  rintro ⟨⟨cs, ps⟩, did, at2, i⟩ hi QL1 hL1 hRL1 hEL1
  refine Cs.seq ?_
  refine Cs.seq ?_
  refine Cs.reg [3, 4, 6, 7, 37] rfl ?_
  intro K hK
  have hk7 : (((∃ l, Inv cs ps l) ∧ DI ps did ∧ ps.length = ps0.length) ∧ at2 ≤ m ∧ i ≤ 100) → ∀ B : Bool, (B = true → i < 100) → K [(3, .ptr 1 0 0 0), (4, .ptr 4 0 0 0), (6, .slc true 5 0 0 ps0.length), (7, .int .i64 i), (37, .bool B)] ⟨6, [(1, tapeRow 0 m at2), (5, ownBo ps0.length did), (4, lsOwn 2 cs.length 3 ps.length), (3, ownPr ps), (2, ownCl cs), (0, inRow ls)]⟩ := by
   intro hi B hB
   obtain ⟨⟨⟨l1, hI⟩, hD, hpn⟩, hi3, hi4⟩ := hi
   have hln := hI.lens
   refine hK _ _ ?_
   clear hK K
   refine Cs.cond _ rfl ?_ ?_
   ·intro h37
    have hi90 := hB h37
    refine Cs.skip ?_
    refine Cs.seq ?_
    refine Cs.block ?_
    intro Q1 hN1 hX1 hR1 hE1
    refine Cs.seq ?_
    refine Cs.reg [3, 4, 6, 7, 8] rfl ?_
    intro K hK
    iterate 4 (refine LgOm.o runL_cons ?_; repeat (with_reducible apply And.intro; exact ComAm.sd))
    refine LgOm.o runL_cons ?_
    repeat (with_reducible apply And.intro; exact ComAm.sd)
    refine LgOm.ca (next_spec ls m at2 ps.length hx hm hi3 (by omega)) (fun k => if k = 0 then 1 else 0) ?_
    rintro s0 H0 ⟨q, at3, g1, g2, g3, g4, rfl, rfl⟩ s1 H1 hs1 hH1
    obtain ⟨hs2, hH2⟩ := LgOm.af hs1 hH1
    clear hs1 hH1
    subst hs2 hH2
    repeat (with_reducible apply And.intro; exact ComAm.sd)
    have g5 := g3 (by omega)
    (refine LgOm.o runL_cons ?_; repeat (with_reducible apply And.intro; exact ComAm.sd))
    refine runL_nil (ComAm.pr (hK _ _ ?_)); clear hK K
    refine Cs.seq ?_
    refine Cs.seq ?_
    refine Cs.reg [3, 4, 6, 7, 8, 46] rfl ?_
    intro K hK
    (refine LgOm.o runL_cons ?_; repeat (with_reducible apply And.intro; exact ComAm.sd))
    refine LgOm.o runL_cons ?_
    repeat (with_reducible apply And.intro; exact ComAm.sd)
    refine LgOm.ca (bool_spec ls m at3 4 hx hm g1 (by omega) (by omega)) (fun k => if k = 0 then 1 else 0) ?_
    rintro s0 H0 ⟨b4, at4, e1, rfl, rfl⟩ s1 H1 hs1 hH1
    obtain ⟨hs2, hH2⟩ := LgOm.af hs1 hH1
    clear hs1 hH1
    subst hs2 hH2
    repeat (with_reducible apply And.intro; exact ComAm.sd)
    refine runL_nil (ComAm.pr (hK _ _ ?_)); clear hK K
    refine Cs.cond _ rfl ?_ ?_
    ·intro h46
     
     refine Cs.seq ?_
     refine Cs.seq ?_
     refine Cs.reg [3, 4, 6, 7, 8, 9, 10] rfl ?_
     intro K hK
     iterate 3 (refine LgOm.o runL_cons ?_; repeat (with_reducible apply And.intro; exact ComAm.sd))
     refine LgOm.o runL_cons ?_
     repeat (with_reducible apply And.intro; exact ComAm.sd)
     refine LgOm.ca (lawStart_spec ls m at4 hx hm e1 cs ps (by omega) (by omega) q) (fun k => if k = 0 then 1 else if k = 1 then 0 else k) ?_
     rintro s0 H0 ⟨kind, cell, at5, ⟨f1, f2, f3, f4⟩, rfl, rfl⟩ s1 H1 hs1 hH1
     obtain ⟨hs2, hH2⟩ := LgOm.af hs1 hH1
     clear hs1 hH1
     subst hs2 hH2
     repeat (with_reducible apply And.intro; exact ComAm.sd)
     iterate 6 (refine LgOm.o runL_cons ?_; repeat (with_reducible apply And.intro; exact ComAm.sd))
     refine runL_nil (ComAm.pr (hK _ _ ?_)); clear hK K
     refine Cs.seq ?_
     refine Cs.reg [3, 4, 6, 7, 8, 9, 54] rfl ?_
     intro K hK
     (refine LgOm.o runL_cons ?_; repeat (with_reducible apply And.intro; exact ComAm.sd))
     refine runL_nil (ComAm.pr (hK _ _ ?_)); clear hK K
     refine Cs.cond _ rfl ?_ ?_
     ·intro h54
      have he0 : startE cs ps q kind cell = 0 := by simpa using h54
      refine Cs.reg [3, 4, 6, 7] rfl ?_
      intro K hK
      iterate 6 (refine LgOm.o runL_cons ?_; repeat (with_reducible apply And.intro; exact ComAm.sd))
      rw [bos_put (by rw [hD.1]; omega)]
      repeat (with_reducible apply And.intro; exact ComAm.sd)
      refine runL_nil (ComAm.pr (hK _ _ ?_)); clear hK K
      refine Cs.exit ?_
      refine hX1 _ _ ?_
      refine Cs.reg [3, 4, 6, 7] rfl ?_
      intro K hK
      iterate 3 (refine LgOm.o runL_cons ?_; repeat (with_reducible apply And.intro; exact ComAm.sd))
      refine runL_nil (ComAm.pr (hK _ _ ?_)); clear hK K
      refine Cs.nil ?_
      refine hL1 _ _ ?_
      rw [show (i : Int) + 1 = ((i + 1 : Nat) : Int) from by omega]
      refine ⟨(startR cs ps q kind cell, did.set q.toNat false, at5, i + 1), ⟨⟨⟨by rw [startR, if_pos he0]; exact ⟨l1, hI.start he0⟩, hD.start he0, by dsimp only; rw [(startR_len0 he0).2]; exact hpn⟩, f1, by dsimp only; omega⟩, by dsimp only; omega⟩, fun k => if k = 2 then 6 else if k = 3 then 7 else k, (LgOm.g1 (fun k => if k = 2 then 6 else if k = 3 then 7 else k))⟩
     ·intro h54
      
      refine Cs.skip ?_
      refine Cs.exit ?_
      refine hX1 _ _ ?_
      refine Cs.reg [3, 4, 6, 7] rfl ?_
      intro K hK
      iterate 3 (refine LgOm.o runL_cons ?_; repeat (with_reducible apply And.intro; exact ComAm.sd))
      refine runL_nil (ComAm.pr (hK _ _ ?_)); clear hK K
      refine Cs.nil ?_
      refine hL1 _ _ ?_
      rw [show (i : Int) + 1 = ((i + 1 : Nat) : Int) from by omega]
      refine ⟨((cs, ps), did, at5, i + 1), ⟨⟨⟨⟨l1, hI⟩, hD, hpn⟩, f1, by dsimp only; omega⟩, by dsimp only; omega⟩, id, (LgOm.g0 id)⟩
    ·intro h46
     
     refine Cs.skip ?_
     refine Cs.seq ?_
     refine Cs.reg [3, 4, 6, 7, 8, 11] rfl ?_
     intro K hK
     iterate 2 (refine LgOm.o runL_cons ?_; repeat (with_reducible apply And.intro; exact ComAm.sd))
     refine LgOm.o runL_cons ?_
     repeat (with_reducible apply And.intro; exact ComAm.sd)
     refine LgOm.ca (stepL_spec cs ps cs.length ps.length rfl rfl (by omega) (by omega) q) (fun k => k + 2) ?_
     rintro s0 H0 ⟨rfl, rfl⟩ s1 H1 hs1 hH1
     obtain ⟨hs2, hH2⟩ := LgOm.af hs1 hH1
     clear hs1 hH1
     subst hs2 hH2
     repeat (with_reducible apply And.intro; exact ComAm.sd)
     iterate 6 (refine LgOm.o runL_cons ?_; repeat (with_reducible apply And.intro; exact ComAm.sd))
     refine runL_nil ?_
     refine ComAm.pr ?_
     obtain ⟨hs1, hs2, ⟨l2, hI2⟩, hs3⟩ := hD.step hI ⟨by omega, by omega⟩
     generalize stepR cs ps q = R at *
     obtain ⟨xs, ys⟩ := R
     dsimp only at hs1 hs2 hI2 hs3 ⊢
     have hln2 := hI2.lens
     have hm1 := membersL_len cs ps
     have hm2 := membersL_len xs ys
     refine hK _ _ ?_
     clear hK K
     refine Cs.seq ?_
     refine Cs.seq ?_
     refine Cs.reg [3, 4, 6, 7, 8, 11, 71] rfl ?_
     intro K hK
     iterate 7 (refine LgOm.o runL_cons ?_; repeat (with_reducible apply And.intro; exact ComAm.sd))
     refine runL_nil (ComAm.pr (hK _ _ ?_)); clear hK K
     refine Cs.cond _ rfl ?_ ?_
     ·intro h71
      exfalso; simp at h71; omega
     ·intro h71
      
      refine Cs.skip ?_
      refine Cs.seq ?_
      refine Cs.regDraw [3, 4, 6, 7, 8, 11, 13, 14] [0, 2, 1, 3, 4, 5] [[], [0], [], [0, 1, 2], [0, 1, 2, 3], [0, 1, 2, 3, 4]] [[], [], [], [], [], []] [[], [], [], [], [], []] Tryd.mo rfl rfl rfl (by kernel_rfl) (by kernel_rfl) (by kernel_rfl) rfl (by kernel_rfl) ?_
      intro K hK
      iterate 2 (refine LgOm.o (runI_cons _ [] [] rfl rfl rfl) ?_; repeat (with_reducible apply And.intro; exact ComAm.sd))
      refine LgOm.o (runI_cons _ [] [] rfl rfl rfl) ?_
      repeat (with_reducible apply And.intro; exact ComAm.sd)
      refine LgOm.ca (members_spec cs ps cs.length ps.length rfl rfl (by omega) (by omega)) (fun k => k + 2) ?_
      rintro s0 H0 ⟨rfl, rfl⟩ s1 H1 hs1 hH1
      obtain ⟨hs2, hH2⟩ := LgOm.af hs1 hH1
      clear hs1 hH1
      subst hs2 hH2
      repeat (with_reducible apply And.intro; exact ComAm.sd)
      refine LgOm.o (runI_cons _ [] [] rfl rfl rfl) ?_
      repeat (with_reducible apply And.intro; exact ComAm.sd)
      refine LgOm.ca (members_spec xs ys xs.length ys.length rfl rfl (by omega) (by omega)) (fun k => k + 6) ?_
      rintro s0 H0 ⟨rfl, rfl⟩ s1 H1 hs1 hH1
      obtain ⟨hs2, hH2⟩ := LgOm.af hs1 hH1
      clear hs1 hH1
      subst hs2 hH2
      repeat (with_reducible apply And.intro; exact ComAm.sd)
      iterate 2 (refine LgOm.o (runI_cons _ [] [] rfl rfl rfl) ?_; repeat (with_reducible apply And.intro; exact ComAm.sd))
      refine runI_nil (ComAm.pr (hK _ _ ?_)); clear hK K
      refine Cs.seq ?_
      refine Cs.reg [3, 4, 6, 7, 8, 11, 13, 14, 15] rfl ?_
      intro K hK
      iterate 7 (refine LgOm.o runL_cons ?_; repeat (with_reducible apply And.intro; exact ComAm.sd))
      refine runL_nil (ComAm.pr (hK _ _ ?_)); clear hK K
      refine Cs.seq ?_
      refine Cs.reg [3, 4, 6, 7, 8, 11, 13, 14, 15, 16] rfl ?_
      intro K hK
      have hk19 : ∀ B : Bool, B = growB (pr ps q.toNat) (membersL cs ps) (membersL xs ys) → K [(3, .ptr 1 0 0 0), (4, .ptr 4 0 0 0), (6, .slc true 5 0 0 ps0.length), (7, .int .i64 i), (8, .int .i64 q), (11, .ptr 8 0 0 0), (13, .slc true 9 0 0 (membersL cs ps).length), (14, .slc true 10 0 0 (membersL xs ys).length), (15, .ptr 11 0 0 0), (16, .bool B)] ⟨12, [(11, one (.row ⟨true, true, 49, 7, 1, fun _ => (pr ps q.toNat).sv⟩)), (10, ownRow (membersL xs ys)), (9, ownRow (membersL cs ps)), (8, lsOwn 6 xs.length 7 ys.length), (7, ownPr ys), (6, ownCl xs), (1, tapeRow 0 m at4), (5, ownBo ps0.length did), (4, lsOwn 2 cs.length 3 ps.length), (3, ownPr ps), (2, ownCl cs), (0, inRow ls)]⟩ := by
       intro B hB
       refine hK _ _ ?_
       clear hK K
       refine Cs.seq ?_
       refine Cs.reg [3, 4, 6, 7, 8, 11, 13, 14, 16, 17] rfl ?_
       intro K hK
       have hk20 : ∀ C : Bool, C = fallB (pr ps q.toNat) (membersL cs ps) (membersL xs ys) → K [(3, .ptr 1 0 0 0), (4, .ptr 4 0 0 0), (6, .slc true 5 0 0 ps0.length), (7, .int .i64 i), (8, .int .i64 q), (11, .ptr 8 0 0 0), (13, .slc true 9 0 0 (membersL cs ps).length), (14, .slc true 10 0 0 (membersL xs ys).length), (16, .bool B), (17, .bool C)] ⟨12, [(11, one (.row ⟨true, true, 49, 7, 1, fun _ => (pr ps q.toNat).sv⟩)), (10, ownRow (membersL xs ys)), (9, ownRow (membersL cs ps)), (8, lsOwn 6 xs.length 7 ys.length), (7, ownPr ys), (6, ownCl xs), (1, tapeRow 0 m at4), (5, ownBo ps0.length did), (4, lsOwn 2 cs.length 3 ps.length), (3, ownPr ps), (2, ownCl cs), (0, inRow ls)]⟩ := by
        intro C hC
        refine hK _ _ ?_
        clear hK K
        refine Cs.seq ?_
        refine Cs.seq ?_
        refine Cs.reg [3, 4, 6, 7, 8, 11, 16, 17, 140] rfl ?_
        intro K hK
        have hk21 : ∀ D : Bool, D = false → K [(3, .ptr 1 0 0 0), (4, .ptr 4 0 0 0), (6, .slc true 5 0 0 ps0.length), (7, .int .i64 i), (8, .int .i64 q), (11, .ptr 8 0 0 0), (16, .bool B), (17, .bool C), (140, .bool D)] ⟨12, [(11, one (.row ⟨true, true, 49, 7, 1, fun _ => (pr ps q.toNat).sv⟩)), (10, ownRow (membersL xs ys)), (9, ownRow (membersL cs ps)), (8, lsOwn 6 xs.length 7 ys.length), (7, ownPr ys), (6, ownCl xs), (1, tapeRow 0 m at4), (5, ownBo ps0.length did), (4, lsOwn 2 cs.length 3 ps.length), (3, ownPr ps), (2, ownCl cs), (0, inRow ls)]⟩ := by
         intro D hD1
         refine hK _ _ ?_
         clear hK K
         refine Cs.cond _ rfl ?_ ?_
         ·intro h140
          exfalso; rw [hD1] at h140; cases h140
         ·intro h140
          rw [← hB, ← hC] at hs1 hs2
          refine Cs.skip ?_
          refine Cs.seq ?_
          refine Cs.reg [3, 4, 6, 7, 8, 11] rfl ?_
          intro K hK
          iterate 14 (refine LgOm.o runL_cons ?_; repeat (with_reducible apply And.intro; exact ComAm.sd))
          rw [bos_put (by rw [hD.1]; omega)]
          repeat (with_reducible apply And.intro; exact ComAm.sd)
          refine runL_nil (ComAm.pr (hK _ _ ?_)); clear hK K
          refine Cs.seq ?_
          refine Cs.seq ?_
          refine Cs.reg [3, 4, 6, 7, 8, 11, 18] rfl ?_
          intro K hK
          iterate 7 (refine LgOm.o runL_cons ?_; repeat (with_reducible apply And.intro; exact ComAm.sd))
          refine runL_nil (ComAm.pr (hK _ _ ?_)); clear hK K
          refine Cs.seq ?_
          refine Cs.regDraw [3, 4, 6, 7, 11, 185] [0, 1, 2, 3, 4, 5, 6, 7, 8, 9, 10, 11, 12, 13, 14, 15, 16, 17, 18, 19, 20, 21, 22, 23, 24, 25, 26] [[], [0], [0, 1], [0, 1, 2], [0, 1, 2, 3], [0, 1, 2, 3, 4], [0, 1, 2, 3, 4, 5], [0, 1, 2, 3, 4, 5, 6], [0, 1, 2, 3, 4, 5, 6, 7], [0, 1, 2, 3, 4, 5, 6, 7, 8], [0, 1, 2, 3, 4, 5, 6, 7, 8, 9], [0, 1, 2, 3, 4, 5, 6, 7, 8], [0, 1, 2, 3, 4, 5, 6, 7, 8], [0, 1, 2, 3, 4, 5, 6, 7, 8, 11, 12], [0, 1, 2, 3, 4, 5, 6, 7, 8, 11, 12, 13], [0, 1, 2, 3, 4, 5, 6, 7, 8, 9, 10, 11, 12, 13, 14], [0, 1, 2, 3, 4, 5, 6, 7, 8, 9, 10, 11, 12, 13, 14, 15], [0, 1, 2, 3, 4, 5, 6, 7, 8, 9, 10, 11, 12, 13, 14, 15, 16], [0, 1, 2, 3, 4, 5, 6, 7, 8, 9, 10, 11, 12, 13, 14, 15, 16, 17], [0, 1, 2, 3, 4, 5, 6, 7, 8, 9, 10, 11, 12, 13, 14, 15, 16, 17, 18], [0, 1, 2, 3, 4, 5, 6, 7, 8, 9, 10, 11, 12, 13, 14, 15, 16, 17, 18, 19], [0, 1, 2, 3, 4, 5, 6, 7, 8, 9, 10, 11, 12, 13, 14, 15, 16, 17, 18, 19, 20], [0, 1, 2, 3, 4, 5, 6, 7, 8, 9, 10, 11, 12, 13, 14, 15, 16, 17, 18, 19, 20, 21], [0, 1, 2, 3, 4, 5, 6, 7, 8, 9, 10, 11, 12, 13, 14, 15, 16, 17, 18, 19, 20, 21, 22], [0, 1, 2, 3, 4, 5, 6, 7, 8, 9, 10, 11, 12, 13, 14, 15, 16, 17, 18, 19, 20, 21, 22, 23], [0, 1, 2, 3, 4, 5, 6, 7, 8, 9, 10, 11, 12, 13, 14, 15, 16, 17, 18, 19, 20, 21, 22, 23, 24], [0, 1, 2, 3, 4, 5, 6, 7, 8, 9, 10, 11, 12, 13, 14, 15, 16, 17, 18, 19, 20, 21, 22, 23, 24, 25]] [[], [], [], [], [], [], [], [], [], [], [], [], [], [], [], [], [], [], [], [], [], [], [], [], [], [], []] [[], [], [], [], [], [], [], [], [], [], [], [], [], [], [], [], [], [], [], [], [], [], [], [], [], [], []] Tryd.mo rfl rfl rfl (by kernel_rfl) (by kernel_rfl) (by kernel_rfl) rfl (by kernel_rfl) ?_
          intro K hK
          iterate 27 (refine LgOm.o (runI_cons _ [] [] rfl rfl rfl) ?_; repeat (with_reducible apply And.intro; exact ComAm.sd))
          refine runI_nil (ComAm.pr (hK _ _ ?_)); clear hK K
          refine Cs.cond _ rfl ?_ ?_
          ·intro h185
           exfalso
           have h5 := hs2.2 q.toNat (by rw [hs3]; omega)
           simp only [Bool.and_eq_true, beq_iff_eq, bne_iff_ne, Bool.or_eq_true, Bool.not_eq_true'] at h185
           obtain ⟨⟨a1, a2⟩, a3⟩ := h185
           obtain ⟨b1, b2⟩ := h5 a2
           rcases a3 with a3 | ⟨a3, a4⟩
           ·exact a3 b1
           ·rw [b2 a1 a3] at a4; cases a4
          ·intro h185
           
           refine Cs.skip ?_
           refine Cs.reg [3, 4, 6, 7] rfl ?_
           intro K hK
           iterate 2 (refine LgOm.o runL_cons ?_; repeat (with_reducible apply And.intro; exact ComAm.sd))
           refine runL_nil (ComAm.pr (hK _ _ ?_)); clear hK K
           refine Cs.nil ?_
           refine hN1 _ _ ?_
           refine Cs.reg [3, 4, 6, 7] rfl ?_
           intro K hK
           iterate 3 (refine LgOm.o runL_cons ?_; repeat (with_reducible apply And.intro; exact ComAm.sd))
           refine runL_nil (ComAm.pr (hK _ _ ?_)); clear hK K
           refine Cs.nil ?_
           refine hL1 _ _ ?_
           rw [show (i : Int) + 1 = ((i + 1 : Nat) : Int) from by omega]
           refine ⟨((xs, ys), _, at4, i + 1), ⟨⟨⟨⟨l2, hI2⟩, hs2, by dsimp only; omega⟩, e1, by dsimp only; omega⟩, by dsimp only; omega⟩, fun k => if k = 2 then 6 else if k = 3 then 7 else k, (LgOm.g1 (fun k => if k = 2 then 6 else if k = 3 then 7 else k))⟩
        iterate 9 (refine LgOm.o runL_cons ?_; repeat (with_reducible apply And.intro; exact ComAm.sd))
        refine runL_cons ?_
        refine stp_grd rfl rfl ?_
        refine LfCm.gr ?_
        first | refine grd_split ?_ ?_ | refine (fun (h1 : false = true → _) (h2 : false = false → _) => And.intro h1 fun _ => h2 rfl) ?_ ?_
        ·intro hg9
         first
          |(simp at hg9; done)
          |skip
           try replace hg9 := ComAm.nb hg9
           refine LgOm.o id ?_
           repeat (with_reducible apply And.intro; exact ComAm.sd)
           refine LgOm.ca (sameInts_spec (membersL cs ps) (membersL xs ys) _ _ rfl rfl (by omega) (by omega)) (fun k => k + 9) ?_
           rintro s0 H0 ⟨rfl, rfl⟩ s1 H1 hs1 hH1
           obtain ⟨hs2, hH2⟩ := LgOm.af hs1 hH1
           clear hs1 hH1
           subst hs2 hH2
           repeat (with_reducible apply And.intro; exact ComAm.sd)
           (refine LgOm.o runL_cons ?_; repeat (with_reducible apply And.intro; exact ComAm.sd))
           try with_reducible refine And.intro (by clear hk21; simp_all; done) ?_
           repeat (with_reducible apply And.intro; exact ComAm.sd)
           (refine LgOm.o runL_cons ?_; repeat (with_reducible apply And.intro; exact ComAm.sd))
           try with_reducible refine And.intro (by clear hk21; simp_all; done) ?_
           repeat (with_reducible apply And.intro; exact ComAm.sd)
           refine runL_nil ?_
           refine ComAm.pr ?_
           refine hk21 _ ?_
           simp_all
        ·intro hg9
         refine ⟨.bool false, ?_⟩
         first
          |(simp at hg9; done)
          |skip
           try replace hg9 := ComAm.nb hg9
           (refine LgOm.o runL_cons ?_; repeat (with_reducible apply And.intro; exact ComAm.sd))
           try with_reducible refine And.intro (by clear hk21; simp_all; done) ?_
           repeat (with_reducible apply And.intro; exact ComAm.sd)
           (refine LgOm.o runL_cons ?_; repeat (with_reducible apply And.intro; exact ComAm.sd))
           try with_reducible refine And.intro (by clear hk21; simp_all; done) ?_
           repeat (with_reducible apply And.intro; exact ComAm.sd)
           refine runL_nil ?_
           refine ComAm.pr ?_
           refine hk21 _ ?_
           simp_all
       iterate 7 (refine LgOm.o runL_cons ?_; repeat (with_reducible apply And.intro; exact ComAm.sd))
       refine runL_cons ?_
       refine stp_grd rfl rfl ?_
       refine LfCm.gr ?_
       first | refine grd_split ?_ ?_ | refine (fun (h1 : false = true → _) (h2 : false = false → _) => And.intro h1 fun _ => h2 rfl) ?_ ?_
       ·intro hg7
        first
         |(simp at hg7; done)
         |skip
          try replace hg7 := ComAm.nb hg7
          refine LgOm.o id ?_
          repeat (with_reducible apply And.intro; exact ComAm.sd)
          refine LgOm.ca (has_spec (membersL cs ps) (pr ps q.toNat).cell (membersL cs ps).length rfl (by omega)) (fun k => k + 9) ?_
          rintro s0 H0 ⟨rfl, rfl⟩ s1 H1 hs1 hH1
          obtain ⟨hs2, hH2⟩ := LgOm.af hs1 hH1
          clear hs1 hH1
          subst hs2 hH2
          repeat (with_reducible apply And.intro; exact ComAm.sd)
          (refine LgOm.o runL_cons ?_; repeat (with_reducible apply And.intro; exact ComAm.sd))
          try with_reducible refine And.intro (by clear hk20; simp_all; done) ?_
          repeat (with_reducible apply And.intro; exact ComAm.sd)
          iterate 4 (refine LgOm.o runL_cons ?_; repeat (with_reducible apply And.intro; exact ComAm.sd))
          refine runL_cons ?_
          refine stp_grd rfl rfl ?_
          refine LfCm.gr ?_
          first | refine grd_split ?_ ?_ | refine (fun (h1 : false = true → _) (h2 : false = false → _) => And.intro h1 fun _ => h2 rfl) ?_ ?_
          ·intro hg13
           first
            |(simp at hg13; done)
            |skip
             try replace hg13 := ComAm.nb hg13
             refine LgOm.o id ?_
             repeat (with_reducible apply And.intro; exact ComAm.sd)
             refine LgOm.ca (has_spec (membersL xs ys) (pr ps q.toNat).cell (membersL xs ys).length rfl (by omega)) (fun k => k + 10) ?_
             rintro s0 H0 ⟨rfl, rfl⟩ s1 H1 hs1 hH1
             obtain ⟨hs2, hH2⟩ := LgOm.af hs1 hH1
             clear hs1 hH1
             subst hs2 hH2
             repeat (with_reducible apply And.intro; exact ComAm.sd)
             (refine LgOm.o runL_cons ?_; repeat (with_reducible apply And.intro; exact ComAm.sd))
             try with_reducible refine And.intro (by clear hk20; simp_all; done) ?_
             repeat (with_reducible apply And.intro; exact ComAm.sd)
             (refine LgOm.o runL_cons ?_; repeat (with_reducible apply And.intro; exact ComAm.sd))
             try with_reducible refine And.intro (by clear hk20; simp_all; done) ?_
             repeat (with_reducible apply And.intro; exact ComAm.sd)
             iterate 9 (refine LgOm.o runL_cons ?_; repeat (with_reducible apply And.intro; exact ComAm.sd))
             refine runL_nil ?_
             refine ComAm.pr ?_
             refine hk20 _ ?_
             simp_all [fallB]
          ·intro hg13
           refine ⟨.bool false, ?_⟩
           first
            |(simp at hg13; done)
            |skip
             try replace hg13 := ComAm.nb hg13
             (refine LgOm.o runL_cons ?_; repeat (with_reducible apply And.intro; exact ComAm.sd))
             try with_reducible refine And.intro (by clear hk20; simp_all; done) ?_
             repeat (with_reducible apply And.intro; exact ComAm.sd)
             (refine LgOm.o runL_cons ?_; repeat (with_reducible apply And.intro; exact ComAm.sd))
             try with_reducible refine And.intro (by clear hk20; simp_all; done) ?_
             repeat (with_reducible apply And.intro; exact ComAm.sd)
             iterate 9 (refine LgOm.o runL_cons ?_; repeat (with_reducible apply And.intro; exact ComAm.sd))
             refine runL_nil ?_
             refine ComAm.pr ?_
             refine hk20 _ ?_
             simp_all [fallB]
       ·intro hg7
        refine ⟨.bool false, ?_⟩
        first
         |(simp at hg7; done)
         |skip
          try replace hg7 := ComAm.nb hg7
          (refine LgOm.o runL_cons ?_; repeat (with_reducible apply And.intro; exact ComAm.sd))
          try with_reducible refine And.intro (by clear hk20; simp_all; done) ?_
          repeat (with_reducible apply And.intro; exact ComAm.sd)
          iterate 4 (refine LgOm.o runL_cons ?_; repeat (with_reducible apply And.intro; exact ComAm.sd))
          refine runL_cons ?_
          refine stp_grd rfl rfl ?_
          refine LfCm.gr ?_
          first | refine grd_split ?_ ?_ | refine (fun (h1 : false = true → _) (h2 : false = false → _) => And.intro h1 fun _ => h2 rfl) ?_ ?_
          ·intro hg13
           first
            |(simp at hg13; done)
            |skip
             try replace hg13 := ComAm.nb hg13
             refine LgOm.o id ?_
             repeat (with_reducible apply And.intro; exact ComAm.sd)
             refine LgOm.ca (has_spec (membersL xs ys) (pr ps q.toNat).cell (membersL xs ys).length rfl (by omega)) (fun k => k + 10) ?_
             rintro s0 H0 ⟨rfl, rfl⟩ s1 H1 hs1 hH1
             obtain ⟨hs2, hH2⟩ := LgOm.af hs1 hH1
             clear hs1 hH1
             subst hs2 hH2
             repeat (with_reducible apply And.intro; exact ComAm.sd)
             (refine LgOm.o runL_cons ?_; repeat (with_reducible apply And.intro; exact ComAm.sd))
             try with_reducible refine And.intro (by clear hk20; simp_all; done) ?_
             repeat (with_reducible apply And.intro; exact ComAm.sd)
             (refine LgOm.o runL_cons ?_; repeat (with_reducible apply And.intro; exact ComAm.sd))
             try with_reducible refine And.intro (by clear hk20; simp_all; done) ?_
             repeat (with_reducible apply And.intro; exact ComAm.sd)
             iterate 9 (refine LgOm.o runL_cons ?_; repeat (with_reducible apply And.intro; exact ComAm.sd))
             refine runL_nil ?_
             refine ComAm.pr ?_
             refine hk20 _ ?_
             simp_all [fallB]
          ·intro hg13
           refine ⟨.bool false, ?_⟩
           first
            |(simp at hg13; done)
            |skip
             try replace hg13 := ComAm.nb hg13
             (refine LgOm.o runL_cons ?_; repeat (with_reducible apply And.intro; exact ComAm.sd))
             try with_reducible refine And.intro (by clear hk20; simp_all; done) ?_
             repeat (with_reducible apply And.intro; exact ComAm.sd)
             (refine LgOm.o runL_cons ?_; repeat (with_reducible apply And.intro; exact ComAm.sd))
             try with_reducible refine And.intro (by clear hk20; simp_all; done) ?_
             repeat (with_reducible apply And.intro; exact ComAm.sd)
             iterate 9 (refine LgOm.o runL_cons ?_; repeat (with_reducible apply And.intro; exact ComAm.sd))
             refine runL_nil ?_
             refine ComAm.pr ?_
             refine hk20 _ ?_
             simp_all [fallB]
      iterate 7 (refine LgOm.o runL_cons ?_; repeat (with_reducible apply And.intro; exact ComAm.sd))
      refine runL_cons ?_
      refine stp_grd rfl rfl ?_
      refine LfCm.gr ?_
      first | refine grd_split ?_ ?_ | refine (fun (h1 : false = true → _) (h2 : false = false → _) => And.intro h1 fun _ => h2 rfl) ?_ ?_
      ·intro hg7
       first
        |(simp at hg7; done)
        |skip
         try replace hg7 := ComAm.nb hg7
         refine LgOm.o id ?_
         repeat (with_reducible apply And.intro; exact ComAm.sd)
         refine LgOm.ca (has_spec (membersL cs ps) (pr ps q.toNat).cell (membersL cs ps).length rfl (by omega)) (fun k => k + 9) ?_
         rintro s0 H0 ⟨rfl, rfl⟩ s1 H1 hs1 hH1
         obtain ⟨hs2, hH2⟩ := LgOm.af hs1 hH1
         clear hs1 hH1
         subst hs2 hH2
         repeat (with_reducible apply And.intro; exact ComAm.sd)
         (refine LgOm.o runL_cons ?_; repeat (with_reducible apply And.intro; exact ComAm.sd))
         try with_reducible refine And.intro (by clear hk19; simp_all; done) ?_
         repeat (with_reducible apply And.intro; exact ComAm.sd)
         (refine LgOm.o runL_cons ?_; repeat (with_reducible apply And.intro; exact ComAm.sd))
         try with_reducible refine And.intro (by clear hk19; simp_all; done) ?_
         repeat (with_reducible apply And.intro; exact ComAm.sd)
         iterate 4 (refine LgOm.o runL_cons ?_; repeat (with_reducible apply And.intro; exact ComAm.sd))
         refine runL_cons ?_
         refine stp_grd rfl rfl ?_
         refine LfCm.gr ?_
         first | refine grd_split ?_ ?_ | refine (fun (h1 : false = true → _) (h2 : false = false → _) => And.intro h1 fun _ => h2 rfl) ?_ ?_
         ·intro hg14
          first
           |(simp at hg14; done)
           |skip
            try replace hg14 := ComAm.nb hg14
            refine LgOm.o id ?_
            repeat (with_reducible apply And.intro; exact ComAm.sd)
            refine LgOm.ca (has_spec (membersL xs ys) (pr ps q.toNat).cell (membersL xs ys).length rfl (by omega)) (fun k => k + 10) ?_
            rintro s0 H0 ⟨rfl, rfl⟩ s1 H1 hs1 hH1
            obtain ⟨hs2, hH2⟩ := LgOm.af hs1 hH1
            clear hs1 hH1
            subst hs2 hH2
            repeat (with_reducible apply And.intro; exact ComAm.sd)
            (refine LgOm.o runL_cons ?_; repeat (with_reducible apply And.intro; exact ComAm.sd))
            try with_reducible refine And.intro (by clear hk19; simp_all; done) ?_
            repeat (with_reducible apply And.intro; exact ComAm.sd)
            iterate 9 (refine LgOm.o runL_cons ?_; repeat (with_reducible apply And.intro; exact ComAm.sd))
            refine runL_nil ?_
            refine ComAm.pr ?_
            refine hk19 _ ?_
            simp_all [growB]
         ·intro hg14
          refine ⟨.bool false, ?_⟩
          first
           |(simp at hg14; done)
           |skip
            try replace hg14 := ComAm.nb hg14
            (refine LgOm.o runL_cons ?_; repeat (with_reducible apply And.intro; exact ComAm.sd))
            try with_reducible refine And.intro (by clear hk19; simp_all; done) ?_
            repeat (with_reducible apply And.intro; exact ComAm.sd)
            iterate 9 (refine LgOm.o runL_cons ?_; repeat (with_reducible apply And.intro; exact ComAm.sd))
            refine runL_nil ?_
            refine ComAm.pr ?_
            refine hk19 _ ?_
            simp_all [growB]
      ·intro hg7
       refine ⟨.bool false, ?_⟩
       first
        |(simp at hg7; done)
        |skip
         try replace hg7 := ComAm.nb hg7
         (refine LgOm.o runL_cons ?_; repeat (with_reducible apply And.intro; exact ComAm.sd))
         try with_reducible refine And.intro (by clear hk19; simp_all; done) ?_
         repeat (with_reducible apply And.intro; exact ComAm.sd)
         (refine LgOm.o runL_cons ?_; repeat (with_reducible apply And.intro; exact ComAm.sd))
         try with_reducible refine And.intro (by clear hk19; simp_all; done) ?_
         repeat (with_reducible apply And.intro; exact ComAm.sd)
         iterate 4 (refine LgOm.o runL_cons ?_; repeat (with_reducible apply And.intro; exact ComAm.sd))
         refine runL_cons ?_
         refine stp_grd rfl rfl ?_
         refine LfCm.gr ?_
         first | refine grd_split ?_ ?_ | refine (fun (h1 : false = true → _) (h2 : false = false → _) => And.intro h1 fun _ => h2 rfl) ?_ ?_
         ·intro hg14
          first
           |(simp at hg14; done)
           |skip
            try replace hg14 := ComAm.nb hg14
            refine LgOm.o id ?_
            repeat (with_reducible apply And.intro; exact ComAm.sd)
            refine LgOm.ca (has_spec (membersL xs ys) (pr ps q.toNat).cell (membersL xs ys).length rfl (by omega)) (fun k => k + 10) ?_
            rintro s0 H0 ⟨rfl, rfl⟩ s1 H1 hs1 hH1
            obtain ⟨hs2, hH2⟩ := LgOm.af hs1 hH1
            clear hs1 hH1
            subst hs2 hH2
            repeat (with_reducible apply And.intro; exact ComAm.sd)
            (refine LgOm.o runL_cons ?_; repeat (with_reducible apply And.intro; exact ComAm.sd))
            try with_reducible refine And.intro (by clear hk19; simp_all; done) ?_
            repeat (with_reducible apply And.intro; exact ComAm.sd)
            iterate 9 (refine LgOm.o runL_cons ?_; repeat (with_reducible apply And.intro; exact ComAm.sd))
            refine runL_nil ?_
            refine ComAm.pr ?_
            refine hk19 _ ?_
            simp_all [growB]
         ·intro hg14
          refine ⟨.bool false, ?_⟩
          first
           |(simp at hg14; done)
           |skip
            try replace hg14 := ComAm.nb hg14
            (refine LgOm.o runL_cons ?_; repeat (with_reducible apply And.intro; exact ComAm.sd))
            try with_reducible refine And.intro (by clear hk19; simp_all; done) ?_
            repeat (with_reducible apply And.intro; exact ComAm.sd)
            iterate 9 (refine LgOm.o runL_cons ?_; repeat (with_reducible apply And.intro; exact ComAm.sd))
            refine runL_nil ?_
            refine ComAm.pr ?_
            refine hk19 _ ?_
            simp_all [growB]
   ·intro h37
    
    refine Cs.exit ?_
    refine hEL1 _ _ _ ?_
    refine hX0 _ _ ?_
    refine Cs.seq ?_
    refine Cs.reg [2] rfl ?_
    intro K hK
    refine LgOm.o runL_cons ?_
    repeat (with_reducible apply And.intro; exact ComAm.sd)
    refine LgOm.ca (sane_spec) (id) ?_
    rintro s0 H0 ⟨rfl, rfl⟩ s1 H1 hs1 hH1
    obtain ⟨hs2, hH2⟩ := LgOm.af hs1 hH1
    clear hs1 hH1
    subst hs2 hH2
    repeat (with_reducible apply And.intro; exact ComAm.sd)
    (refine LgOm.o runL_cons ?_; repeat (with_reducible apply And.intro; exact ComAm.sd))
    refine runL_nil (ComAm.pr (hK _ _ ?_)); clear hK K
    refine Cs.ret ?_
    refine hQ _ _ ?_
    refine PostF.mk (H' := ⟨1, []⟩) (.inl rfl) ?_
    refine LgAm.ou ?_
    repeat (with_reducible apply And.intro; exact ComAm.sd)
    refine ⟨ComAm.r2, (LgOm.g0 id), LgOm.r3, ?_⟩
    all_goals first | trivial | rfl | exact ⟨rfl, trivial⟩
  iterate 4 (refine LgOm.o runL_cons ?_; repeat (with_reducible apply And.intro; exact ComAm.sd))
  refine runL_cons ?_
  refine stp_grd rfl rfl ?_
  refine LfCm.gr ?_
  first | refine grd_split ?_ ?_ | refine (fun (h1 : false = true → _) (h2 : false = false → _) => And.intro h1 fun _ => h2 rfl) ?_ ?_
  ·intro hg4
   first
    |(simp at hg4; done)
    |skip
     try replace hg4 := ComAm.nb hg4
     refine LgOm.o id ?_
     repeat (with_reducible apply And.intro; exact ComAm.sd)
     refine LgOm.ca (left_spec ls m at2) (fun k => if k = 0 then 1 else 0) ?_
     rintro s0 H0 ⟨⟨b, rfl⟩, rfl⟩ s1 H1 hs1 hH1
     obtain ⟨hs2, hH2⟩ := LgOm.af hs1 hH1
     clear hs1 hH1
     subst hs2 hH2
     repeat (with_reducible apply And.intro; exact ComAm.sd)
     (refine LgOm.o runL_cons ?_; repeat (with_reducible apply And.intro; exact ComAm.sd))
     refine runL_nil ?_
     refine ComAm.pr ?_
     refine hk7 hi _ ?_
     intro hb; simp at hb <;> omega
  ·intro hg4
   refine ⟨.bool false, ?_⟩
   first
    |(simp at hg4; done)
    |skip
     try replace hg4 := ComAm.nb hg4
     (refine LgOm.o runL_cons ?_; repeat (with_reducible apply And.intro; exact ComAm.sd))
     refine runL_nil ?_
     refine ComAm.pr ?_
     refine hk7 hi _ ?_
     intro hb; simp at hb hg4 <;> omega
end Go.Proofs

set_option linter.unusedSimpArgs false
set_option linter.unusedVariables false
set_option maxRecDepth 4000
namespace Go.Proofs.YtbejjmhafofhjaaDoor
open Go.ChangeShapes Go.WideShapes Go.RowKit Go.Sk Go.Proofs
theorem own : ownKnob Tryd.prog.godebug = none := by kernel_rfl
theorem laid : laidOutB Tryd.prog = true := by kernel_rfl
theorem rowed : mapsRowed Tryd.prog = true := by kernel_rfl
theorem fullS : ∀ t e, t < Tryd.prog.types.size → Tryd.prog.underlying t = some (.slice e) → 0 < Tryd.prog.cellsOf e := slices_full_of _ (by kernel_rfl)
theorem uInts : Tryd.prog.underlying 22 = some (.slice 3) := by kernel_rfl
theorem uStr : Tryd.prog.underlying 9 = some .string := by kernel_rfl
theorem uBool : Tryd.prog.underlying 4 = some .bool := by kernel_rfl
theorem fInt : flatB Tryd.prog 3 [.i .i64] = true := by kernel_rfl
theorem gTab : Tryd.prog.globalNamed "skipgraph/skipgraphworld.letters" = some 0 := by kernel_rfl
theorem gTabType : (Tryd.prog.globals[0]?).map (·.type) = some 86 := by kernel_rfl
theorem uTab : Tryd.prog.underlying 86 = some (.array 6 9) := by kernel_rfl
theorem cTab : Tryd.prog.cellsOf 86 = 6 := by kernel_rfl
theorem cStr : Tryd.prog.cellsOf 9 = 1 := by kernel_rfl
theorem oneTab : (List.range Tryd.prog.globals.size).all (fun i => !tabG Tryd.prog i || i == 0) = true := by kernel_rfl
theorem tabs {W : World} (h : laidMetH Tryd.prog [("skipgraph/skipgraphworld.letters", Rows.laid_skipgraph_skipgraphworld_letters)] W) : ∀ i, tabG Tryd.prog i = true → i < W.heap.size ∧ TabAt W i :=
 tabs_of_laid gTab gTabType uTab uStr cStr cTab oneTab h
def toInt : List Value → Int
 |[.int _ z] => z
 |_ => 0
def toInts (rows : List (List Value)) : List Int := rows.map toInt
theorem ints_rows {w : World} {v : Value} {q : Option Sk.Loc} {rows : List (List Value)} (h : RwIn w v q [.i .i64] rows) (i : Nat) (r : List Value) (hr : rows[i]? = some r) : ints (toInts rows) i = r.map svOf := by
 have hok := h.ok r (List.mem_of_getElem? hr)
 rcases r with _ | ⟨v, _ | ⟨v', r⟩⟩
 ·exact hok.elim
 ·obtain ⟨⟨z, rfl, _⟩, _⟩ := hok
  simp only [ints, nth, toInts, List.getD, List.getElem?_map, hr, Option.map_some, Option.getD_some, toInt, List.map_cons, List.map_nil, svOf]
 ·exact hok.2.elim
theorem ints_in {β : Env} {w : World} {v : Value} {q : Option Sk.Loc} {rows : List (List Value)} (h : RwIn w v q [.i .i64] rows) {id : Nat} (hq : β id 0 = q) :
  den β (.slc false id 0 0 (toInts rows).length) v ∧ (Sk.Obj.row ⟨false, false, 3, 1, (toInts rows).length, ints (toInts rows)⟩).holds β w q := by
 have := rows_in h hq 3 (ints (toInts rows)) (ints_rows h)
 simpa [toInts] using this
theorem ints_len {w : World} {v : Value} {q : Option Sk.Loc} {rows : List (List Value)} (h : RwIn w v q [.i .i64] rows) : (toInts rows).length ≤ 9223372036854775807 := by
 have := h.len
 simpa [toInts, maxLen] using this
theorem ints_ltO (m : Nat) (xs : List Int) : (Sk.Obj.row ⟨false, false, 3, 1, xs.length, ints xs⟩).lt m := Sk.Obj.lt_row.2 fun i _ => by simp [ints, SV.ltL, SV.lt]
/-- A world for the witness: the table holds the six letters. -/
noncomputable def laidWorld (os : Os) : World :=
  { World.holding Tryd.prog os ⟨#[], #[], []⟩ with heap := (World.holding Tryd.prog os ⟨#[], #[], []⟩).heap.modify 0 fun
      | .cells _ t frozen => .cells (letters.map Value.string).toArray t frozen
      | o => o }
end Go.Proofs.YtbejjmhafofhjaaDoor

set_option linter.unusedSimpArgs false
set_option linter.unusedVariables false
set_option maxRecDepth 4000
namespace Go.Proofs.YtbejjmhafofhjaaDoor.lockfreeChangesTop
open Go.ChangeShapes Go.WideShapes Go.RowKit Go.Sk Go.Proofs
theorem top (W : World) (v0 : Value) (q0 : Option Sk.Loc) (r0 : List (List Value)) (h0 : RwIn W v0 q0 [.i .i64] r0)
  (htab : ∀ i, tabG Tryd.prog i = true → i < W.heap.size ∧ TabAt W i) : Calls Tryd.prog 5 #[v0] W fun e w' => e = .returned (.bool true) ∧ Below W.heap.size W w' := by
 let β : Env := fun _ _ => q0
 obtain ⟨a0, b0⟩ := ints_in (β := β) (id := 0) h0 rfl
 refine FSpec.top (Ent.of Tryd.func5 (by kernel_rfl) (by kernel_rfl)) (changes_spec (toInts r0) (ints_len h0)) β W [v0] (fun id k o ho => ?_) ⟨v0, [], a0, rfl, rfl⟩ (by simp [SV.ltL, SV.lt]) htab
 obtain ⟨c, F, hf, hk, rfl⟩ := look_find ho
 simp only [Sk.find, inRow, one] at hf
 split at hf
 ·rename_i e; subst e; cases hf
  exact ⟨rfl, by show (0 : Nat) < 1; omega, ints_ltO _ _, b0⟩
 ·cases hf
theorem contract (H : Type) (enc : TypeId × Value → H) (W : World) (base : Nat) (args : Array Value) (ds gs : List (DataW H)) (before : List MemPlace)
  (hval : ∀ (j : Nat) t v, Tryd.f5.params[j]? = some t → args[j]? = some v → Value.okWide Tryd.prog W .any base t v)
  (hW : DataW.Whole enc Tryd.prog Tryd.f5.params.toList Rows.lockfreeChangesSpec.vars false W args.toList ds gs before) (hL : laidMetH Tryd.prog Rows.lockfreeChangesRow.laid W) :
  Calls Tryd.prog 5 args W fun e W' => ∃ v, e = .returned v ∧ Rows.lockfreeChangesSpec.post enc Tryd.prog Tryd.f5 false true false false W args v W' := by
 have hW1 := hW
 obtain ⟨p, q, hA0, hV, rfl, _, _⟩ := hW
 have hA : DataW.TrodAll enc Tryd.prog W 0 (fun _ => true) true Tryd.f5.params.toList args.toList ds p := hA0
 have hval1 : ∀ (j : Nat) t v, Tryd.f5.params[j]? = some t → args[j]? = some v → Value.okWide Tryd.prog W .any base t v := hval
 rw [Tryd.params5] at hA hval1
 obtain ⟨v0, vs0, d0, ds0, p0, q0, ha0, rfl, rfl, h0, r0⟩ := trodAll_cons hA
 obtain ⟨rfl, rfl, rfl⟩ := trodAll_nil r0
 obtain rfl : args = #[v0] := by cases args; simp_all
 obtain ⟨_, _, x0⟩ := rows_open uInts fInt (by simp) (hval1 0 _ v0 rfl rfl) h0
 refine (top W v0 _ _ x0 (tabs hL)).mono fun e W1 ⟨he, hb⟩ => ?_
 subst he
 refine ⟨_, rfl, law_post laid rowed fullS (by decide +kernel) rfl hW1 hb rfl uBool fun ds hd => ?_⟩
 have hd1 : ds.length = 1 := hd
 match ds, hd1 with
 |[_], _ => rfl
theorem laid_met (os : Os) : laidMet Tryd.prog Rows.lockfreeChangesRow.laid ((laidWorld os).forCall (fun _ _ => 0) ⟨#[], #[.slice none 0 0], []⟩).memory :=
 laidMet_of_run' 8 (by kernel_rfl) (by kernel_rfl)
theorem reads (os : Os) {H : Type} (enc : TypeId × Value → H) : ∃ places, DataW.whole enc Tryd.prog ((laidWorld os).forCall (fun _ _ => 0) ⟨#[], #[.slice none 0 0], []⟩).memory Tryd.f5.params.toList Rows.lockfreeChangesSpec.vars false #[Value.slice none 0 0].toList 8 = some ([.nil], [], places) :=
 ⟨[], by kernel_rfl⟩
set_option maxRecDepth 100000 in
theorem lifted (os : Os) (started : os.Started) (H : Type) (enc : TypeId × Value → H) (F : Stop.Interp) :
  ReturnsInHanded {} Tryd.checked os 5 .any ((OpenSpec.ofChange Rows.lockfreeChangesSpec).preRow enc Tryd.prog Tryd.f5 Rows.lockfreeChangesRow.domain false Rows.lockfreeChangesRow.laid) (((OpenSpec.ofChange Rows.lockfreeChangesSpec).at F).post enc Tryd.prog Tryd.f5 false true false false) := by
 obtain ⟨places, hx⟩ := reads os enc
 refine returnsInHanded_of_row (C := Tryd.checked) (s := OpenSpec.ofChange Rows.lockfreeChangesSpec) own started (by kernel_rfl) Tryd.func5
  (witness_row_at (enc := enc) (C := Tryd.checked) false (laidWorld os) #[.slice none 0 0] rfl (by kernel_rfl) (by kernel_rfl) (by kernel_rfl)
   (OpenSpec.preRow_of_cond 8 hx (by kernel_rfl) (fun k hk => by cases hk) (by kernel_rfl) (laid_met os))) ?_
 intro W base args ds gs before hval hW _ _ _ hL _ _
 exact contract H enc W base args ds gs before hval hW hL
theorem said : Rows.LockfreeChangesSaid :=
 OpenClaim.holds_of_cond 5 Tryd.f5 rfl rfl rfl rfl rfl rfl rfl ⟨rfl, rfl, rfl, rfl, rfl⟩ rfl rfl rfl rfl rfl (by kernel_rfl) Tryd.func5 (by kernel_rfl)
  (of_decide_eq_true (by kernel_rfl)) (by unfold Func.isWrapper; first | (rw [if_pos (by decide +kernel)]; kernel_rfl) | (rw [if_neg (by decide +kernel)]; exact ⟨rfl, rfl⟩))
  (fun os started H enc _ F => by rw [OpenClaim.pre_eq_preRow]; exact lifted os started H enc F)
theorem plain (f : FuncId) (fn : Func) (hf : Tryd.pinned.checked.prog.funcNamed "skipgraph/skipgraphlaw12.LockfreeChanges" = some f) (hfn : Tryd.pinned.checked.prog.funcs[f]? = some fn) :
  false = Tryd.pinned.checked.prog.looks [] ∧ ∀ (j : Nat) t, fn.params[j]? = some t → Tryd.pinned.checked.prog.wantsStandIn t = false := by
 obtain rfl : f = 5 := Option.some.inj ((show Tryd.prog.funcNamed "skipgraph/skipgraphlaw12.LockfreeChanges" = some 5 by kernel_rfl).symm.trans hf) |>.symm
 obtain rfl : fn = Tryd.f5 := (Option.some.inj (Tryd.func5.symm.trans hfn)).symm
 refine ⟨by kernel_rfl, fun j t ht => ?_⟩
 rw [Tryd.params5] at ht
 have hm : t ∈ [22] := by simpa using Array.mem_of_getElem? ht
 have hall : ([22].all fun u => !Tryd.prog.wantsStandIn u) = true := by kernel_rfl
 exact (show Tryd.prog.wantsStandIn t = false by simpa using List.all_eq_true.1 hall t hm)
theorem proved : Rows.LockfreeChangesCardSaid :=
 Claim7.holds_tied_plain_at .later [] _ _ _ _ said (fun _ h => by cases h) (by kernel_rfl) (fun _ h => by cases h) lockfreeChanges_row_tie rfl ⟨rfl, rfl⟩ (by kernel_rfl) rfl plain (by kernel_rfl)
end Go.Proofs.YtbejjmhafofhjaaDoor.lockfreeChangesTop
#print axioms Go.Proofs.YtbejjmhafofhjaaDoor.lockfreeChangesTop.proved
