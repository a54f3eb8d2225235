/-
  LockedSerial: for every input the law returns true, and the input reads as before.
  Conditions: those that each statement names.
-/
import Derived.Test.YtdfdidinfaefmaaDoorQmb
import Derived.Test.YtdfdidinfaefmaaDoorChecked
import Derived.Below
import Derived.ChangeSame
import Derived.ChangeSlices
import Derived.ReadAgain
import Derived.OpenShut
import Derived.JoinedOf
import Derived.Handed
import Derived.Deep.Slices
import Derived.Lib.LaidTab
import Derived.Test.YtdfdidinfaefmaaDoorQmd
import Derived.Test.YtdfdidinfaefmaaDoorQme
import Derived.Test.YtdfdidinfaefmaaDoorRows
import Derived.Test.YtdfdidinfaefmaaDoorCards
import Derived.Test.YtdfdidinfaefmaaDoorTie
import Derived.WalkKit
import Derived.ProofKit
import Derived.Deep.DeepHandedRow
set_option linter.unusedSimpArgs false
set_option linter.unusedVariables false
set_option maxRecDepth 4000
namespace Go.Sk
open Go.RowKit
section
variable {X : Cx} {ops : Array Oper} {K : Fr → AH → Prop} {Q : Exit → Act → World → Prop} {Wf Uq : List (List Nat)}
end
variable {X : Cx} {Q : Exit → Fr → AH → Prop} {fr : Fr} {H : AH} {l : List Code}
end Go.Sk

set_option linter.unusedSimpArgs false
set_option linter.unusedVariables false
set_option maxRecDepth 4000
namespace Go.Sk
open Go.RowKit Go.WideShapes Go.ChangeShapes
theorem below_sameAt {w w' : World} (h : Below w.heap.size w w') {p : MemPlace} (hp : p.block < w.heap.size) : w.sameAt w' p := by
 cases p with
 |cell b off => exact World.cell?_of_block (h.block b hp)
 |map b => exact h.block b hp
section
variable {H : Type} {enc : TypeId × Value → H} {P : Program}
theorem trodAll_carry {w w' : World} {base : Nat} {sp : Nat → Bool} {held : Bool} : ∀ {ts : List TypeId} {vs : List Value} {ds : List (DataW H)} {ps : List MemPlace}, DataW.TrodAll enc P w base sp held ts vs ds ps → (∀ p ∈ ps, w.sameAt w' p) →
  DataW.TrodAll enc P w' base sp held ts vs ds ps
 |[], [], [], _, h, _ => h
 |_ :: _, _ :: _, _ :: _, _, ⟨p, q, ⟨n, h1⟩, h2, e⟩, hs =>
  ⟨p, q, ⟨n, DataW.trod_carry n _ _ _ h1 fun x hx => hs x (by rw [e]; exact List.mem_append_left _ hx)⟩, trodAll_carry h2 (fun x hx => hs x (by rw [e]; exact List.mem_append_right _ hx)), e⟩
theorem trodAll_len {w : World} {base : Nat} {sp : Nat → Bool} {held : Bool} : ∀ {ts : List TypeId} {vs : List Value} {ds : List (DataW H)} {ps : List MemPlace}, DataW.TrodAll enc P w base sp held ts vs ds ps → ds.length = ts.length
 |[], [], [], _, _ => rfl
 |_ :: _, _ :: _, _ :: _, _, ⟨_, _, _, h2, _⟩ => by simp [trodAll_len h2]
theorem law_post {f : Func} {s : ChangeSpec} {apart fresh handsOn again : Bool} {W W' : World} {args : Array Value} {ds gs : List (DataW H)} {before : List MemPlace} (hl : laidOutB P = true) (hm : mapsRowed P = true)
  (hz : ∀ t e, t < P.types.size → P.underlying t = some (.slice e) → 0 < P.cellsOf e) (hts : ∀ t ∈ f.params.toList, t < P.types.size) (hv : s.vars = [])
  (hW : DataW.Whole enc P f.params.toList s.vars apart W args.toList ds gs before) (hb : Below W.heap.size W W') {tb : TypeId} (hres : f.resultTypes = #[tb]) (hbool : P.underlying tb = some .bool)
  (hfn : ∀ ds : List (DataW H), ds.length = f.params.toList.length → s.fn H ds = { results := [.lit (.bool true)], args := ds }) : s.post enc P f apart fresh handsOn again W args (.bool true) W' := by
 have hW' := hW;obtain ⟨p, q, hA, hV, rfl, hfz, hnd⟩ := hW;rw [hv] at hV
 have hq : gs = [] ∧ q = [] := by
  cases gs with
  |nil => exact ⟨rfl, hV⟩
  |cons _ _ => exact hV.elim
 obtain ⟨rfl, rfl⟩ := hq;have hfn' := hfn (ds ++ []) (by rw [List.append_nil]; exact trodAll_len hA);have hlt : ∀ x ∈ p, x.block < W.heap.size := DataW.TrodAll.lt hA
 have hargs : ∀ sp : Nat → Bool, (∀ x ∈ p ++ [], sp x.block = true) → DataW.TrodAll enc P W' 0 sp true f.params.toList args.toList ds p := fun sp hsp =>
  trodAll_carry (DataW.TrodAll.respare (kids_rows hl hm) hz hts hA fun x hx => hsp x (List.mem_append_left _ hx)) fun x hx => below_sameAt hb (hlt x hx)
 have hrl : ((Value.bool true).resultList f.resultTypes.size) = [.bool true] := by rw [hres]; rfl
 have hres' : ∀ (b : Nat) (sp : Nat → Bool) (hd : Bool), DataW.TrodAll enc P W' b sp hd f.resultTypes.toList ((Value.bool true).resultList f.resultTypes.size) (s.fn H (ds ++ [])).results [] := fun b sp hd => by
  rw [hrl, hfn', hres];exact trodAll_mk1 (shut_bool hbool true)
 have hvars : ∀ sp : Nat → Bool, DataW.TrodVars enc P W' sp s.vars (s.fn H (ds ++ [])).vars [] := fun sp => by rw [hfn', hv]; rfl
 have hargs' : ∀ sp : Nat → Bool, (∀ x ∈ p ++ [], sp x.block = true) → DataW.TrodAll enc P W' 0 sp true f.params.toList args.toList (s.fn H (ds ++ [])).args p := fun sp hsp => by
  rw [hfn']; simpa using hargs sp hsp
 have hold : ∀ x ∈ p ++ [], (fun b => decide (b < W.heap.size)) x.block = true := fun x hx => by simpa using hlt x (by simpa using hx)
 refine ⟨ds, [], p ++ [], [], p, [], hW', hres' _ _ _, hargs' _ hold, hvars _, World.keptBut_mono (fun x hx => ⟨hx, ?_⟩) (hb.frame (· ∈ p ++ [])), fun _ => ⟨?_, _, _, ([] ++ p) ++ [], ⟨[] ++ p, [], trodAll_append (hargs' _ (fun _ _ => rfl)) (hres' _ _ _), hvars _, rfl, ?_, ?_⟩, ?_⟩⟩
 ·exact .inr (.inl (by simpa using hx))
 ·intro j t r ht hr;rw [hrl] at hr;rw [hres] at ht
  cases j with
  |zero => simp at ht hr; subst ht hr; exact okWide_bool_mk hbool _
  |succ j => simp at hr
 ·intro b off hp;have hin : MemPlace.cell b off ∈ p ++ [] := by simpa using hp
  rw [hb.frozen (hlt _ (by simpa using hin))];exact hfz b off hin
 ·intro ha;simpa using hnd ha
 ·intro x hx _;simpa using hx
end
theorem z1d.top {P : Program} {f : FuncId} {args : List SV} {H0 : AH} (hent : Ent P f) (hF : z1d P f args H0 (fun s _ => s = .bool true)) (β : Env) (w : World) (vs : List Value)
  (hh : ∀ id k o, look H0.os id k = some o → o.own = false ∧ id < H0.nxt ∧ o.lt H0.nxt ∧ o.holds β w (β id k)) (hd : z3x β args vs) (hl : SV.ltL H0.nxt args) (htab : ∀ g, tabG P g = true → g < w.heap.size ∧ TabAt w g) :
  Calls P f vs.toArray w fun e w' => e = .returned (.bool true) ∧ Below w.heap.size w w' := by
 let own0 : Nat → Nat → Prop := fun id k => ∃ o, look H0.os id k = some o ∧ o.own = true
 let X : Cx := { P := P, n := 0, w0 := w, own0 := own0, m0 := H0.nxt, β0 := β }
 have no : ∀ id k o, look H0.os id k = some o → ¬ o.own = true := fun id k o h => by rw [(hh id k o h).1]; simp
 have no0 : ∀ id k, ¬ own0 id k := fun id k ⟨o, h1, h2⟩ => no id k o h1 h2
 have hS : St X β H0 w := {
  os := rfl, tape := rfl, output := rfl, size := Nat.le_refl _, fix := fun _ _ _ => rfl
  holds := fun id k o h => (hh id k o h).2.2.2
  sep := fun id k id' k' o o' L L' h _ ho => absurd ho (no id k o h)
  old := fun _ _ _ => rfl
  mine := fun id k o L h ho => absurd ho (no id k o h)
  keep := fun id k h => absurd h (no0 id k)
  m0 := Nat.le_refl _
  lt := fun id k o h => ⟨(hh id k o h).2.1, (hh id k o h).2.2.1⟩
  tabs := fun g hg => ⟨(htab g hg).1, (htab g hg).2, fun id k _ h _ => absurd h (no0 id k)⟩ }
 refine ((hF X β w vs rfl rfl rfl rfl rfl hS hd hl).calls hent).mono fun e w' ⟨v, he, β', s, H', hs, _, hdv, _, hS'⟩ => ?_;subst hs;simp only [den] at hdv;subst hdv
 exact ⟨he, hS'.os, hS'.tape, hS'.output, hS'.size, fun b hb => hS'.old b hb fun id k o L h ho hβ => by
  rcases hS'.mine id k o L h ho hβ with ⟨_, h1⟩ | ⟨_, h2⟩
  ·exact absurd h1 (no0 id k)
  ·have : w.heap.size ≤ L.blk := h2
   omega⟩
end Go.Sk

set_option linter.unusedSimpArgs false
set_option linter.unusedVariables false
set_option maxRecDepth 4000
namespace Go.Sk
open Go.RowKit Go.WideShapes Go.ChangeShapes
/-- The kinds of one-cell fields. -/
inductive FK where
 |i (k : IntKind) | s | b
def FK.is (P : Program) (t : TypeId) : FK → Bool
 |.i k => match P.underlying t with | some (.int k') => k' == k | _ => false
 |.s => match P.underlying t with | some .string => true | _ => false
 |.b => match P.underlying t with | some .bool => true | _ => false
/-- A value of the kind. -/
def FK.ok : FK → Value → Prop
 |.i k, v => ∃ z, v = .int k z ∧ (Lit.int k z).wf = true
 |.s, v => ∃ x : ByteArray, v = .string x ∧ x.size ≤ maxLen
 |.b, v => ∃ x, v = .bool x
def svOf : Value → SV
 |.int k z => .int k z
 |.string x => .str x
 |.bool x => .bool x
 |v => .raw v
theorem FK.den {β : Env} {k : FK} {v : Value} (h : k.ok v) : den β (svOf v) v ∧ (svOf v).scalar = true ∧ ∀ m, (svOf v).lt m := by
 cases k <;> simp only [FK.ok] at h
 ·obtain ⟨z, rfl, _⟩ := h; exact ⟨rfl, rfl, fun _ => trivial⟩
 ·obtain ⟨z, rfl, _⟩ := h; exact ⟨rfl, rfl, fun _ => trivial⟩
 ·obtain ⟨z, rfl⟩ := h; exact ⟨rfl, rfl, fun _ => trivial⟩
/-- Cells of the kinds. -/
def okRow : List FK → List Value → Prop
 |[], [] => True
 |k :: ks, v :: vs => k.ok v ∧ okRow ks vs
 |_, _ => False
theorem okRow_len : ∀ {ks : List FK} {vs : List Value}, okRow ks vs → vs.length = ks.length
 |[], [], _ => rfl
 |_ :: _, _ :: _, h => by simp [okRow_len h.2]
 |[], _ :: _, h => h.elim
 |_ :: _, [], h => h.elim
theorem okRow_get : ∀ {ks : List FK} {vs : List Value}, okRow ks vs → ∀ (j : Nat) (v : Value), vs[j]? = some v → ∃ k : FK, k.ok v
 |[], [], _, j, v, h => by simp at h
 |k :: _, _ :: _, h, j, v, hj => by
  cases j with
  |zero => simp at hj; subst hj; exact ⟨k, h.1⟩
  |succ j => simp at hj; exact okRow_get h.2 j v hj
 |[], _ :: _, h, _, _, _ => h.elim
 |_ :: _, [], h, _, _, _ => h.elim
def fldsB (P : Program) (fs : Array Field) : Nat → List FK → Bool
 |i, [] => i == fs.size
 |i, k :: ks => (match fs[i]? with | some f => f.offset == i && P.cellsOf f.type == 1 && k.is P f.type | none => false) && fldsB P fs (i + 1) ks
/-- A type of one cell, or a struct of such fields. -/
def flatB (P : Program) (t : TypeId) (ks : List FK) : Bool :=
 P.cellsOf t == ks.length && (match P.underlying t with
  |some (.struct fs) => fldsB P fs 0 ks
  |_ => match ks with | [k] => k.is P t | _ => false)
section
variable {H : Type} {enc : TypeId × Value → H} {P : Program} {w : World} {base : Nat} {sp : Nat → Bool} {held : Bool}
theorem one_open {k : FK} {t : TypeId} {fuel : Nat} {cs : List Value} {x : DataW H × List MemPlace} (hk : k.is P t = true) (h : DataW.trod enc P w base sp held fuel t cs = some x) : ∃ v, cs = [v] ∧ k.ok v := by
 cases k <;> simp only [FK.is] at hk
 ·split at hk
  ·rename_i k' hu;obtain rfl := eq_of_beq hk;obtain ⟨n, rfl, _, hw⟩ := DataW.trod_int hu h;exact ⟨_, rfl, n, rfl, hw⟩
  ·cases hk
 ·split at hk
  ·rename_i hu;obtain ⟨s, rfl, _, hs⟩ := DataW.trod_string hu h;exact ⟨_, rfl, s, rfl, hs⟩
  ·cases hk
 ·split at hk
  ·rename_i hu;obtain ⟨b, rfl, _⟩ := DataW.trod_bool hu h;exact ⟨_, rfl, b, rfl⟩
  ·cases hk
theorem flds_open {fs : Array Field} {n : Nat} {cs : List Value} {xs : List (DataW H × List MemPlace)} (hx : xs.length = fs.size) (hf : ∀ (i : Nat) (f : Field), fs[i]? = some f → DataW.trod enc P w base sp held n f.type ((cs.drop f.offset).take (P.cellsOf f.type)) = xs[i]?) :
  ∀ (ks : List FK) (i : Nat), fldsB P fs i ks = true → i + ks.length = cs.length → okRow ks (cs.drop i)
 |[], i, _, hl => by rw [List.drop_eq_nil_of_le (by simp at hl; omega)]; trivial
 |k :: ks, i, h, hl => by
  simp only [fldsB, Bool.and_eq_true] at h;obtain ⟨h1, h2⟩ := h;simp only [List.length_cons] at hl
  split at h1
  ·rename_i f hfi;simp only [Bool.and_eq_true, beq_iff_eq] at h1;obtain ⟨⟨h3, h4⟩, h5⟩ := h1;have h6 := hf i f hfi;have hi : i < xs.length := by rw [hx]; exact (Array.getElem?_eq_some_iff.1 hfi).1
   rw [h3, h4, List.getElem?_eq_getElem hi] at h6;obtain ⟨v, hv, hok⟩ := one_open h5 h6;rw [List.drop_eq_getElem_cons (by omega), List.take_succ_cons, List.take_zero] at hv;rw [List.drop_eq_getElem_cons (by omega)];have : cs[i] = v := by simpa using hv
   rw [this];exact ⟨hok, flds_open hx hf ks (i + 1) h2 (by omega)⟩
  ·cases h1
theorem flat_open {t : TypeId} {ks : List FK} {fuel : Nat} {cs : List Value} {x : DataW H × List MemPlace} (hb : flatB P t ks = true) (h : DataW.trod enc P w base sp held fuel t cs = some x) : okRow ks cs := by
 simp only [flatB, Bool.and_eq_true, beq_iff_eq] at hb;obtain ⟨hc, hb⟩ := hb
 split at hb
 ·rename_i fs hu;obtain ⟨xs, m, _, _, hl, hxl, hf⟩ := DataW.trod_struct hu h;have := flds_open hxl hf ks 0 hb (by omega);rwa [List.drop_zero] at this
 ·split at hb
  ·rename_i k;obtain ⟨v, rfl, hok⟩ := one_open hb h;exact ⟨hok, trivial⟩
  ·cases hb
/-- A slice of rows that came in. -/
structure RwIn (w : World) (v : Value) (q : Option Loc) (ks : List FK) (rows : List (List Value)) : Prop where
 len : rows.length ≤ maxLen
 ok : ∀ r ∈ rows, okRow ks r
 val : ∃ a c, v = .slice a rows.length c ∧ rows.length ≤ c ∧ (0 < rows.length → ∃ L, q = some L ∧ a = some ⟨L.blk, L.off, none⟩)
 mem : (rows.length = 0 ∧ q = none) ∨ ∃ L, q = some L ∧ L.sz = ks.length ∧ L.blk < w.heap.size ∧ ∀ (i : Nat) (r : List Value), rows[i]? = some r → ∀ (j : Nat) (u : Value), r[j]? = some u → w.cell? ⟨L.blk, L.off + i * ks.length + j, none⟩ = some u
theorem rows_open {t e : TypeId} {ks : List FK} {v : Value} {d : DataW H} {p : List MemPlace} (ht : P.underlying t = some (.slice e)) (hb : flatB P e ks = true) (hk0 : 0 < ks.length) {b0 : Nat}
  (hval : Value.okWide P w .any b0 t v) (h : DataW.Trod enc P w base sp held t v d p) : ∃ q rows, RwIn w v q ks rows := by
 obtain ⟨n, hn⟩ := h;obtain ⟨a0, l0, c0, rfl⟩ := okWide_slice ht hval;have hce : P.cellsOf e = ks.length := by simp only [flatB, Bool.and_eq_true, beq_iff_eq] at hb; exact hb.1
 have hcs : (Value.slice a0 l0 c0).cells.toList = [Value.slice a0 l0 c0] := rfl;rw [hcs] at hn;rcases Deep.open_slice ht hn with ⟨hv, _⟩ | ⟨a, len, cap, m, n', D, Pl, hv, hbb, hlc, hcm, hmm, _, hel⟩
 ·cases hv
  exact ⟨none, [], ⟨by simp, by simp, ⟨none, 0, rfl, by simp, by simp⟩, .inl ⟨rfl, rfl⟩⟩⟩
 ·cases hv
  have hml : l0 ≤ m := by rw [hmm]; split <;> omega
  obtain ⟨R, hR⟩ := Deep.choose_lt (α := List Value) (p := fun i cs => w.cells? base (a.add (i * P.cellsOf e)) (P.cellsOf e) = some cs ∧ DataW.trod enc P w base sp held n' e cs = some (D i, Pl i)) hel;have hrl : ((List.range l0).map R).length = l0 := by simp
  have hget : ∀ i r, ((List.range l0).map R)[i]? = some r → i < l0 ∧ r = R i := fun i r h => by
   simp only [List.getElem?_map, Option.map_eq_some_iff] at h;obtain ⟨k, h1, h2⟩ := h
   have hi : i < l0 := by
    rcases Nat.lt_or_ge i l0 with h | h
    ·exact h
    ·rw [List.getElem?_eq_none (by simpa using h)] at h1; cases h1
   rw [List.getElem?_range hi] at h1
   cases h1
   exact ⟨hi, h2.symm⟩
  have hok : ∀ i, i < m → okRow ks (R i) := fun i hi => flat_open hb (hR i hi).2
  have hrow : ∀ r ∈ (List.range l0).map R, okRow ks r := fun r hr => by
   obtain ⟨i, hi, rfl⟩ := List.mem_map.1 hr;exact hok i (by have := List.mem_range.1 hi; omega)
  by_cases h0 : l0 = 0
  ·subst h0;exact ⟨none, [], ⟨by simp, by simp, ⟨some a, c0, rfl, by simp, by simp⟩, .inl ⟨rfl, rfl⟩⟩⟩
  ·have hcell : ∀ i, i < l0 → ∀ (j : Nat) (u : Value), (R i)[j]? = some u → w.cell? ((a.add (i * ks.length)).add j) = some u := fun i hi j u hj => by
    obtain ⟨h1, h2⟩ := hR i (by omega);obtain ⟨_, hlen, hc⟩ := World.cells?_some h1;have hjl : j < P.cellsOf e := by rw [← hlen]; exact (List.getElem?_eq_some_iff.1 hj).1
    rw [← hce, hc j hjl];exact hj
   have hr0 : ∃ u, (R 0)[0]? = some u := by
    have := okRow_len (hok 0 (by omega));exact ⟨_, List.getElem?_eq_getElem (by omega)⟩
   obtain ⟨u0, hu0⟩ := hr0;have hc0 := hcell 0 (by omega) 0 u0 hu0;have hsp : a.spot = none := World.cell?_spot (by unfold Addr.add at hc0; simpa using hc0);obtain ⟨b, o, s0⟩ := a;simp only at hsp;subst hsp
   have hblk : b < w.heap.size := by
    rw [z65, z65] at hc0;unfold World.cell? at hc0;rcases Nat.lt_or_ge b w.heap.size with h | h
    ·exact h
    ·simp [Array.getElem?_eq_none h] at hc0
   refine ⟨some ⟨b, o, ks.length, 0⟩, (List.range l0).map R, ⟨by omega, hrow, ⟨some ⟨b, o, none⟩, c0, by rw [hrl], by omega, fun _ => ⟨_, rfl, rfl⟩⟩, .inr ⟨_, rfl, rfl, hblk, fun i r hr j u hj => ?_⟩⟩⟩;obtain ⟨hi, rfl⟩ := hget i r hr;have := hcell i hi j u hj;rw [z65, z65] at this;exact this
end
/-- The rows as the walk's names have them. -/
theorem rows_in {β : Env} {w : World} {v : Value} {q : Option Loc} {ks : List FK} {rows : List (List Value)} (h : RwIn w v q ks rows) {id : Nat} (hq : β id 0 = q) (e : TypeId) (f : Nat → List SV) (hf : ∀ (i : Nat) (r : List Value), rows[i]? = some r → f i = r.map svOf) :
  den β (.slc false id 0 0 rows.length) v ∧ (Obj.row ⟨false, false, e, ks.length, rows.length, f⟩).holds β w q := by
 obtain ⟨_, hok, ⟨a, c, rfl, hc, hp⟩, hm⟩ := h;refine ⟨?_, ?_⟩
 ·simp only [den, slcDen, Bool.false_eq_true, if_false];refine ⟨a, c, rfl, hc, fun h => ?_⟩;obtain ⟨L, h1, h2⟩ := hp h;exact ⟨L, hq.trans h1, by rw [h2]; simp⟩
 ·rcases hm with hm | ⟨L, h1, h2, h3, h4⟩
  ·exact .inl hm
  ·refine .inr ⟨L, h1, h2, h3, fun i hi => ?_, fun h => by cases h⟩;have hi' : i < rows.length := hi;have hr := List.getElem?_eq_getElem hi';have hfi := hf i _ hr;have hoki := hok _ (List.getElem_mem hi')
   show (f i).length = ks.length ∧ ∀ (j : Nat) (s : SV), (f i)[j]? = some s → _
   rw [hfi];refine ⟨by rw [List.length_map]; exact okRow_len hoki, fun j s hs => ?_⟩;rw [List.getElem?_map, Option.map_eq_some_iff] at hs;obtain ⟨u, hu, rfl⟩ := hs;obtain ⟨k, hk⟩ := okRow_get hoki j u hu;obtain ⟨g1, g2, _⟩ := FK.den (β := β) hk;refine ⟨g2, u, ?_, g1⟩;rw [h2];exact h4 i _ hr j u hu
def strData {H : Type} (ss : List ByteArray) : DataW H := .agg (ss.map fun s => .lit (.string s.data.toList))
theorem cells_of_strs {H : Type} {enc : TypeId × Value → H} {P : Program} {w : World} {base : Nat} {sp : Nat → Bool} {held : Bool} {fuel : Nat} {t e : TypeId} {n : Nat} {cs : List Value} {ss : List ByteArray} {p : List MemPlace}
  (ht : P.underlying t = some (.array n e)) (he : P.underlying e = some .string) (hce : P.cellsOf e = 1) (hct : P.cellsOf t = n)
  (h : DataW.trod enc P w base sp held fuel t cs = some (strData ss, p)) : cs = ss.map Value.string := by
 cases fuel with
 |zero => simp [DataW.trod] at h
 |succ fuel =>
  simp only [DataW.trod, ht, hce, hct, Nat.mul_one] at h
  split at h
  ·rename_i hl;obtain ⟨xs, hm, hx⟩ := Option.map_eq_some_iff.1 h
   have hxs : xs.map (·.1) = ss.map fun s => (DataW.lit (.string s.data.toList) : DataW H) := by
    have := congrArg Prod.fst hx;simpa [strData] using this
   have hxl : xs.length = n := by simpa using Lib.mapM_length hm
   have hzl : ss.length = n := by
    have := congrArg List.length hxs;simp at this;omega
   apply List.ext_getElem?;intro i
   by_cases hi : i < n
   ·obtain ⟨b, hb, hf⟩ := Lib.mapM_at hm i i (by simp [hi]);obtain ⟨z, hc, rfl, _⟩ := DataW.trod_string he hf
    have h1 : cs[i]? = some (.string z) := by
     have := congrArg (·[0]?) hc;simpa [List.getElem?_take, List.getElem?_drop] using this
    have h2 : (xs.map (·.1))[i]? = some (DataW.lit (.string z.data.toList) : DataW H) := by simp [hb]
    rw [hxs] at h2;simp only [List.getElem?_map, Option.map_eq_some_iff, DataW.lit.injEq, Lit.string.injEq] at h2;obtain ⟨z', hz', he'⟩ := h2
    have : z' = z := by
     cases z' with
     |mk a => cases z with
      |mk b => congr 1; exact Array.toList_inj.1 he'
    subst this;simp [h1, hz']
   ·rw [List.getElem?_eq_none (by omega), List.getElem?_eq_none (by simp; omega)]
  ·cases h
/-- The one table is the one that the row lists. -/
theorem tabs_of_laid {P : Program} {W : World} {name : String} {g : Nat} {t e : TypeId} (hg : P.globalNamed name = some g) (hty : (P.globals[g]?).map (·.type) = some t) (ht : P.underlying t = some (.array 6 e)) (he : P.underlying e = some .string) (hce : P.cellsOf e = 1) (hct : P.cellsOf t = 6)
  (hone : (List.range P.globals.size).all (fun i => !tabG P i || i == g) = true) (h : laidMet P [(name, strData letters)] W) : ∀ i, tabG P i = true → i < W.heap.size ∧ TabAt W i := by
 obtain ⟨ps, ⟨g', t', cs, fuel, p, q, hg', ht', hvar, hd, _, _⟩, _⟩ := h;obtain rfl := Option.some.inj (hg.symm.trans hg');obtain rfl := Option.some.inj (hty.symm.trans ht');have hcs := cells_of_strs ht he hce hct hd;intro i hi
 have hlt : i < P.globals.size := by
  rcases Nat.lt_or_ge i P.globals.size with h | h
  ·exact h
  ·unfold tabG at hi; rw [Array.getElem?_eq_none h] at hi; cases hi
 have h1 := List.all_eq_true.1 hone i (List.mem_range.2 hlt);rw [hi] at h1;have : i = g := by simpa using h1
 subst this
 have hat : TabAt W i := fun j s hj => by
  have := World.var?_cell hg hvar j;rw [this, ← Array.getElem?_toList, hcs, List.getElem?_map, hj]
  rfl
 refine ⟨?_, hat⟩;have h0 := hat 0 _ (show letters[0]? = some _ from rfl);unfold World.cell? at h0;rcases Nat.lt_or_ge i W.heap.size with h | h
 ·exact h
 ·simp [Array.getElem?_eq_none h] at h0
end Go.Sk

set_option linter.unusedSimpArgs false
set_option linter.unusedVariables false
set_option maxRecDepth 4000
namespace Go.Sk
open Go.RowKit Go.WideShapes Go.ChangeShapes
section
variable {H : Type} {enc : TypeId × Value → H} {P : Program} {w : World} {base : Nat} {sp : Nat → Bool} {held : Bool}
end
end Go.Sk

set_option linter.unusedSimpArgs false
set_option linter.unusedVariables false
set_option maxRecDepth 4000
namespace Go.Sk
open Go.RowKit
variable {X : Cx} {Q : Exit → Fr → AH → Prop} {fr : Fr} {H : AH} {l : List Code}
theorem Cs.regG {c : Code} {id : Nat} {ops : List Oper} (keep : List Nat) (hd : dstOk X.n ops = true)
  (h : ∀ K : Fr → AH → Prop, (∀ fr H, Cs X (c :: l) Q fr H → K fr H) → (∀ fr H F G ρ, z22 X ρ fr H F G → K F G → K fr H) → runL X.P X.wrap X.m0 ops.toArray ops fr H (fun fr H => K (prune keep fr) H)) : Cs X (.region id ops.toArray false :: c :: l) Q fr H :=
 Cw.reg keep hd (h (fun fr H => Cs X (c :: l) Q fr H) (fun _ _ h => h) (fun _ _ _ _ _ hg hk => Cs.give _ hg hk))
/-- A guarded test gets a name. -/
theorem absG {P : Program} {wr : Bool} {m0 : Nat} {ops : Array Oper} {l : List Oper} {t : Nat} {g z : Bool} {fr : Fr} {H : AH} {K : Fr → AH → Prop} (h : ∀ b, z = b → runL P wr m0 ops l ((t, .gd g (.bool b)) :: fr) H K) : runL P wr m0 ops l ((t, .gd g (.bool z)) :: fr) H K := h z rfl
end Go.Sk

set_option linter.unusedSimpArgs false
set_option linter.unusedVariables false
set_option maxRecDepth 4000
namespace Go.Proofs
open Go.Sk
theorem hasB_false {xs : List Int} {v : Int} : hasB xs v = false ↔ v ∉ xs := by
 rw [← hasB_iff]; cases hasB xs v <;> simp
/-- From a cell over Rights to a cell. -/
inductive Rea (cs : List Cl) : Int → Int → Prop
 |refl (c : Int) : Rea cs c c
 |step (a c : Int) (h0 : 0 ≤ a) (h1 : a ≠ 1) (h2 : z1n cs a (rt cs a) = true) (h : Rea cs (rt cs a) c) : Rea cs a c
theorem Rea.le {cs : List Cl} {a c : Int} (h : Rea cs a c) : a = c ∨ z1n cs a c = true := by
 induction h with
 |refl => exact .inl rfl
 |step a c h0 h1 h2 _ ih =>
  rcases ih with e | e
  ·exact .inr (e ▸ h2)
  ·exact .inr (z2g h2 e)
theorem Rea.next {cs : List Cl} {a c : Int} (h : Rea cs a c) (hne : a ≠ c) : 0 ≤ a ∧ a ≠ 1 ∧ z1n cs a (rt cs a) = true ∧ Rea cs (rt cs a) c := by
 cases h with
 |refl => exact absurd rfl hne
 |step _ _ h0 h1 h2 h => exact ⟨h0, h1, h2, h⟩
/-- A change of Rights: if from each cell on the way one still comes to the end. -/
theorem Rea.chg {cs ds : List Cl} {a c : Int} (h : Rea cs a c) (H : ∀ i, i ≠ c → Rea cs i c → Rea ds (rt cs i) c → Rea ds i c) : Rea ds a c := by
 induction h with
 |refl => exact .refl _
 |step a c h0 h1 h2 h3 ih =>
  by_cases e : a = c
  ·subst e; exact .refl _
  ·exact H a e (.step a c h0 h1 h2 h3) (ih H)
theorem Core.reach {cs : List Cl} {l : List Int} (h : Core cs l) {c : Int} (hc : c ∈ 0 :: l) : ∀ (k : Nat) {a : Int}, a ∈ 0 :: l → (a = c ∨ z1n cs a c = true) → meas cs a < k → Rea cs a c
 |k + 1, a, ha, hac, hk => by
  rcases hac with e | e
  ·subst e; exact .refl _
  ·have h1 : a ≠ 1 := (z21.1 e).2.1;obtain ⟨g1, g2⟩ := h.next_mem ha h1;refine .step a c (h.rng0 ha).1 h1 g2 (h.reach hc k (List.mem_cons_of_mem _ g1) ?_ (by have := meas_lt (h.rng _ g1) g2; omega));rcases h.above ha h1 hc with f | f | f | f
   ·exact absurd f.symm (z4h e)
   ·have := less_asym e; rw [f] at this; cases this
   ·exact .inl f.symm
   ·exact .inr f
/-- From the head's neighbour one comes to each member. -/
theorem Core.fromHead {cs : List Cl} {l : List Int} (h : Core cs l) {c : Int} (h2 : 2 ≤ c) (hn : c < cs.length) (hg : gn cs c = false) : Rea cs (rt cs 0) c := by
 have hc := h.inl c h2 hn hg;have h0 : (0 : Int) ∈ 0 :: l := List.mem_cons_self ..;have hl : z1n cs 0 c = true := z21.2 ⟨by omega, by omega, by omega, .inl rfl⟩;exact ((h.reach (List.mem_cons_of_mem _ hc) _ h0 (.inr hl) (Nat.lt_succ_self _)).next (by omega)).2.2.2
/-- A step, and the way to a cell that is a member behind it. -/
theorem Inv.rea {cs ds : List Cl} {ps : List Pr} {l l' : List Int} {y : Pr} (h : Inv cs ps l) {p : Nat} (hp : p < ps.length) (ha : z43 (pr ps p) = true) (t : Tr cs p (pr ps p) ds y) (h' : Core ds l') {a c : Int} (h2 : 2 ≤ c) (hn : c < cs.length) (hg : gn ds c = false) (hr : Rea cs a c) : Rea ds a c := by
 have hv := z4k h.vb;have hx := h.prc p hp ha;have ok := hv.proc p hp;have hB := h.beside p hp ha;have hk := (h.marks hp ha t).1;have hcl : c ∈ 0 :: l' := h'.live (by omega) (by rw [hk.len]; exact hn) hg
 have same : ∀ i, i ≠ c → Rea cs i c → rt ds i = rt cs i → Rea ds (rt cs i) c → Rea ds i c := fun i hne g e ih => by
  obtain ⟨f0, f1, f2, f3⟩ := g.next hne;exact .step _ _ f0 f1 (by rw [hk.less, e]; exact f2) (by rw [e]; exact ih)
 have all : (∀ i : Int, 0 ≤ i → rt ds i = rt cs i) → Rea ds a c := fun e => hr.chg fun i hne g ih => same i hne g (e i (g.next hne).1) ih
 cases t with
 |adv e hl => exact all fun _ _ => rfl
 |seek e hl hk => exact all fun _ _ => rfl
 |aim e hl hk => exact all fun _ _ => rfl
 |lockP e hf => exact all fun i hi => rt_setK ok.pred hi
 |lockS e hf => exact all fun i hi => rt_setK ok.succ hi
 |found e hk => exact all fun _ _ => rfl
 |again e hk hb => exact all fun _ _ => rfl
 |ins e hk hb hs => exact all fun _ _ => rfl
 |rem e hk hb hs => exact all fun _ _ => rfl
 |no e hk hb c1 c2 => exact all fun _ _ => rfl
 |retry e => exact all fun i _ => rt_unlk ..
 |rel e => exact all fun i _ => rt_unlk ..
 |lockN e hf => exact all fun i hi => rt_setK (rt_in hv ok.cell.1 ok.cell.2) hi
 |link2 e => exact all fun i hi => z3g ok.succ hi
 |un2 e => exact all fun i hi => z3g ok.next hi
 |un0 e => exact all fun i hi => z6c ok.cell hi
 |link0 e =>
  obtain ⟨k1, hcs, hgs, hrp⟩ := hx.i67 (.inl e);have hkF := z5j cs (pr ps p).cell (pr ps p).pred;have hrF : 0 ≤ (pr ps p).cell ∧ (pr ps p).cell < (z59 cs (pr ps p).cell (pr ps p).pred).length := by rw [hkF.len]; exact ok.cell
  have hrt : ∀ i : Int, 0 ≤ i → rt (z1w (z59 cs (pr ps p).cell (pr ps p).pred) (pr ps p).cell (pr ps p).succ) i = if i = (pr ps p).cell then (pr ps p).succ else rt cs i := fun i hi => by rw [rt_setR hrF hi, z3g ok.cell hi]
  have hgn : ∀ i : Int, 0 ≤ i → gn (z1w (z59 cs (pr ps p).cell (pr ps p).pred) (pr ps p).cell (pr ps p).succ) i = gn cs i := fun i hi => by rw [gn_setR hrF hi, z57 ok.cell hi]
  refine hr.chg fun i hne g ih => ?_
  by_cases ei : i = (pr ps p).cell
  ·subst ei
   have hlc : z1n cs (pr ps p).cell c = true := by
    rcases g.le with f | f
    ·exact absurd f hne
    ·exact f
   have hsm : (pr ps p).succ ∈ 0 :: l' := h'.live ok.succ.1 (by rw [hk.len]; exact ok.succ.2) (by rw [hgn _ ok.succ.1]; exact hgs);have hc0 : c ∈ 0 :: l := h.core.live (by omega) hn (by rw [← hgn c (by omega)]; exact hg);have hpm := hB.pm (by omega) (by omega)
   have hsc : (pr ps p).succ = c ∨ z1n cs (pr ps p).succ c = true := by
    rcases h.core.above hpm (z21.1 hx.pl).2.1 hc0 with f | f | f | f
    ·have := z2g hx.pl hlc; rw [f, lessC_irr] at this; cases this
    ·have := less_asym f; rw [z2g hx.pl hlc] at this; cases this
    ·exact .inl (hrp.symm.trans f.symm)
    ·exact .inr (hrp ▸ f)
   have e1 := hrt _ ok.cell.1;rw [if_pos rfl] at e1;refine .step _ _ ok.cell.1 (by have := hx.c2; omega) (by rw [hk.less, e1]; exact hcs) ?_;rw [e1];exact h'.reach hcl _ hsm (hsc.imp id fun f => by rw [hk.less]; exact f) (Nat.lt_succ_self _)
  ·exact same i hne g (by rw [hrt i (g.next hne).1, if_neg ei]) ih
 |link1 e =>
  obtain ⟨k1, hcs, hgs, hrp⟩ := hx.i67 (.inr e);obtain ⟨hrc, hlc⟩ := hx.i7 e;have hkR := z4t cs (pr ps p).pred (pr ps p).cell;have hcR : 0 ≤ (pr ps p).cell ∧ (pr ps p).cell < (z1w cs (pr ps p).pred (pr ps p).cell).length := by rw [hkR.len]; exact ok.cell
  have hrt : ∀ i : Int, 0 ≤ i → rt (setU (z1w cs (pr ps p).pred (pr ps p).cell) (pr ps p).cell) i = if i = (pr ps p).pred then (pr ps p).cell else rt cs i := fun i hi => by rw [rt_setU hcR hi, rt_setR ok.pred hi]
  refine hr.chg fun i hne g ih => ?_
  by_cases ei : i = (pr ps p).pred
  ·subst ei;have e1 := hrt _ ok.pred.1;rw [if_pos rfl] at e1;have e2 := hrt _ ok.cell.1;rw [if_neg (z4h hx.pl).symm, hrc] at e2;rw [hrp] at ih;refine .step _ _ ok.pred.1 (z21.1 hx.pl).2.1 (by rw [hk.less, e1]; exact hx.pl) ?_;rw [e1];refine .step _ _ ok.cell.1 (by have := hx.c2; omega) (by rw [hk.less, e2]; exact hcs) ?_;rw [e2]; exact ih
  ·exact same i hne g (by rw [hrt i (g.next hne).1, if_neg ei]) ih
 |un1 e =>
  obtain ⟨k2, hsc, hrp⟩ := hx.r9 (.inr (.inr e));obtain ⟨hnr, hgn, hcl2⟩ := hx.r10 (.inr e);have hgc := hx.r11 e;have hrt : ∀ i : Int, 0 ≤ i → rt (z1w cs (pr ps p).pred (pr ps p).next) i = if i = (pr ps p).pred then (pr ps p).next else rt cs i := fun i hi => rt_setR ok.pred hi;refine hr.chg fun i hne g ih => ?_
  by_cases ei : i = (pr ps p).pred
  ·subst ei;have e1 := hrt _ ok.pred.1;rw [if_pos rfl] at e1;rw [hrp] at ih
   have hcne : (pr ps p).cell ≠ c := fun f => by
    subst f;rw [gn_setR ok.pred ok.cell.1, hgc] at hg; cases hg
   obtain ⟨f0, f1, f2, f3⟩ := ih.next hcne;rw [hrt _ ok.cell.1, if_neg (z4h hx.pl).symm, ← hnr] at f2 f3;refine .step _ _ ok.pred.1 (z21.1 hx.pl).2.1 (by rw [hk.less, e1]; exact z2g hx.pl hcl2) ?_;rw [e1]; exact f3
  ·exact same i hne g (by rw [hrt i (g.next hne).1, if_neg ei]) ih
/-- What is known of a process: w, m: at some moment since its start the cell was a member, was none. -/
structure MJ (cs : List Cl) (x : Pr) (w m : Bool) : Prop where
 a1 : x.phase = 1 → m = false → Rea cs x.succ x.cell
 b1 : x.phase = 4 → x.kind = 3 → m = false → x.succ = x.cell
 a2 : x.phase = 18 → x.kind = 3 → (x.res = true → w = true) ∧ (x.res = false → m = true)
 a3 : x.phase = 18 → x.kind = 1 → x.res = false → w = true
 a4 : x.phase = 18 → x.kind = 2 → x.res = false → m = true
 a5 : x.phase = 13 → x.kind = 1 → x.res = false → w = true
 a6 : x.phase = 13 → x.kind = 2 → x.res = false → m = true
theorem MJ.mono {cs ds : List Cl} {x : Pr} {w m w' m' : Bool} (h : MJ cs x w m) (hr : x.phase = 1 → m' = false → Rea cs x.succ x.cell → Rea ds x.succ x.cell) (hw : w = true → w' = true) (hm : m = true → m' = true) : MJ ds x w' m' := by
 have hm' : m' = false → m = false := fun e => by cases m with | false => rfl | true => rw [hm rfl] at e; cases e
 exact ⟨fun a b => hr a b (h.a1 a (hm' b)), fun a b c => h.b1 a b (hm' c), fun a b => ⟨fun c => hw ((h.a2 a b).1 c), fun c => hm ((h.a2 a b).2 c)⟩, fun a b c => hw (h.a3 a b c), fun a b c => hm (h.a4 a b c), fun a b c => hw (h.a5 a b c), fun a b c => hm (h.a6 a b c)⟩
theorem MJ.dull {cs : List Cl} {x : Pr} {w m : Bool} (h1 : x.phase ≠ 1) (h4 : x.phase = 4 → x.kind ≠ 3) (h13 : x.phase ≠ 13) (h18 : x.phase ≠ 18) : MJ cs x w m :=
 ⟨fun e => absurd e h1, fun e e2 => absurd e2 (h4 e), fun e => absurd e h18, fun e => absurd e h18, fun e => absurd e h18, fun e => absurd e h13, fun e => absurd e h13⟩
/-- Which processes are looked at behind a call for process q. -/
def cQ (ps : List Pr) (q : Int) (j : Nat) : Bool := z43 (pr ps j) || (j : Int) == q
/-- What is so of a process before it is looked at. -/
def PreJ (cs : List Cl) (ps : List Pr) (mem : List Int) (q : Int) (j : Nat) (w m : Bool) : Prop :=
 MJ cs (pr ps j) (w || (cQ ps q j && hasB mem (pr ps j).cell)) (m || (cQ ps q j && !hasB mem (pr ps j).cell))
theorem stepR_idle {cs : List Cl} {ps : List Pr} {q : Int} (hv : z2x cs ps = true) (h : z30 cs ps q = false) : z38 cs ps q = (cs, ps) := by
 rw [z30, hv, Bool.true_and] at h;rw [z38, hv, h]; rfl
theorem mem_has {cs : List Cl} {ps : List Pr} (hv : z2x cs ps = true) {c : Int} (h2 : 2 ≤ c) (hn : c < cs.length) : hasB (z12 cs ps) c = !gn cs c := by
 cases hg : gn cs c with
 |false => exact hasB_iff.2 ((membersK_mem hv).2 ⟨h2, hn, hg⟩)
 |true => exact hasB_false.2 fun h => by have := ((membersK_mem hv).1 h).2.2; rw [hg] at this; cases this
theorem PreJ.step {cs : List Cl} {ps : List Pr} {l : List Int} {q : Int} {W M : List Bool} (h : Inv cs ps l) (hm : ∀ j, j < ps.length → MJ cs (pr ps j) (bAt W j) (bAt M j)) :
  (∃ l', Inv (z38 cs ps q).1 (z38 cs ps q).2 l') ∧ (z38 cs ps q).2.length = ps.length ∧ ∀ j, j < ps.length → PreJ (z38 cs ps q).1 (z38 cs ps q).2 (z12 (z38 cs ps q).1 (z38 cs ps q).2) q j (bAt W j) (bAt M j) := by
 cases hok : z30 cs ps q with
 |false =>
  rw [stepR_idle h.vb hok];refine ⟨⟨l, h⟩, rfl, fun j hj => (hm j hj).mono (fun _ _ g => g) (fun e => by rw [e]; rfl) fun e => by rw [e]; rfl⟩
 |true =>
  obtain ⟨hq, hqn, ha, hT, hr, l', hI⟩ := h.act_step hok;have hMq := hm _ hqn;have hv := z4k h.vb;have hP := h.prc _ hqn ha;have hO := hv.proc _ hqn;obtain ⟨hke, _⟩ := h.marks hqn ha hT;rw [hr];dsimp only;refine ⟨⟨l', hI⟩, List.length_set, fun j hj => ?_⟩
  by_cases e : j = q.toNat
  ·subst e
   have hc : cQ (ps.set q.toNat (z2e cs (pr ps q.toNat))) q q.toNat = true := by
    rw [cQ, show ((q.toNat : Nat) : Int) = q by omega]; simp
   unfold PreJ;rw [hc, Bool.true_and, Bool.true_and];rw [z3w hqn];have hrea : ∀ {a c : Int}, 2 ≤ c → c < cs.length → gn (z2b cs q.toNat (pr ps q.toNat)) c = false → Rea cs a c → Rea (z2b cs q.toNat (pr ps q.toNat)) a c := fun {a c} g1 g2 g3 g4 => h.rea hqn ha hT hI.core g1 g2 g3 g4;have hmem : ∀ c : Int, 2 ≤ c → c < cs.length → hasB (z12 (z2b cs q.toNat (pr ps q.toNat)) (ps.set q.toNat (z2e cs (pr ps q.toNat)))) c = !gn (z2b cs q.toNat (pr ps q.toNat)) c := fun c g1 g2 => mem_has hI.vb g1 (by rw [hke.len]; exact g2);have hhead := fun {c : Int} (g1 : 2 ≤ c) (g2 : c < cs.length) => hI.core.fromHead g1 (by rw [hke.len]; exact g2)
   generalize z2b cs q.toNat (pr ps q.toNat) = ds at *
   generalize z2e cs (pr ps q.toNat) = y at *
   generalize z12 ds (ps.set q.toNat y) = mem at *
   have c2 := hP.c2;have hcm := hmem _ c2 hO.cell.2
   cases hT with
   |adv g hl =>
    refine ⟨fun _ b => ?_, fun f => ?_, fun f => ?_, fun f => ?_, fun f => ?_, fun f => ?_, fun f => ?_⟩
    ·rw [Bool.or_eq_false_iff] at b;exact ((hMq.a1 g b.1).next (z4h hl)).2.2.2
    all_goals (dsimp only at f; omega)
   |seek g hl hk =>
    refine ⟨fun f => ?_, fun _ _ b => ?_, fun f => ?_, fun f => ?_, fun f => ?_, fun f => ?_, fun f => ?_⟩
    ·dsimp only at f; omega
    ·rw [Bool.or_eq_false_iff] at b;rcases (hMq.a1 g b.1).le with f | f
     ·exact f
     ·rw [hl] at f; cases f
    all_goals (dsimp only at f; omega)
   |aim g hl hk => exact MJ.dull (by dsimp only; omega) (fun f => by dsimp only at f; omega) (by dsimp only; omega) (by dsimp only; omega)
   |lockP g hf => exact MJ.dull (by dsimp only; omega) (fun f => by dsimp only at f; omega) (by dsimp only; omega) (by dsimp only; omega)
   |lockS g hf => exact MJ.dull (by dsimp only; omega) (fun _ => hP.k3 (by omega) (by omega)) (by dsimp only; omega) (by dsimp only; omega)
   |found g hk =>
    refine ⟨fun f => ?_, fun f => ?_, fun _ _ => ⟨fun f => ?_, fun f => ?_⟩, fun _ f => ?_, fun _ f => ?_, fun f => ?_, fun f => ?_⟩
    ·dsimp only at f; omega
    ·dsimp only at f; omega
    ·simp only [Bool.and_eq_true, beq_iff_eq, Bool.not_eq_true'] at f
     show (_ || hasB mem (pr ps q.toNat).cell) = true
     rw [hcm, f.2]; simp
    ·show (_ || !hasB mem (pr ps q.toNat).cell) = true
     rw [hcm]
     cases hg : gn cs (pr ps q.toNat).cell with
     |true => simp
     |false =>
      have f1 : ¬ (pr ps q.toNat).succ = (pr ps q.toNat).cell := fun f2 => by rw [hg, f2] at f; simp at f
      cases hb : bAt M q.toNat with
      |true => rfl
      |false => exact absurd (hMq.b1 g hk hb) f1
    ·dsimp only at f; omega
    ·dsimp only at f; omega
    ·dsimp only at f; omega
    ·dsimp only at f; omega
   |again g hk hb => exact MJ.dull (by dsimp only; omega) (fun f => by dsimp only at f; omega) (by dsimp only; omega) (by dsimp only; omega)
   |ins g hk hb hs => exact MJ.dull (by dsimp only; omega) (fun f => by dsimp only at f; omega) (by dsimp only; omega) (by dsimp only; omega)
   |rem g hk hb hs => exact MJ.dull (by dsimp only; omega) (fun f => by dsimp only at f; omega) (by dsimp only; omega) (by dsimp only; omega)
   |no g hk hb k1 k2 =>
    obtain ⟨b1, b2, b3⟩ := fail_iff.1 hb;refine ⟨fun f => ?_, fun f => ?_, fun f => ?_, fun f => ?_, fun f => ?_, fun _ f _ => ?_, fun _ f _ => ?_⟩
    ·dsimp only at f; omega
    ·dsimp only at f; omega
    ·dsimp only at f; omega
    ·dsimp only at f; omega
    ·dsimp only at f; omega
    ·show (_ || hasB mem (pr ps q.toNat).cell) = true
     rw [hcm, ← k1 f, b2]; simp
    ·show (_ || !hasB mem (pr ps q.toNat).cell) = true
     rw [hcm]
     cases hg : gn cs (pr ps q.toNat).cell with
     |true => simp
     |false =>
      exfalso
      have hpm := h.core.live hO.pred.1 hO.pred.2 b1;have hcl := h.core.live hO.cell.1 hO.cell.2 hg;have hcs := (dst_of h.vb).total hO.succ hO.cell (k2 f) (hP.ge (by omega));exact h.core.gap hpm hP.pl (b3 ▸ hcs) hcl
   |retry g =>
    refine ⟨fun _ b => ?_, fun f => ?_, fun f => ?_, fun f => ?_, fun f => ?_, fun f => ?_, fun f => ?_⟩
    ·rw [Bool.or_eq_false_iff] at b;have b2 : (!hasB mem (pr ps q.toNat).cell) = false := b.2;rw [hcm, Bool.not_not] at b2;have := hhead c2 hO.cell.2 b2;rw [rt_unlk] at this;exact this
    all_goals (dsimp only at f; omega)
   |link0 g => exact MJ.dull (by dsimp only; omega) (fun f => by dsimp only at f; omega) (by dsimp only; omega) (by dsimp only; omega)
   |link1 g => exact MJ.dull (by dsimp only; omega) (fun f => by dsimp only at f; omega) (by dsimp only; omega) (by dsimp only; omega)
   |link2 g =>
    refine ⟨fun f => ?_, fun f => ?_, fun f => ?_, fun f => ?_, fun f => ?_, (fun _ _ f => by cases f), fun _ _ f => by cases f⟩
    all_goals (dsimp only at f; omega)
   |lockN g hf => exact MJ.dull (by dsimp only; omega) (fun f => by dsimp only at f; omega) (by dsimp only; omega) (by dsimp only; omega)
   |un0 g => exact MJ.dull (by dsimp only; omega) (fun f => by dsimp only at f; omega) (by dsimp only; omega) (by dsimp only; omega)
   |un1 g => exact MJ.dull (by dsimp only; omega) (fun f => by dsimp only at f; omega) (by dsimp only; omega) (by dsimp only; omega)
   |un2 g =>
    refine ⟨fun f => ?_, fun f => ?_, fun f => ?_, fun f => ?_, fun f => ?_, (fun _ _ f => by cases f), fun _ _ f => by cases f⟩
    all_goals (dsimp only at f; omega)
   |rel g =>
    refine ⟨fun f => ?_, fun f => ?_, fun _ f => absurd f (hP.k3 (by omega) (by omega)), fun _ f1 f2 => ?_, fun _ f1 f2 => ?_, fun f => ?_, fun f => ?_⟩
    ·dsimp only at f; omega
    ·dsimp only at f; omega
    ·rw [hMq.a5 g f1 f2]; rfl
    ·rw [hMq.a6 g f1 f2]; rfl
    ·dsimp only at f; omega
    ·dsimp only at f; omega
  ·unfold PreJ;rw [z35 (Ne.symm e)];refine (hm j hj).mono (fun g1 g2 g3 => ?_) (fun e => by rw [e]; rfl) fun e => by rw [e]; rfl
   have haj : z43 (pr ps j) = true := z5o.2 (by omega)
   have hcj : cQ (ps.set q.toNat (z2e cs (pr ps q.toNat))) q j = true := by
    rw [cQ, z35 (Ne.symm e), haj]; rfl
   have c2 := (h.prc j hj haj).c2;have hcl := (hv.proc j hj).cell.2;rw [Bool.or_eq_false_iff, hcj, Bool.true_and, mem_has hI.vb c2 (by rw [hke.len]; exact hcl), Bool.not_not] at g2;exact h.rea hqn ha hT hI.core c2 hcl g2.2 g3
theorem bAt_set {l : List Bool} {k j : Nat} {b : Bool} (h : k < l.length) : bAt (l.set k b) j = if j = k then b else bAt l j := by
 simp only [bAt, List.getD]
 by_cases e : j = k
 ·subst e; simp [h]
 ·rw [List.getElem?_set_ne (Ne.symm e), if_neg e]
theorem PreJ.start {cs : List Cl} {ps : List Pr} {l : List Int} {q k c : Int} {W M : List Bool} (h : Inv cs ps l) (he : z4b cs ps q k c = 0) (hW : W.length = ps.length) (hM : M.length = ps.length) (hm : ∀ j, j < ps.length → MJ cs (pr ps j) (bAt W j) (bAt M j)) :
  (∃ l', Inv (z2r cs ps q k c).1 (z2r cs ps q k c).2 l') ∧ (z2r cs ps q k c).2.length = ps.length ∧ ∀ j, j < ps.length → PreJ (z2r cs ps q k c).1 (z2r cs ps q k c).2 (z12 (z2r cs ps q k c).1 (z2r cs ps q k c).2) q j (bAt (W.set q.toNat false) j) (bAt (M.set q.toNat false) j) := by
 have hI := h.start he;obtain ⟨_, hp, hc, hk, _⟩ := startE_zero he;have hqn : q.toNat < ps.length := by omega
 rw [z2r, if_pos he];dsimp only;refine ⟨⟨l, hI⟩, z6e .., fun j hj => ?_⟩;unfold PreJ;rw [bAt_set (by omega), bAt_set (by omega)]
 by_cases e : j = q.toNat
 ·subst e;have hx : pr (startP cs ps q k c) q.toNat = ⟨k, c, 1, 0, (cl cs 0).right, 0, false⟩ := by unfold startP; rw [z3w hqn]
  have hcq : cQ (startP cs ps q k c) q q.toNat = true := by
   rw [cQ, show ((q.toNat : Nat) : Int) = q by omega]; simp
  rw [hcq, if_pos rfl, if_pos rfl, hx];refine ⟨fun _ b => ?_, (fun f => by cases f), (fun f => by cases f), (fun f => by cases f), (fun f => by cases f), (fun f => by cases f), fun f => by cases f⟩;dsimp only at b;rw [Bool.false_or, Bool.true_and, mem_has hI.vb hc.1 hc.2, Bool.not_not] at b;exact hI.core.fromHead hc.1 hc.2 b
 ·have hx : pr (startP cs ps q k c) j = pr ps j := by unfold startP; rw [z35 (Ne.symm e)]
  rw [hx, if_neg e, if_neg e];exact (hm j hj).mono (fun _ _ g => g) (fun e => by rw [e]; rfl) fun e => by rw [e]; rfl
end Go.Proofs

set_option linter.unusedSimpArgs false
set_option linter.unusedVariables false
set_option maxRecDepth 4000
namespace Go.Proofs
open Go.Sk
theorem membersK_most (cs : List Cl) (ps : List Pr) : (z12 cs ps).length ≤ cs.length + 1 := by
 unfold z12
 split
 ·rw [srtR_length];rcases memsC_len cs cs.length with h | h
  ·omega
  ·rw [h]; simp
 ·simp
end Go.Proofs

set_option linter.unusedSimpArgs false
set_option linter.unusedVariables false
set_option maxRecDepth 4000
namespace Go.Proofs
open Go.Sk
end Go.Proofs

set_option linter.unusedSimpArgs false
set_option linter.unusedVariables false
set_option maxRecDepth 4000
namespace Go.Proofs
open Go.Sk
theorem LmGm.ca {P : Program} {f : FuncId} {args args0 : List SV} {H0 H : AH} {R : SV → AH → Prop} {dr : Bool} {W : List Nat} {k : SV → AH → Prop} (hF : z1d P f args0 H0 R) (ρ : Nat → Nat)
  (hk : ∀ s0 H1, R s0 H1 → ∀ s1 H2, s1 = s0.ren (z5h H0.nxt H.nxt ρ) → H2 = after H0.nxt ρ H0 H H1 → k s1 H2)
  (a1 : SV.wkL args (SV.renL ρ args0) := by simp [SV.wkL, SV.wk, SV.renL, SV.ren, z13, zg, z15, zi, zm, zl, zn, z10, zo, z7, ze, zc, zu, zf, z9, z8, zb, Cl.sv, Pr.sv, ints]) (a2 : SV.ltL H.nxt (SV.renL ρ args0) := by simp [SV.renL, SV.ren, SV.ltL, SV.lt, z13, zg, z15, zi, zm, zl, zn, z10, zo, z7, ze, zc, zu, zf, z9, z8, zb, Cl.sv, Pr.sv, ints]) (a3 : SV.ltL H0.nxt args0 := by simp [SV.ltL, SV.lt, z13, zg, z15, zi, zm, zl, zn, z10, zo, z7, ze, zc, zu, zf, z9, z8, zb, Cl.sv, Pr.sv, ints])
  (a4 : (List.range H0.nxt).all (fun id => decide (ρ id < H.nxt)) = true := by exact rfl) (a5 : z18 ρ H0.nxt H.os H0.os := by simp [z18, Sk.find, one, z1i, z1j, z24, SV.renL, SV.ren, Obj.lt_row, SV.ltL, SV.lt, z13, zg, z15, zi, zm, zl, zn, z10, zo, z7, ze, zc, zu, zf, z9, z8, zb, Cl.sv, Pr.sv, ints]) (a6 : injB ρ H0.os = true := by exact rfl) (a7 : z25 H0.os := by simp [z25, one, Obj.own, z13, zg, z15, zi, zm, zl, zn, z10, zo, z7, ze, zc, zu, zf, z9, z8, zb, Cl.sv, Pr.sv, ints])
  (a8 : (H0.os.map (·.1)).Nodup := by simp) (a9 : ∀ x ∈ H0.os, (x.2.2 0).own = true → (Sk.find H.os (ρ x.1)).map (·.1) = some x.2.1 := by simp [one, Obj.own, Sk.find, z13, zg, z15, zi, zm, zl, zn, z10, zo, z7, ze, zc, zu, zf, z9, z8, zb, Cl.sv, Pr.sv, ints]) (a10 : dr = true → (z1k ρ H0.os).all (fun id => W.contains id) = true := by simp [z1k, one, Obj.own, z13, zg, z15, zi, zm, zl, zn, z10, zo, z7, ze, zc, zu, zf, z9, z8, zb, Cl.sv, Pr.sv, ints]) : callK P f args H dr W k :=
 z5b hF ρ a1 a2 a3 a4 a5 a6 a7 a8 a9 a10 hk
theorem LmGm.af {s e e1 : SV} {H g g1 : AH} (h1 : s = e) (h2 : H = g) (a1 : e = e1 := by simp only [after, z5h, id, z28, reduceCtorEq, Nat.reduceEqDiff, Nat.one_ne_zero, Nat.zero_ne_one, z3b, z1v, z1k, one, Obj.own, Obj.ren, Row.ren, SV.ren, SV.renL, List.map_cons, List.map_nil, List.nil_append, List.cons_append, ↓reduceIte, Nat.reduceLT, Nat.reduceAdd, Nat.reduceSub, Nat.reduceEqDiff, Nat.add_zero, Bool.false_eq_true, Tryd.tyInt, Tryd.szInt, Tryd.zInt, Tryd.tyInts, Tryd.szInts, Tryd.tyErr, Tryd.szErr, Tryd.zErr, Tryd.tyBool, Tryd.szBool, Tryd.zBool, Tryd.tyStr, Tryd.szStr, Tryd.tyCl, Tryd.szCl, Tryd.zCl, Tryd.tyPr, Tryd.szPr, Tryd.zPr, Tryd.tyCls, Tryd.szCls, Tryd.tyPrs, Tryd.szPrs, Tryd.tyLs, Tryd.szLs, Tryd.zLs, z13, zg, z15, zi, zm, zl, zn, z10, zo, z4o, z4p, z4q, z4r, z4s, z4v, z4w, z4x, z4y, z4z, z50, z51, z1y, z1z, Cl.sv, Pr.sv, zf, z9, z17, z1o, z1s, z1g, z20, z2h, z1g]; exact rfl) (a2 : g = g1 := by simp only [after, z5h, id, z28, reduceCtorEq, Nat.reduceEqDiff, Nat.one_ne_zero, Nat.zero_ne_one, z3b, z1v, z1k, one, Obj.own, Obj.ren, Row.ren, SV.ren, SV.renL, List.map_cons, List.map_nil, List.nil_append, List.cons_append, ↓reduceIte, Nat.reduceLT, Nat.reduceAdd, Nat.reduceSub, Nat.reduceEqDiff, Nat.add_zero, Bool.false_eq_true, Tryd.tyInt, Tryd.szInt, Tryd.zInt, Tryd.tyInts, Tryd.szInts, Tryd.tyErr, Tryd.szErr, Tryd.zErr, Tryd.tyBool, Tryd.szBool, Tryd.zBool, Tryd.tyStr, Tryd.szStr, Tryd.tyCl, Tryd.szCl, Tryd.zCl, Tryd.tyPr, Tryd.szPr, Tryd.zPr, Tryd.tyCls, Tryd.szCls, Tryd.tyPrs, Tryd.szPrs, Tryd.tyLs, Tryd.szLs, Tryd.zLs, z13, zg, z15, zi, zm, zl, zn, z10, zo, z4o, z4p, z4q, z4r, z4s, z4v, z4w, z4x, z4y, z4z, z50, z51, z1y, z1z, Cl.sv, Pr.sv, zf, z9, z17, z1o, z1s, z1g, z20, z2h, z1g]; exact rfl) : s = e1 ∧ H = g1 := ⟨h1.trans a1, h2.trans a2⟩
theorem LmGm.g0 {X : Cx} {fr : Fr} {H : AH} {fr1 : Fr} {H1 : AH} (ρ : Nat → Nat) (a1 : z1f ρ H1.nxt fr fr1 := by simp [z1f, Sk.get, z3o, SV.lt, SV.ltL, z13, zg, z15, zi, zm, zl, zn, z10, zo, z7, ze, zc, zu, zf, z9, z8, zb, Cl.sv, Pr.sv, ints]) (a2 : z18 ρ H1.nxt H.os H1.os := by simp [z18, Sk.find, one, z1i, z1j, z24, Obj.lt_row, SV.ltL, SV.lt, z13, zg, z15, zi, zm, zl, zn, z10, zo, z7, ze, zc, zu, zf, z9, z8, zb, Cl.sv, Pr.sv, ints]) (a3 : injB ρ H1.os = true := by exact rfl)
  (a4 : z25 H1.os := by simp [z25, one, z13, zg, z15, zi, zm, zl, zn, z10, zo, z7, ze, zc, zu, zf, z9, z8, zb, Cl.sv, Pr.sv, ints]) (a5 : (List.range X.m0).all (fun id => ρ id == id) = true := by exact rfl) (a6 : X.m0 ≤ H1.nxt := by exact Nat.le_of_ble_eq_true rfl) (a7 : z25 H.os := by simp [z25, one, Obj.own, z13, zg, z15, zi, zm, zl, zn, z10, zo, z7, ze, zc, zu, zf, z9, z8, zb, Cl.sv, Pr.sv, ints])
  (a8 : z2a X.m0 H.os H1.os := by simp [z2a, one, Obj.own, Sk.find, z13, zg, z15, zi, zm, zl, zn, z10, zo, z7, ze, zc, zu, zf, z9, z8, zb, Cl.sv, Pr.sv, ints]) (a9 : bigB X.m0 ρ H1.os = true := by exact rfl) : z22 X ρ fr H fr1 H1 := z22.mk' ρ a1 a2 a3 a4 a5 a6 a7 a8 a9
theorem LmGm.r3 {a : Prop} (h : a := by simp [z5m, one, Obj.own, z13, zg, z15, zi, zm, zl, zn, z10, zo, z7, ze, zc, zu, zf, z9, z8, zb, Cl.sv, Pr.sv, ints]) : a := h
theorem LmGm.o {a b c : Prop} (r : a → c) (h : b) (e : a = b := by simp only [stp, isQ, z4l, Sk.get, Sk.put, z33, z1p, ↓reduceIte, reduceCtorEq, Nat.reduceEqDiff, true_and, and_true, true_implies, implies_true, forall_const, imp_self, Bool.false_eq_true, false_implies, false_and, and_false, Bool.false_and, Bool.and_false, qop, grdK, List.getElem?_toArray, List.getElem?_cons_zero, List.getElem?_cons_succ, beq_true, beq_false, beq_self_eq_true, Bool.and_true, Bool.true_and, Bool.not_true, Bool.not_false, Bool.not_not, Bool.and_eq_true, Bool.not_eq_true', Bool.not_eq_false', z27, Bool.cond_true_left, Bool.cond_false_left, Bool.cond_true_right, Bool.cond_false_right, cond_true, cond_false, and_imp, z5d, Sk.find, one, Kd.agg, List.contains_nil, List.contains_cons, Nat.reduceBEq, Bool.or_false, Bool.true_or, Bool.or_true, Bool.false_or, ite_self, Nat.lt_one_iff, Nat.zero_add, Nat.add_zero, Nat.reduceAdd, Nat.reduceMul, Nat.reduceSub, Nat.reduceLT, Nat.reduceLeDiff, Nat.le_refl, Nat.zero_le, ne_eq, Nat.one_ne_zero, not_false_eq_true, not_true_eq_false, Int.toNat_natCast, Int.reduceToNat, List.length_cons, List.length_nil, and_self, Kd.slice.injEq, exists_eq', Option.map_some, Option.some.injEq, List.drop_zero, List.drop_succ_cons, List.take_succ_cons, List.take_zero, List.take_nil, List.drop_nil, List.nil_append, List.cons_append, List.append_nil, List.append_eq, List.all_cons, List.all_nil, spl, z3a, SV.cells, SV.scalar, binK, binII, binBB, intK, z3n, strK, z41, binAA, z54, unK, convK, z45, z46, z6b, z47, z48, optK, z4a, bndK, Option.isSome_some, Option.isSome_none, Nat.sub_zero, or_true, true_or, z40, z44, z62, z4j, lenK, z26.len, z5u, mmK, z2o, eop, copyK, srcK, z2i, setO, z4m, z31, z28, z3y, boxK, z32, z3p, z4c, updF, mkK, z68, z26.ofKd, z69, z26.add, z26.okKd, z49, z26.has, Tryd.tyInt, Tryd.szInt, Tryd.zInt, Tryd.tyInts, Tryd.szInts, Tryd.tyErr, Tryd.szErr, Tryd.zErr, Tryd.tyBool, Tryd.szBool, Tryd.zBool, Tryd.tyStr, Tryd.szStr, Tryd.tyCl, Tryd.szCl, Tryd.zCl, Tryd.tyPr, Tryd.szPr, Tryd.zPr, Tryd.tyCls, Tryd.szCls, Tryd.tyPrs, Tryd.szPrs, Tryd.tyLs, Tryd.szLs, Tryd.zLs, z13, zg, z15, zi, zm, zl, zn, z10, zo, z4o, z4p, z4q, z4r, z4s, z4v, z4w, z4x, z4y, z4z, z50, z51, z1y, z1z, Cl.sv, Pr.sv, zf, z9, z17, z1o, z1s, ints]; exact rfl) : c := r (Eq.mpr e h)
theorem has_spec (xs : List Int) (v : Int) (n : Nat) (hn : xs.length = n) (hx : n ≤ 9223372036854775807) :
  z1d Tryd.prog 58 [.slc false 0 0 0 n, .int .i64 v] ⟨1, [(0, zf xs)]⟩ (fun s H1 => s = .bool (hasB xs v) ∧ H1 = ⟨1, []⟩) := by
 subst hn;refine z1d.ofC false 18 [.tmp 4] Tryd.func58 rfl rfl Tryd.ntmps58 Tryd.results58 rfl ?_;intro w0 own0 β0 Q hQ hQn;simp only [z2d];refine Cs.seq ?_;refine Cs.reg [0, 1] rfl ?_;intro K hK;(refine LmGm.o z4 ?_; repeat (with_reducible apply ai;exact z3));refine z6 (z5 (hK _ _ ?_)); clear hK K;refine Cs.seq ?_;refine Cs.seq ?_;refine Cs.reg [0, 1, 5] rfl ?_;intro K hK;(refine LmGm.o z4 ?_; repeat (with_reducible apply ai;exact z3));refine z6 (z5 (hK _ _ ?_)); clear hK K;refine Cs.block ?_;intro Q0 hN0 hX0 hR0 hE0;refine Cs.loop (σ := Nat) (fun i => i ≤ xs.length ∧ ∀ j, j < i → (v == nth xs j) = false) (fun i => xs.length - i) (fun i => [(0, .slc false 0 0 0 xs.length), (1, .int .i64 v), (5, .int .i64 i)]) (fun i => ⟨1, [(0, zf xs)]⟩) 0 ⟨by omega, by omega⟩ (ρ := id) (LmGm.g0 id) ?_;rintro i hi QL1 hL1 hRL1 hEL1;refine Cs.seq ?_;refine Cs.seq ?_;refine Cs.reg [0, 1, 5, 9] rfl ?_;intro K hK;iterate 4 (refine LmGm.o z4 ?_; repeat (with_reducible apply ai;exact z3))
 refine z6 (z5 (hK _ _ ?_)); clear hK K;refine Cs.cond _ rfl ?_ ?_
 ·intro h9
  try replace h9 := za h9
  refine Cs.skip ?_;refine Cs.seq ?_;refine Cs.block ?_;intro Q1 hN1 hX1 hR1 hE1;refine Cs.seq ?_;refine Cs.reg [0, 1, 5, 17] rfl ?_;intro K hK;iterate 6 (refine LmGm.o z4 ?_; repeat (with_reducible apply ai;exact z3))
  refine z6 (z5 (hK _ _ ?_)); clear hK K;refine Cs.cond _ rfl ?_ ?_
  ·intro h17
   try replace h17 := za h17
   refine Cs.seq ?_;refine Cs.reg [4] rfl ?_;intro K hK;(refine LmGm.o z4 ?_; repeat (with_reducible apply ai;exact z3));refine z6 (z5 (hK _ _ ?_)); clear hK K;refine Cs.ret ?_;refine hR1 _ _ ?_;refine hRL1 _ _ ?_;refine hR0 _ _ ?_;refine hQ _ _ ?_;refine z1h.mk (H' := ⟨1, []⟩) (.inl rfl) ?_;refine zx ?_;repeat (with_reducible apply ai;exact z3)
   refine ⟨zk, (LmGm.g0 id), LmGm.r3, ?_⟩;have : hasB xs v = true := z53 (i := i) (by omega) (by simp; omega);exact ⟨by rw [this], by trivial⟩
  ·intro h17
   try replace h17 := za h17
   refine Cs.skip ?_;refine Cs.nil ?_;refine hN1 _ _ ?_;refine Cs.reg [0, 1, 5] rfl ?_;intro K hK;iterate 3 (refine LmGm.o z4 ?_; repeat (with_reducible apply ai;exact z3))
   refine z6 (z5 (hK _ _ ?_)); clear hK K;refine Cs.nil ?_;refine hL1 _ _ ?_;refine ⟨i + 1, ⟨⟨by omega, fun j hj => ?_⟩, by omega⟩, id, (LmGm.g0 id)⟩
   by_cases h : j = i
   ·subst h; simp; omega
   ·exact hi.2 j (by omega)
 ·intro h9
  try replace h9 := za h9
  refine Cs.exit ?_;refine hEL1 _ _ _ ?_;refine hX0 _ _ ?_;refine Cs.seq ?_;refine Cs.reg [4] rfl ?_;intro K hK;(refine LmGm.o z4 ?_; repeat (with_reducible apply ai;exact z3));refine z6 (z5 (hK _ _ ?_)); clear hK K;refine Cs.ret ?_;refine hQ _ _ ?_;refine z1h.mk (H' := ⟨1, []⟩) (.inl rfl) ?_;refine zx ?_;repeat (with_reducible apply ai;exact z3)
  refine ⟨zk, (LmGm.g0 id), LmGm.r3, ?_⟩;have : hasB xs v = false := z55 fun j hj => hi.2 j (by omega);exact ⟨by rw [this], by trivial⟩
theorem z5s (xs : List Int) (v : Int) (n : Nat) (hn : xs.length = n) (hx : n ≤ 9223372036854775807) :
  z1d Tryd.prog 27 [.slc false 0 0 0 n, .int .i64 v] ⟨1, [(0, zf xs)]⟩ (fun s H1 => s = .bool (hasB xs v) ∧ H1 = ⟨1, []⟩) := by
 refine z1d.ofC false 8 [.tmp 4] Tryd.func27 rfl rfl Tryd.ntmps27 Tryd.results27 rfl ?_;intro w0 own0 β0 Q hQ hQn;simp only [z2d];refine Cs.seq ?_;refine Cs.reg [0, 1] rfl ?_;intro K hK;(refine LmGm.o z4 ?_; repeat (with_reducible apply ai;exact z3));refine z6 (z5 (hK _ _ ?_)); clear hK K;refine Cs.seq ?_;refine Cs.reg [4] rfl ?_;intro K hK;iterate 2 (refine LmGm.o z4 ?_; repeat (with_reducible apply ai;exact z3))
 refine LmGm.o z4 ?_;repeat (with_reducible apply ai;exact z3)
 refine LmGm.ca (has_spec xs v n hn hx) (id) ?_;rintro s0 H0 ⟨rfl, rfl⟩ s1 H1 hs1 hH1;obtain ⟨hs2, hH2⟩ := LmGm.af hs1 hH1;clear hs1 hH1;subst hs2 hH2;repeat (with_reducible apply ai;exact z3)
 (refine LmGm.o z4 ?_; repeat (with_reducible apply ai;exact z3));refine z6 (z5 (hK _ _ ?_)); clear hK K;refine Cs.ret ?_;refine hQ _ _ ?_;refine z1h.mk (H' := ⟨1, []⟩) (.inl rfl) ?_;refine zx ?_;repeat (with_reducible apply ai;exact z3)
 refine ⟨zk, (LmGm.g0 id), LmGm.r3, ?_⟩
 first | trivial | exact ⟨rfl, by trivial⟩
/-- Has the process changed the members? -/
def dOf (x : Pr) : Bool := x.res || x.phase == 8 || x.phase == 11 || x.phase == 12
/-- What did tells of the processes. -/
def DI (ps : List Pr) (did : List Bool) : Prop := did.length = ps.length ∧ ∀ q, q < ps.length → (pr ps q).kind ≠ 3 → bAt did q = dOf (pr ps q)
theorem DI.set {ps : List Pr} {did : List Bool} {q : Nat} {y : Pr} {b : Bool} (hd : DI ps did) (hq : q < ps.length) (hy : y.kind ≠ 3 → b = dOf y) : DI (ps.set q y) (did.set q b) := by
 refine ⟨by rw [List.length_set, List.length_set, hd.1], fun j hj hk => ?_⟩;rw [List.length_set] at hj;rw [bAt_set (by rw [hd.1]; exact hq)]
 by_cases e : j = q
 ·subst e;rw [z3w hq] at hk ⊢;rw [if_pos rfl];exact hy hk
 ·rw [z35 (Ne.symm e)] at hk ⊢;rw [if_neg e];exact hd.2 j hj hk
theorem DI.keep {ps : List Pr} {did : List Bool} {q : Nat} {y : Pr} (hd : DI ps did) (hq : q < ps.length) (hy : y.kind ≠ 3 → y.kind = (pr ps q).kind ∧ dOf y = dOf (pr ps q)) : DI (ps.set q y) did := by
 refine ⟨by rw [List.length_set, hd.1], fun j hj hk => ?_⟩;rw [List.length_set] at hj
 by_cases e : j = q
 ·subst e;rw [z3w hq] at hk ⊢;obtain ⟨h1, h2⟩ := hy hk;rw [h2];exact hd.2 j hj (by rw [← h1]; exact hk)
 ·rw [z35 (Ne.symm e)] at hk ⊢;exact hd.2 j hj hk
theorem DI.step {cs : List Cl} {ps : List Pr} {l : List Int} {did : List Bool} {q : Int} (h : Inv cs ps l) (hd : DI ps did) (hq : 0 ≤ q ∧ q < ps.length) :
  (∃ l', Inv (z38 cs ps q).1 (z38 cs ps q).2 l') ∧ (z38 cs ps q).2.length = ps.length ∧
  ((z30 cs ps q && (pr ps q.toNat).phase == 7) = true → hasB (z12 cs ps) (pr ps q.toNat).cell = false ∧ hasB (z12 (z38 cs ps q).1 (z38 cs ps q).2) (pr ps q.toNat).cell = true ∧ (z12 (z38 cs ps q).1 (z38 cs ps q).2).length = (z12 cs ps).length + 1 ∧ DI (z38 cs ps q).2 (did.set q.toNat true)) ∧
  ((z30 cs ps q && (pr ps q.toNat).phase == 10) = true → hasB (z12 cs ps) (pr ps q.toNat).cell = true ∧ hasB (z12 (z38 cs ps q).1 (z38 cs ps q).2) (pr ps q.toNat).cell = false ∧ (z12 (z38 cs ps q).1 (z38 cs ps q).2).length + 1 = (z12 cs ps).length ∧ DI (z38 cs ps q).2 (did.set q.toNat true)) ∧
  ((z30 cs ps q && (pr ps q.toNat).phase == 7) = false → (z30 cs ps q && (pr ps q.toNat).phase == 10) = false → z12 cs ps = z12 (z38 cs ps q).1 (z38 cs ps q).2 ∧ DI (z38 cs ps q).2 did) := by
 have hqn : q.toNat < ps.length := by omega
 cases hok : z30 cs ps q with
 |false =>
  rw [stepR_idle h.vb hok];exact ⟨⟨l, h⟩, rfl, (fun e => by cases e), (fun e => by cases e), fun _ _ => ⟨rfl, hd⟩⟩
 |true =>
  obtain ⟨_, _, ha, hT, hr, l', hI⟩ := h.act_step hok;have hv := z4k h.vb;have hP := h.prc _ hqn ha;have hO := hv.proc _ hqn;have c2 := hP.c2;obtain ⟨hke, hm⟩ := h.marks hqn ha hT;rw [hr];dsimp only;refine ⟨⟨l', hI⟩, List.length_set, ?_⟩;simp only [Bool.true_and, beq_iff_eq, beq_eq_false_iff_ne];have hh1 := mem_has h.vb c2 hO.cell.2;have hh2 := mem_has hI.vb c2 (by rw [hke.len]; exact hO.cell.2);have hl1 := membersK_len h.vb;have hl2 := membersK_len hI.vb;have hcg := fun g => membersK_congr h.vb hI.vb hke g;have hkd : ∀ {ds y}, Tr cs q.toNat (pr ps q.toNat) ds y → y.kind = (pr ps q.toNat).kind := fun {ds y} t => by cases t <;> rfl
  have hkd := hkd hT;have hdq := hd.2 _ hqn
  generalize z2b cs q.toNat (pr ps q.toNat) = ds at *
  generalize z2e cs (pr ps q.toNat) = y at *
  rcases hm with ⟨m1, m2, m3, m4, m5⟩ | ⟨m1, m2, m3, m4, m5⟩ | ⟨m1, m2, m3, m4, m5⟩
  ·refine ⟨fun e => absurd e m2, fun e => absurd e m3, fun _ _ => ⟨(hcg fun i h1 _ => m1 i (by omega)).symm, hd.keep hqn fun k3 => ⟨hkd, ?_⟩⟩⟩
   cases hT with
   |adv e hl => rfl
   |seek e hl hk => exact absurd hk k3
   |aim e hl hk => simp [dOf, e]
   |lockP e hf => simp [dOf, e]
   |lockS e hf => simp [dOf, e]
   |found e hk => exact absurd hk k3
   |again e hk hb => simp [dOf, e]
   |ins e hk hb hs => simp [dOf, e]
   |rem e hk hb hs => simp [dOf, e]
   |no e hk hb c1 c2 => simp [dOf, e]
   |retry e => simp [dOf, e]
   |link0 e => simp [dOf, e]
   |link1 e => exact absurd e m2
   |link2 e => simp [dOf, e]
   |lockN e hf => simp [dOf, e]
   |un0 e => exact absurd e m3
   |un1 e => simp [dOf, e]
   |un2 e => simp [dOf, e]
   |rel e => simp [dOf, e]
  ·refine ⟨fun _ => ⟨by rw [hh1, m4]; rfl, ?_, ?_, hd.set hqn fun _ => by rw [m2]; simp [dOf]⟩, fun e => by omega, fun e => absurd m1 e⟩
   ·rw [hh2, m5 _ hO.cell.1, if_pos rfl]; rfl
   ·rw [hl1, hl2, hke.len, memsC_grow c2 m4 (by rw [m5 _ hO.cell.1, if_pos rfl]) (fun i h0 hne => by rw [m5 i h0, if_neg hne]), if_pos hO.cell.2]
  ·refine ⟨fun e => by omega, fun _ => ⟨by rw [hh1, m4]; rfl, ?_, ?_, hd.set hqn fun _ => by rw [m2]; simp [dOf]⟩, fun _ e => absurd m1 e⟩
   ·rw [hh2, m5 _ hO.cell.1, if_pos rfl]; rfl
   ·rw [hl1, hl2, hke.len, memsC_grow (cs := ds) (ds := cs) c2 (by rw [m5 _ hO.cell.1, if_pos rfl]) m4 (fun i h0 hne => by rw [m5 i h0, if_neg hne]), if_pos hO.cell.2]
theorem DI.start {cs : List Cl} {ps : List Pr} {did : List Bool} {q k c : Int} (hd : DI ps did) (he : z4b cs ps q k c = 0) : DI (z2r cs ps q k c).2 (did.set q.toNat false) := by
 obtain ⟨_, hp, _⟩ := startE_zero he;rw [z2r, if_pos he];exact hd.set (by omega) fun _ => rfl
end Go.Proofs

set_option linter.unusedSimpArgs false
set_option linter.unusedVariables false
set_option maxRecDepth 4000
namespace Go.Proofs
open Go.Sk
/-- What the process saw is no longer so. -/
def stl (cs : List Cl) (l : List Int) (x : Pr) : Bool := if x.phase = 5 then true else decide (x.phase ≤ 4) && !(decide (x.pred ∈ 0 :: l) && rt cs x.pred == x.succ)
def rst (cs : List Cl) (x : Pr) : Nat :=
 if x.phase = 1 then meas cs x.succ + 9 else if x.phase = 2 then 8 else if x.phase = 3 then 7 else if x.phase = 4 then 6 else if x.phase = 5 ∨ x.phase = 9 then 5
 else if x.phase = 6 ∨ x.phase = 10 then 4 else if x.phase = 7 ∨ x.phase = 11 then 3 else if x.phase = 8 ∨ x.phase = 12 then 2 else 1
theorem rst_le (cs : List Cl) (x : Pr) : rst cs x ≤ cs.length + 9 := by
 unfold rst;have := meas_le cs x.succ;repeat' split
 all_goals omega
theorem rst_pos (cs : List Cl) (x : Pr) : 1 ≤ rst cs x := by
 unfold rst;repeat' split
 all_goals omega
theorem Seg.det {cs : List Cl} : ∀ {a : Int} {l m : List Int}, Seg cs a l 1 → Seg cs a m 1 → l = m
 |_, [], [], _, _ => rfl
 |_, [], _ :: _, h, h' => absurd h h'.1
 |_, _ :: _, [], h, h' => absurd h' h.1
 |_, x :: l, y :: m, h, h' => by
  have e : x = y := h.2.1.symm.trans h'.2.1;subst e;rw [Seg.det h.2.2.2 h'.2.2.2]
theorem stl_same {cs ds : List Cl} {l : List Int} (h : ∀ i, i ∈ 0 :: l → rt ds i = rt cs i) (x : Pr) : stl ds l x = stl cs l x := by
 unfold stl
 split
 ·rfl
 ·congr 2
  by_cases e : x.pred ∈ 0 :: l
  ·rw [h _ e]
  ·simp [e]
/-- What a process at its check finds wrong is gone from the list. -/
theorem Inv.stale {cs : List Cl} {ps : List Pr} {l : List Int} (h : Inv cs ps l) {p : Nat} (hp : p < ps.length) (ha : z43 (pr ps p) = true) (h4 : (pr ps p).phase = 4) (hk : (pr ps p).kind ≠ 3) (hb : failK cs (pr ps p) = true) : stl cs l (pr ps p) = true := by
 have hP := h.prc p hp ha;have hO := (z4k h.vb).proc p hp
 cases hs : stl cs l (pr ps p) with
 |true => rfl
 |false =>
  exfalso
  unfold stl at hs;rw [if_neg (by omega), decide_eq_true (by omega), Bool.true_and, Bool.not_eq_false', Bool.and_eq_true, decide_eq_true_eq, beq_iff_eq] at hs;obtain ⟨hm, hr⟩ := hs;have h1 : (pr ps p).pred ≠ 1 := (z21.1 hP.pl).2.1;have hsm := (h.core.next_mem hm h1).1;rw [hr] at hsm
  have key : ∀ i, i ∈ l → hol (pr ps p) i = true → gn cs i = false := fun i hi hh => by
   cases hg : gn cs i with
   |false => rfl
   |true =>
    exfalso
    obtain ⟨q, q1, q2, q3⟩ := h.gin i hi hg;have qa : z43 (pr ps q) = true := z5o.2 ⟨by omega, by omega⟩;have hQ := h.prc q q1 qa;obtain ⟨k2, e2, _⟩ := hQ.r9 (by omega);have h5 := hol_succ (x := pr ps q) (by omega) (by omega) (by omega);rw [e2, q3] at h5;have hr := h.core.rng i hi;exact h.excl hp q1 (fun e => by subst e; omega) hh h5 hr.1 hr.2
  have g2 := key _ hsm (hol_succ (by omega) (by omega) hk)
  have g1 : gn cs (pr ps p).pred = false := by
   rcases List.mem_cons.1 hm with e | e
   ·rw [e]; exact h.core.g0
   ·exact key _ e (hol_pred (by omega) (by omega) hk)
  rw [fail_iff.2 ⟨g1, g2, hr⟩] at hb
  cases hb
/-- A step other than the two that change the list leaves what is linked as it is. -/
theorem Inv.rts {cs ds : List Cl} {ps : List Pr} {l : List Int} {y : Pr} (h : Inv cs ps l) {p : Nat} (hp : p < ps.length) (ha : z43 (pr ps p) = true) (t : Tr cs p (pr ps p) ds y) :
  z4e cs ds ∧ (((pr ps p).phase ≠ 7 ∧ (pr ps p).phase ≠ 11 ∧ ∀ i, i ∈ 0 :: l → rt ds i = rt cs i) ∨ (pr ps p).phase = 7 ∧ y = { pr ps p with phase := 8 } ∨ (pr ps p).phase = 11 ∧ y = { pr ps p with phase := 12 }) := by
 have hv := z4k h.vb;have hx := h.prc p hp ha;have ok := hv.proc p hp;have h0 : ∀ i, i ∈ 0 :: l → 0 ≤ i := fun i hi => (h.core.rng0 hi).1
 cases t with
 |lockP e hf => exact ⟨key_setK .., .inl ⟨by omega, by omega, fun i hi => rt_setK ok.pred (h0 i hi)⟩⟩
 |lockS e hf => exact ⟨key_setK .., .inl ⟨by omega, by omega, fun i hi => rt_setK ok.succ (h0 i hi)⟩⟩
 |retry e => exact ⟨key_unlk .., .inl ⟨by omega, by omega, fun i hi => rt_unlk ..⟩⟩
 |rel e => exact ⟨key_unlk .., .inl ⟨by omega, by omega, fun i hi => rt_unlk ..⟩⟩
 |link0 e =>
  refine ⟨(z5j ..).trans (z4t ..), .inl ⟨by omega, by omega, fun i hi => ?_⟩⟩;obtain ⟨k1, hl, hg, hr⟩ := hx.i67 (.inl e);have hm := h.core.live ok.pred.1 ok.pred.2 (hx.gp (by omega) (by omega));have hn := h.core.gap hm hx.pl (by rw [hr]; exact hl);have hne : i ≠ (pr ps p).cell := fun e => hn (e ▸ hi);rw [rt_setR (by rw [z5v]; exact ok.cell) (h0 i hi), if_neg hne, z3g ok.cell (h0 i hi)]
 |link1 e => exact ⟨(z4t ..).trans (key_setU ..), .inr (.inl ⟨e, rfl⟩)⟩
 |link2 e => exact ⟨z5j .., .inl ⟨by omega, by omega, fun i hi => z3g ok.succ (h0 i hi)⟩⟩
 |lockN e hf => exact ⟨key_setK .., .inl ⟨by omega, by omega, fun i hi => rt_setK (rt_in hv ok.cell.1 ok.cell.2) (h0 i hi)⟩⟩
 |un0 e => exact ⟨key_setG .., .inl ⟨by omega, by omega, fun i hi => z6c ok.cell (h0 i hi)⟩⟩
 |un1 e => exact ⟨z4t .., .inr (.inr ⟨e, rfl⟩)⟩
 |un2 e => exact ⟨z5j .., .inl ⟨by omega, by omega, fun i hi => z3g ok.next (h0 i hi)⟩⟩
 |_ => exact ⟨.refl _, .inl ⟨by omega, by omega, fun _ _ => rfl⟩⟩
/-- A step makes the rank of the process less, as far as what it saw is as stale as before. -/
theorem rst_step {cs ds : List Cl} {ps : List Pr} {l : List Int} {y : Pr} (h : Inv cs ps l) {p : Nat} (hp : p < ps.length) (ha : z43 (pr ps p) = true) (t : Tr cs p (pr ps p) ds y) (hr : ∀ i, i ∈ 0 :: l → rt ds i = rt cs i) (hk : z4e cs ds) (hy : z43 y = true) :
  ((stl ds l y) = true → stl cs l (pr ps p) = true) ∧ (stl ds l y).toNat * (cs.length + 5) + rst cs y + 1 ≤ (stl cs l (pr ps p)).toNat * (cs.length + 5) + rst cs (pr ps p) := by
 have hP := h.prc p hp ha;have ht : ∀ b : Bool, b.toNat ≤ 1 := fun b => by cases b <;> decide
 have key : ((stl ds l y) = true → stl cs l (pr ps p) = true) → rst cs y + 1 ≤ rst cs (pr ps p) → ((stl ds l y) = true → stl cs l (pr ps p) = true) ∧ (stl ds l y).toNat * (cs.length + 5) + rst cs y + 1 ≤ (stl cs l (pr ps p)).toNat * (cs.length + 5) + rst cs (pr ps p) := fun h1 h2 => by
  refine ⟨h1, ?_⟩
  have : (stl ds l y).toNat ≤ (stl cs l (pr ps p)).toNat := by
   cases e : stl ds l y with
   |false => exact Nat.zero_le _
   |true => rw [h1 e]; exact Nat.le_refl _
  have := Nat.mul_le_mul_right (cs.length + 5) this;omega
 have late : ∀ z : Pr, 6 ≤ z.phase → stl ds l z = false := fun z hz => by
  unfold stl; rw [if_neg (by omega), decide_eq_false (by omega), Bool.false_and]
 have same : ∀ n : Int, n ≤ 4 → (pr ps p).phase ≤ 4 → stl ds l { pr ps p with phase := n } = true → stl cs l (pr ps p) = true := fun n hn h4 he => by
  rw [stl_same hr] at he;unfold stl at he ⊢;rw [if_neg (by omega), decide_eq_true h4];rw [if_neg (by show n ≠ 5; omega), decide_eq_true (by show n ≤ 4; omega)] at he;exact he
 generalize hx : pr ps p = x at *
 have hlt : ∀ z : Pr, 6 ≤ z.phase → y = z → rst cs y + 1 ≤ rst cs x → ((stl ds l y) = true → stl cs l x = true) ∧ (stl ds l y).toNat * (cs.length + 5) + rst cs y + 1 ≤ (stl cs l x).toNat * (cs.length + 5) + rst cs x := fun z hz e h2 =>
  key (fun e2 => by rw [e, late z hz] at e2; cases e2) h2
 cases t with
 |adv e hl =>
  have hs1 := (z21.1 hl).2.1
  have hsl : z1n cs x.succ (rt cs x.succ) = true := by
   rcases hP.sT.2.2 with g | g
   ·exact absurd g hs1
   ·exact g
  have h3 := h.core.clo _ hP.sT hs1;refine key (fun he => ?_) ?_
  ·cases hs : stl cs l x with
   |true => rfl
   |false =>
    exfalso
    unfold stl at hs he;rw [if_neg (by omega), decide_eq_true (by omega), Bool.true_and, Bool.not_eq_false', Bool.and_eq_true, decide_eq_true_eq, beq_iff_eq] at hs;rw [if_neg (by show x.phase ≠ 5; omega), decide_eq_true (by show x.phase ≤ 4; omega), Bool.true_and] at he;have h1 : x.pred ≠ 1 := (z21.1 hP.pl).2.1;have hm := (h.core.next_mem hs.1 h1).1;rw [hs.2] at hm;simp at he;exact absurd (by simpa using List.mem_cons_of_mem (0 : Int) hm) (by simpa using he)
  ·have h4 := meas_lt ⟨h3.1, h3.2.1⟩ hsl;unfold rst;rw [if_pos (show x.phase = 1 from e), if_pos e]
   show meas cs (rt cs x.succ) + 9 + 1 ≤ _
   omega
 |seek e hl hk3 => exact key (same 4 (by omega) (by omega)) (by simp only [rst, e]; simp)
 |aim e hl hk3 => exact key (same 2 (by omega) (by omega)) (by simp only [rst, e]; simp)
 |lockP e hf => exact key (same 3 (by omega) (by omega)) (by simp [rst, e])
 |lockS e hf => exact key (same 4 (by omega) (by omega)) (by simp [rst, e])
 |found e hk3 => exact absurd rfl (z5o.1 hy).2
 |again e hk3 hb =>
  refine key (fun _ => ?_) (by simp [rst, e]);rw [← hx]; exact h.stale hp (by rw [hx]; exact ha) (by rw [hx]; exact e) (by rw [hx]; exact hk3) (by rw [hx]; exact hb)
 |ins e hk1 hb hs => exact hlt _ (by show (6 : Int) ≤ 6; decide) rfl (by simp [rst, e])
 |rem e hk1 hb hs => exact hlt _ (by show (6 : Int) ≤ 9; decide) rfl (by simp [rst, e])
 |no e hk1 hb h1 h2 => exact hlt _ (by show (6 : Int) ≤ 13; decide) rfl (by simp [rst, e])
 |retry e =>
  have h1 : stl cs l x = true := by unfold stl; rw [if_pos e]
  have h2 : stl (unlk cs p) l { x with pred := 0, succ := rt cs 0, phase := 1 } = false := by
   unfold stl;rw [if_neg (by show (1 : Int) ≠ 5; decide)];simp [rt_unlk]
  rw [h1, h2];refine ⟨(fun e => by cases e), ?_⟩;have h3 : rst cs { x with pred := 0, succ := rt cs 0, phase := 1 } = meas cs (rt cs 0) + 9 := by unfold rst; rw [if_pos rfl]
  have h4 : rst cs x = 5 := by simp [rst, e]
  have := meas_le cs (rt cs 0);rw [h3, h4]; simp; omega
 |link0 e => exact hlt _ (by show (6 : Int) ≤ 7; decide) rfl (by simp [rst, e])
 |link1 e => exact hlt _ (by show (6 : Int) ≤ 8; decide) rfl (by simp [rst, e])
 |link2 e => exact hlt _ (by show (6 : Int) ≤ 13; decide) rfl (by simp [rst, e])
 |lockN e hf => exact hlt _ (by show (6 : Int) ≤ 10; decide) rfl (by simp [rst, e])
 |un0 e => exact hlt _ (by show (6 : Int) ≤ 11; decide) rfl (by simp [rst, e])
 |un1 e => exact hlt _ (by show (6 : Int) ≤ 12; decide) rfl (by simp [rst, e])
 |un2 e => exact hlt _ (by show (6 : Int) ≤ 13; decide) rfl (by simp [rst, e])
 |rel e => exact absurd rfl (z5o.1 hy).2
def wt (cs : List Cl) (x : Pr) : Int := if x.phase = 2 then x.pred else if x.phase = 3 then x.succ else rt cs x.cell
theorem waits {cs : List Cl} {x : Pr} (ha : z43 x = true) (hk : z2q x.phase = true) (hs : z3q cs x = false) : (x.phase = 2 ∨ x.phase = 3 ∨ x.phase = 9) ∧ lk cs (wt cs x) ≠ 0 := by
 have h1 := z5o.1 ha;simp only [z2q, decide_eq_true_eq] at hk;rw [z3q, decide_eq_true (by omega), Bool.true_and, Bool.not_eq_false'] at hs;simp only [waitK, Bool.or_eq_true, Bool.and_eq_true, beq_iff_eq, bne_iff_ne, ne_eq] at hs;unfold wt;rcases hs with (⟨e, g⟩ | ⟨e, g⟩) | ⟨e, g⟩
 ·exact ⟨.inl e, by rw [if_pos e]; exact g⟩
 ·exact ⟨.inr (.inl e), by rw [if_neg (by omega), if_pos e]; exact g⟩
 ·exact ⟨.inr (.inr e), by rw [if_neg (by omega), if_neg (by omega)]; exact g⟩
theorem wt_in {cs : List Cl} {ps : List Pr} (hv : Vld cs ps) {p : Nat} (hp : p < ps.length) : 0 ≤ wt cs (pr ps p) ∧ wt cs (pr ps p) < cs.length := by
 have ok := hv.proc p hp;unfold wt
 split
 ·exact ok.pred
 ·split
  ·exact ok.succ
  ·exact rt_in hv ok.cell.1 ok.cell.2
theorem hol_less {cs : List Cl} {ps : List Pr} {l : List Int} (h : Inv cs ps l) {p : Nat} (hp : p < ps.length) (ha : z43 (pr ps p) = true) (hw : (pr ps p).phase = 2 ∨ (pr ps p).phase = 3 ∨ (pr ps p).phase = 9) {i : Int} (hi : hol (pr ps p) i = true) : z1n cs i (wt cs (pr ps p)) = true := by
 have hP := h.prc p hp ha;have ok := (z4k h.vb).proc p hp;have hd := dst_of h.vb
 generalize hx : pr ps p = x at *
 simp only [hol, Bool.and_eq_true, Bool.not_eq_true', Bool.or_eq_false_iff, Bool.or_eq_true, beq_iff_eq, bne_iff_ne, decide_eq_true_eq, beq_eq_false_iff_ne] at hi;obtain ⟨⟨⟨⟨hk, _⟩, _⟩, h2⟩, hi⟩ := hi;rcases hw with e | e | e
 ·exact absurd e h2
 ·have e1 : i = x.pred := by omega
  have e2 : wt cs x = x.succ := by unfold wt; rw [if_neg (by omega), if_pos e]
  rw [e1, e2];have hge := hP.ge (by omega)
  by_cases es : x.succ = x.cell
  ·rw [es]; exact hP.pl
  ·exact z2g hP.pl (hd.total ok.succ ok.cell es hge)
 ·obtain ⟨_, e3, _⟩ := hP.r9 (.inl e);have e2 : wt cs x = rt cs x.cell := by unfold wt; rw [if_neg (by omega), if_neg (by omega)]
  have hc : z1n cs x.cell (rt cs x.cell) = true := by
   have := hP.sT.2.2;rw [e3] at this;rcases this with g | g
   ·have := hP.c2; omega
   ·exact g
  rw [e2];rcases hi with (g | g) | g
  ·rw [g]; exact z2g hP.pl hc
  ·rw [g.1, e3]; exact hc
  ·omega
theorem can_step {cs : List Cl} {ps : List Pr} {l : List Int} (h : Inv cs ps l) : ∀ (n : Nat) {p : Nat}, p < ps.length → z43 (pr ps p) = true → meas cs (wt cs (pr ps p)) < n → ∃ q, q < ps.length ∧ z3q cs (pr ps q) = true
 |0, _, _, _, hm => absurd hm (by omega)
 |n + 1, p, hp, ha, hm => by
  have hv := z4k h.vb
  cases hs : z3q cs (pr ps p) with
  |true => exact ⟨p, hp, hs⟩
  |false =>
   obtain ⟨h1, h2⟩ := waits ha (hv.phase p hp) hs;have hw := wt_in hv hp;have hc := (hv.cell (wt cs (pr ps p)).toNat (by omega)).2.2;have hc1 : 0 ≤ lk cs (wt cs (pr ps p)) ∧ lk cs (wt cs (pr ps p)) ≤ ps.length := hc;have hq : (lk cs (wt cs (pr ps p)) - 1).toNat < ps.length := by omega
   have hh := (h.lks _ hw.1 hw.2 _ hq).1 (by omega)
   generalize (lk cs (wt cs (pr ps p)) - 1).toNat = q at hq hh
   have hqa : z43 (pr ps q) = true := by
    cases hz : z43 (pr ps q) with
    |true => rfl
    |false => rw [hol_idle hz] at hh; cases hh
   cases hs2 : z3q cs (pr ps q) with
   |true => exact ⟨q, hq, hs2⟩
   |false =>
    have h3 := (waits hqa (hv.phase q hq) hs2).1;have h4 := meas_lt (wt_in hv hq) (hol_less h hq hqa h3 hh);exact can_step h n hq hqa (by omega)
theorem actN_some {ps : List Pr} : ∀ {n : Nat}, 0 < actN ps n → ∃ i, i < n ∧ z43 (pr ps i) = true
 |0, h => absurd h (by simp [actN])
 |n + 1, h => by
  rw [actN] at h
  cases hz : z43 (pr ps n) with
  |true => exact ⟨n, by omega, hz⟩
  |false =>
   rw [hz] at h;obtain ⟨i, h1, h2⟩ := actN_some (n := n) (by simpa using h);exact ⟨i, by omega, h2⟩
end Go.Proofs

set_option linter.unusedSimpArgs false
set_option linter.unusedVariables false
set_option maxRecDepth 4000
namespace Go.Proofs
open Go.Sk
/-- What the process's step leaves of its view and its rank. -/
theorem Inv.rank {cs ds : List Cl} {ps : List Pr} {l l' : List Int} {y : Pr} (h : Inv cs ps l) {p : Nat} (hp : p < ps.length) (ha : z43 (pr ps p) = true) (t : Tr cs p (pr ps p) ds y) (h' : Inv ds (ps.set p y) l') (hy : z43 y = true) (hs : stl cs l (pr ps p) = false) :
  stl ds l' y = false ∧ rst ds y + 1 ≤ rst cs (pr ps p) := by
 obtain ⟨hk, hr⟩ := h.rts hp ha t;have hrr : ∀ x, rst ds x = rst cs x := fun x => by unfold rst; rw [hk.meas]
 rw [hrr];rcases hr with ⟨h7, h11, hr⟩ | hr
 ·have e : l' = l := Seg.det h'.core.seg (h.core.seg.frame hk fun x hx _ => hr x hx);subst e;have h1 := rst_step h hp ha t hr hk hy
  have h2 : stl ds l' y = false := by
   cases hz : stl ds l' y with
   |false => rfl
   |true => have := h1.1 hz; rw [hs] at this; cases this
  have h3 := h1.2;rw [hs, h2] at h3;exact ⟨h2, by simpa using h3⟩
 ·rcases hr with ⟨e1, e⟩ | ⟨e1, e⟩
  ·have yp : y.phase = 8 := by rw [e]
   exact ⟨by unfold stl; rw [if_neg (by omega), decide_eq_false (by omega)]; rfl, by simp [rst, e1, yp]⟩
  ·have yp : y.phase = 12 := by rw [e]
   exact ⟨by unfold stl; rw [if_neg (by omega), decide_eq_false (by omega)]; rfl, by simp [rst, e1, yp]⟩
/-- What one operation alone makes: its result, and which cells are members behind it; c0: the cells at its start. -/
structure Fin1 (c0 cs : List Cl) (kind cell : Int) (res : Bool) : Prop where
 r : res = (!gn c0 cell == (kind != 1))
 m : gn cs cell = if kind = 3 then gn c0 cell else kind == 2
/-- What is so of the process's cell at a phase. -/
structure At1 (c0 cs : List Cl) (x : Pr) : Prop where
 pre : x.phase ≤ 4 → x.res = false ∧ gn cs x.cell = gn c0 x.cell
 i67 : x.phase = 6 ∨ x.phase = 7 → gn c0 x.cell = true ∧ gn cs x.cell = true
 i8 : x.phase = 8 → gn c0 x.cell = true ∧ gn cs x.cell = false
 r9 : x.phase = 9 ∨ x.phase = 10 → gn c0 x.cell = false ∧ gn cs x.cell = false
 r11 : x.phase = 11 ∨ x.phase = 12 → gn c0 x.cell = false ∧ gn cs x.cell = true
 fin : x.phase = 13 ∨ x.phase = 18 → Fin1 c0 cs x.kind x.cell x.res
/-- Between the start and the end of an operation of process 0 alone; n: steps so far. -/
structure SW (c0 cs : List Cl) (ps : List Pr) (l : List Int) (kind cell : Int) (n : Nat) : Prop where
 inv : Inv cs ps l
 idle : ∀ q, 1 ≤ q → q < ps.length → z43 (pr ps q) = false
 kd : (pr ps 0).kind = kind
 ce : (pr ps 0).cell = cell
 c2 : 2 ≤ cell
 k3 : 1 ≤ kind ∧ kind ≤ 3
 len : cs.length = c0.length
 key : z4e c0 cs
 cnt : z43 (pr ps 0) = true → n + rst cs (pr ps 0) ≤ cs.length + 9
 lim : n ≤ cs.length + 9
 near : z43 (pr ps 0) = true → stl cs l (pr ps 0) = false
 oth : ∀ j : Int, 0 ≤ j → j ≠ cell → gn cs j = gn c0 j
 at1 : At1 c0 cs (pr ps 0)
 nz : (pr ps 0).phase ≠ 0
theorem alone {cs : List Cl} {ps : List Pr} {l : List Int} (h : Inv cs ps l) (hi : ∀ q, 1 ≤ q → q < ps.length → z43 (pr ps q) = false) (ha : z43 (pr ps 0) = true) : z3q cs (pr ps 0) = true := by
 have hl := (z4k h.vb).one;obtain ⟨q, h1, h2⟩ := can_step h _ (by omega) ha (Nat.lt_succ_self _)
 by_cases e : q = 0
 ·subst e; exact h2
 ·have := step_act h2;rw [hi q (by omega) h1] at this; cases this
theorem not_stale {cs : List Cl} {l : List Int} {x : Pr} (h4 : x.phase ≤ 4) (h : stl cs l x = false) : x.pred ∈ 0 :: l ∧ rt cs x.pred = x.succ := by
 unfold stl at h;rw [if_neg (by omega), decide_eq_true h4, Bool.true_and, Bool.not_eq_false', Bool.and_eq_true, decide_eq_true_eq, beq_iff_eq] at h;exact h
/-- Where the process stands, its cell is linked exactly if it is the next one. -/
theorem Inv.gap_cell {cs : List Cl} {ps : List Pr} {l : List Int} (h : Inv cs ps l) {p : Nat} (hp : p < ps.length) (ha : z43 (pr ps p) = true) (h4 : (pr ps p).phase ≤ 4) (hs : stl cs l (pr ps p) = false) (hl : z1n cs (pr ps p).succ (pr ps p).cell = false) (hne : (pr ps p).succ ≠ (pr ps p).cell) : gn cs (pr ps p).cell = true := by
 have hP := h.prc p hp ha;have hO := (z4k h.vb).proc p hp;obtain ⟨hm, hr⟩ := not_stale h4 hs;have h3 := (dst_of h.vb).total hO.succ hO.cell hne hl;have hn := h.core.gap hm hP.pl (by rw [hr]; exact h3)
 cases hg : gn cs (pr ps p).cell with
 |true => rfl
 |false => exact absurd (List.mem_cons_of_mem _ (h.core.inl _ hP.c2 hO.cell.2 hg)) hn
set_option maxHeartbeats 1000000 in
theorem At1.step {c0 cs ds : List Cl} {ps : List Pr} {l : List Int} {y : Pr} (h : Inv cs ps l) {p : Nat} (hp : p < ps.length) (ha : z43 (pr ps p) = true) (t : Tr cs p (pr ps p) ds y) (hs : stl cs l (pr ps p) = false) (hA : At1 c0 cs (pr ps p))
  (hk3 : 1 ≤ (pr ps p).kind ∧ (pr ps p).kind ≤ 3) : At1 c0 ds y ∧ ∀ j : Int, 0 ≤ j → j ≠ (pr ps p).cell → gn ds j = gn cs j := by
 have hP := h.prc p hp ha;have hO := (z4k h.vb).proc p hp;have hgap := h.gap_cell hp ha
 have hst : ∀ (h4 : (pr ps p).phase = 4) (hk : (pr ps p).kind ≠ 3), failK cs (pr ps p) = true → False := fun h4 hk hb => by
  have := h.stale hp ha h4 hk hb;rw [hs] at this; cases this
 have n5 : (pr ps p).phase ≠ 5 := fun e => by unfold stl at hs; rw [if_pos e] at hs; cases hs
 have hm := h.marks hp ha t
 generalize pr ps p = x at *
 have quiet : (∀ i : Int, 0 ≤ i → gn ds i = gn cs i) → ∀ j : Int, 0 ≤ j → j ≠ x.cell → gn ds j = gn cs j := fun hg j hj _ => hg j hj;have c0' : (0 : Int) ≤ x.cell := hO.cell.1
 -- the parts that a phase leaves empty
 have mk : ∀ z : Pr, (z.phase ≤ 4 → z.res = false ∧ gn ds z.cell = gn c0 z.cell) → (z.phase = 6 ∨ z.phase = 7 → gn c0 z.cell = true ∧ gn ds z.cell = true) → (z.phase = 8 → gn c0 z.cell = true ∧ gn ds z.cell = false) → (z.phase = 9 ∨ z.phase = 10 → gn c0 z.cell = false ∧ gn ds z.cell = false) → (z.phase = 11 ∨ z.phase = 12 → gn c0 z.cell = false ∧ gn ds z.cell = true) → (z.phase = 13 ∨ z.phase = 18 → Fin1 c0 ds z.kind z.cell z.res) → At1 c0 ds z := fun z a b c d e f => ⟨a, b, c, d, e, f⟩
 have hgq : x.phase ≠ 7 → x.phase ≠ 10 → ∀ i : Int, 0 ≤ i → gn ds i = gn cs i := fun h7 h10 => by
  rcases hm.2 with a | a | a
  ·exact a.1
  ·exact absurd a.1 h7
  ·exact absurd a.1 h10
 have early : x.phase ≤ 4 → ∀ z : Pr, z.phase ≤ 4 → z.cell = x.cell → z.res = x.res → At1 c0 ds z ∧ ∀ j : Int, 0 ≤ j → j ≠ x.cell → gn ds j = gn cs j := fun h4 z hz hc hr => by
  have hg := hgq (by omega) (by omega);refine ⟨mk z (fun _ => ?_) (fun g => by omega) (fun g => by omega) (fun g => by omega) (fun g => by omega) (fun g => by omega), quiet hg⟩;rw [hr, hc, hg _ c0']; exact hA.pre h4
 cases t with
 |adv e hl => exact early (by omega) _ (by show x.phase ≤ 4; omega) rfl rfl
 |seek e hl hk => exact early (by omega) _ (by show (4 : Int) ≤ 4; decide) rfl rfl
 |aim e hl hk => exact early (by omega) _ (by show (2 : Int) ≤ 4; decide) rfl rfl
 |lockP e hf => exact early (by omega) _ (by show (3 : Int) ≤ 4; decide) rfl rfl
 |lockS e hf => exact early (by omega) _ (by show (4 : Int) ≤ 4; decide) rfl rfl
 |found e hk =>
  have hpre := hA.pre (by omega);refine ⟨mk _ (fun g => by dsimp only at g; omega) (fun g => by dsimp only at g; omega) (fun g => by dsimp only at g; omega) (fun g => by dsimp only at g; omega) (fun g => by dsimp only at g; omega) fun _ => ⟨?_, ?_⟩, fun _ _ _ => rfl⟩
  ·show (x.succ == x.cell && !gn cs x.cell) = _
   rw [hk]
   by_cases es : x.succ = x.cell
   ·rw [es, ← hpre.2]; cases gn cs x.cell <;> simp
   ·have hg := hgap (by omega) hs (hP.ge (by omega)) es;rw [← hpre.2, hg]; simp
  ·show gn cs x.cell = if x.kind = 3 then gn c0 x.cell else _
   rw [if_pos hk]; exact hpre.2
 |again e hk hb => exact (hst e hk hb).elim
 |ins e hk hb hsc =>
  have hpre := hA.pre (by omega);have hg := hgap (by omega) hs (hP.ge (by omega)) hsc;refine ⟨mk _ (fun g => by dsimp only at g; omega) (fun _ => ?_) (fun g => by dsimp only at g; omega) (fun g => by dsimp only at g; omega) (fun g => by dsimp only at g; omega) (fun g => by dsimp only at g; omega), fun _ _ _ => rfl⟩;exact ⟨hpre.2 ▸ hg, hg⟩
 |rem e hk hb hsc =>
  have hpre := hA.pre (by omega);have hg : gn cs x.cell = false := hsc ▸ (fail_iff.1 hb).2.1;refine ⟨mk _ (fun g => by dsimp only at g; omega) (fun g => by dsimp only at g; omega) (fun g => by dsimp only at g; omega) (fun _ => ?_) (fun g => by dsimp only at g; omega) (fun g => by dsimp only at g; omega), fun _ _ _ => rfl⟩;exact ⟨hpre.2 ▸ hg, hg⟩
 |no e hk hb h1 h2 =>
  have hpre := hA.pre (by omega);refine ⟨mk _ (fun g => by dsimp only at g; omega) (fun g => by dsimp only at g; omega) (fun g => by dsimp only at g; omega) (fun g => by dsimp only at g; omega) (fun g => by dsimp only at g; omega) fun _ => ?_, fun _ _ _ => rfl⟩;have hk12 : x.kind = 1 ∨ x.kind = 2 := by omega
  rcases hk12 with k1 | k2
  ·have hg : gn cs x.cell = false := h1 k1 ▸ (fail_iff.1 hb).2.1;refine ⟨?_, ?_⟩
   ·show x.res = _
    rw [hpre.1, ← hpre.2, hg, k1]; rfl
   ·show gn cs x.cell = if x.kind = 3 then _ else _
    rw [hg, k1]; rfl
  ·have hg := hgap (by omega) hs (hP.ge (by omega)) (h2 k2);refine ⟨?_, ?_⟩
   ·show x.res = _
    rw [hpre.1, ← hpre.2, hg, k2]; rfl
   ·show gn cs x.cell = if x.kind = 3 then _ else _
    rw [hg, k2]; rfl
 |retry e => exact absurd e n5
 |link0 e =>
  have hg := hgq (by omega) (by omega);refine ⟨mk _ (fun g => by dsimp only at g; omega) (fun _ => ?_) (fun g => by dsimp only at g; omega) (fun g => by dsimp only at g; omega) (fun g => by dsimp only at g; omega) (fun g => by dsimp only at g; omega), quiet hg⟩;have := hA.i67 (.inl e);exact ⟨this.1, by show gn _ x.cell = true; rw [hg _ c0']; exact this.2⟩
 |link1 e =>
  have h0 := hA.i67 (.inr e);rcases hm.2 with a | a | a
  ·exact absurd e a.2.1
  ·obtain ⟨_, _, _, _, a5⟩ := a;refine ⟨mk _ (fun g => by dsimp only at g; omega) (fun g => by dsimp only at g; omega) (fun _ => ⟨h0.1, ?_⟩) (fun g => by dsimp only at g; omega) (fun g => by dsimp only at g; omega) (fun g => by dsimp only at g; omega), fun j hj hne => by rw [a5 j hj, if_neg hne]⟩
   show gn _ x.cell = false
   rw [a5 _ c0', if_pos rfl]
  ·have := a.1; omega
 |link2 e =>
  have hg := hgq (by omega) (by omega);have h0 := hA.i8 e;have hk1 := (hP.i8 e).1;refine ⟨mk _ (fun g => by dsimp only at g; omega) (fun g => by dsimp only at g; omega) (fun g => by dsimp only at g; omega) (fun g => by dsimp only at g; omega) (fun g => by dsimp only at g; omega) fun _ => ⟨?_, ?_⟩, quiet hg⟩
  ·show true = _
   rw [h0.1, hk1]; rfl
  ·show gn _ x.cell = if x.kind = 3 then _ else _
   rw [hg _ c0', h0.2, hk1]; rfl
 |lockN e hf =>
  have hg := hgq (by omega) (by omega);have h0 := hA.r9 (.inl e);refine ⟨mk _ (fun g => by dsimp only at g; omega) (fun g => by dsimp only at g; omega) (fun g => by dsimp only at g; omega) (fun _ => ⟨h0.1, ?_⟩) (fun g => by dsimp only at g; omega) (fun g => by dsimp only at g; omega), quiet hg⟩
  show gn _ x.cell = false
  rw [hg _ c0']; exact h0.2
 |un0 e =>
  have h0 := hA.r9 (.inr e);rcases hm.2 with a | a | a
  ·exact absurd e a.2.2.1
  ·have := a.1; omega
  ·obtain ⟨_, _, _, _, a5⟩ := a;refine ⟨mk _ (fun g => by dsimp only at g; omega) (fun g => by dsimp only at g; omega) (fun g => by dsimp only at g; omega) (fun g => by dsimp only at g; omega) (fun _ => ⟨h0.1, ?_⟩) (fun g => by dsimp only at g; omega), fun j hj hne => by rw [a5 j hj, if_neg hne]⟩
   show gn _ x.cell = true
   rw [a5 _ c0', if_pos rfl]
 |un1 e =>
  have hg := hgq (by omega) (by omega);have h0 := hA.r11 (.inl e);refine ⟨mk _ (fun g => by dsimp only at g; omega) (fun g => by dsimp only at g; omega) (fun g => by dsimp only at g; omega) (fun g => by dsimp only at g; omega) (fun _ => ⟨h0.1, ?_⟩) (fun g => by dsimp only at g; omega), quiet hg⟩
  show gn _ x.cell = true
  rw [hg _ c0']; exact h0.2
 |un2 e =>
  have hg := hgq (by omega) (by omega);have h0 := hA.r11 (.inr e);have hk2 := (hP.r12 e).1;refine ⟨mk _ (fun g => by dsimp only at g; omega) (fun g => by dsimp only at g; omega) (fun g => by dsimp only at g; omega) (fun g => by dsimp only at g; omega) (fun g => by dsimp only at g; omega) fun _ => ⟨?_, ?_⟩, quiet hg⟩
  ·show true = _
   rw [h0.1, hk2]; rfl
  ·show gn _ x.cell = if x.kind = 3 then _ else _
   rw [hg _ c0', h0.2, hk2]; rfl
 |rel e =>
  have hg := hgq (by omega) (by omega);have h0 := hA.fin (.inl e);refine ⟨mk _ (fun g => by dsimp only at g; omega) (fun g => by dsimp only at g; omega) (fun g => by dsimp only at g; omega) (fun g => by dsimp only at g; omega) (fun g => by dsimp only at g; omega) fun _ => ⟨h0.r, ?_⟩, quiet hg⟩
  show gn _ x.cell = _
  rw [hg _ c0']; exact h0.m
theorem Tr.kind {cs ds : List Cl} {p : Nat} {x y : Pr} (t : Tr cs p x ds y) : y.kind = x.kind ∧ y.cell = x.cell ∧ y.phase ≠ 0 := by
 cases t <;> refine ⟨rfl, rfl, ?_⟩ <;> dsimp only <;> omega
theorem SW.step {c0 cs : List Cl} {ps : List Pr} {l : List Int} {kind cell : Int} {n : Nat} (h : SW c0 cs ps l kind cell n) (ha : z43 (pr ps 0) = true) :
  z30 cs ps 0 = true ∧ n + 1 ≤ cs.length + 9 ∧ (z38 cs ps 0).1.length = cs.length ∧ ∃ l', SW c0 (z38 cs ps 0).1 (z38 cs ps 0).2 l' kind cell (n + 1) := by
 have hv := z4k h.inv.vb;have hl1 := hv.one;have hsb := alone h.inv h.idle ha
 have hok : z30 cs ps 0 = true := by
  rw [z30, h.inv.vb, Bool.true_and, Bool.and_eq_true];refine ⟨?_, hsb⟩;rw [goesB, decide_eq_false (by omega), decide_eq_false (by omega)]; rfl
 obtain ⟨_, hqn, _, ht, hr, l', hI⟩ := h.inv.act_step hok;have e0 : (0 : Int).toNat = 0 := rfl;rw [e0] at hr hI ht hqn;have hcnt := h.cnt ha;have hrp := rst_pos cs (pr ps 0);have hk := (h.inv.rts hqn ha ht).1;have hA := h.at1.step h.inv hqn ha ht (h.near ha) (by rw [h.kd]; exact h.k3);obtain ⟨tk, tc, tz⟩ := ht.kind;have hrank := h.inv.rank hqn ha ht hI;have hnear := h.near ha;refine ⟨hok, by omega, by rw [hr]; exact hk.len, l', ?_⟩;rw [hr];dsimp only;have hpe := z3w (v := z2e cs (pr ps 0)) hqn;refine ⟨hI, fun q h1 h2 => ?_, ?_, ?_, h.c2, h.k3, ?_, h.key.trans hk, ?_, ?_, ?_, ?_, ?_, ?_⟩
 ·rw [List.length_set] at h2;rw [z35 (by omega)]; exact h.idle q h1 h2
 ·rw [hpe, tk]; exact h.kd
 ·rw [hpe, tc]; exact h.ce
 ·rw [hk.len]; exact h.len
 ·rw [hpe];intro hy;have := hrank hy hnear;rw [hk.len]; omega
 ·rw [hk.len]; omega
 ·rw [hpe];intro hy;exact (hrank hy hnear).1
 ·intro j hj hne;rw [hA.2 j hj (by rw [h.ce]; exact hne)]; exact h.oth j hj hne
 ·rw [hpe]; exact hA.1
 ·rw [hpe]; exact tz
theorem SW.fin {c0 cs : List Cl} {ps : List Pr} {l : List Int} {kind cell : Int} {n : Nat} (h : SW c0 cs ps l kind cell n) (ha : z43 (pr ps 0) = false) : Fin1 c0 cs kind cell (pr ps 0).res := by
 have h1 : (pr ps 0).phase = 18 := by
  refine Decidable.byContradiction fun g => ?_;rw [z5o.2 ⟨h.nz, g⟩] at ha; cases ha
 have := h.at1.fin (.inr h1);rw [h.kd, h.ce] at this;exact this
theorem start_err {cs : List Cl} {ps : List Pr} {l : List Int} (h : Inv cs ps l) (hi : ∀ q, q < ps.length → z43 (pr ps q) = false) {kind cell : Int} (hk : 1 ≤ kind ∧ kind ≤ 3) (hc : 2 ≤ cell) :
  z4b cs ps 0 kind cell = if (cs.length : Int) ≤ cell then 6 else 0 := by
 have hl := h.lens;rw [z4b, h.vb];simp only [Bool.not_true, Bool.false_eq_true, if_false];rw [if_neg (by simp; intro e; rw [e] at hl; simp at hl)]
 by_cases c : (cs.length : Int) ≤ cell
 ·rw [if_pos (by simp; omega), if_pos c]
 ·rw [if_neg (by simp; omega), if_neg c, if_neg (by simp [kindBad]; omega)];have := hi 0 (by omega);rw [show (0 : Int).toNat = 0 from rfl, this]
  rfl
theorem SW.begin {cs : List Cl} {ps : List Pr} {l : List Int} (h : Inv cs ps l) (hi : ∀ q, q < ps.length → z43 (pr ps q) = false) {kind cell : Int} (he : z4b cs ps 0 kind cell = 0) :
  SW cs (z2r cs ps 0 kind cell).1 (z2r cs ps 0 kind cell).2 l kind cell 0 := by
 obtain ⟨_, hp, hc, hk, hna⟩ := startE_zero he;have hI := h.start he;have hl := h.lens;rw [z2r, if_pos he];have hx : pr (startP cs ps 0 kind cell) 0 = ⟨kind, cell, 1, 0, (cl cs 0).right, 0, false⟩ := by unfold startP; exact z3w (by show 0 < ps.length; omega)
 refine ⟨hI, fun q h1 h2 => ?_, by rw [hx], by rw [hx], hc.1, hk, rfl, .refl _, ?_, by omega, ?_, fun _ _ _ => rfl, ?_, by rw [hx]; show (1 : Int) ≠ 0; decide⟩
 ·dsimp only at h2 ⊢;rw [z6e] at h2;unfold startP;rw [z35 (by show (0 : Int).toNat ≠ q; simp; omega)];exact hi q h2
 ·intro _;dsimp only;rw [hx];have := rst_le cs ⟨kind, cell, 1, 0, (cl cs 0).right, 0, false⟩;omega
 ·intro _;dsimp only;rw [hx];unfold stl;rw [if_neg (by show (1 : Int) ≠ 5; decide)];simp [rt]
 ·dsimp only;rw [hx];exact ⟨fun _ => ⟨rfl, rfl⟩, fun g => by dsimp only at g; omega, fun g => by dsimp only at g; omega, fun g => by dsimp only at g; omega, fun g => by dsimp only at g; omega, fun g => by dsimp only at g; omega⟩
theorem actN_none {ps : List Pr} : ∀ {n : Nat}, actN ps n = 0 → ∀ i, i < n → z43 (pr ps i) = false
 |n + 1, h, i, hi => by
  rw [actN] at h
  by_cases e : i = n
  ·subst e
   cases ha : z43 (pr ps i) with
   |false => rfl
   |true => rw [ha] at h; simp at h
  ·exact actN_none (n := n) (by omega) i (by omega)
theorem SW.busy {c0 cs : List Cl} {ps : List Pr} {l : List Int} {kind cell : Int} {n : Nat} (h : SW c0 cs ps l kind cell n) (hb : 0 < actN ps ps.length) : z43 (pr ps 0) = true := by
 obtain ⟨i, h1, h2⟩ := actN_some hb
 by_cases e : i = 0
 ·subst e; exact h2
 ·rw [h.idle i (by omega) h1] at h2; cases h2
/-- Members behind an operation. -/
theorem SW.mem {c0 cs : List Cl} {p0 ps : List Pr} {l0 l : List Int} {kind cell : Int} {n : Nat} (h0 : Inv c0 p0 l0) (h : SW c0 cs ps l kind cell n) (ha : z43 (pr ps 0) = false) (hcl : cell < c0.length) :
  (pr ps 0).res = (hasB (z12 c0 p0) cell == (kind != 1)) ∧ (kind = 3 → z12 cs ps = z12 c0 p0) ∧ (kind = 1 → hasB (z12 cs ps) cell = true) ∧ (kind = 2 → hasB (z12 cs ps) cell = false) ∧ ∀ j : Int, j ≠ cell → hasB (z12 cs ps) j = hasB (z12 c0 p0) j := by
 have hF := h.fin ha;have hc2 := h.c2
 have hb : ∀ {ds : List Cl} {qs : List Pr} {m : List Int}, Inv ds qs m → ∀ j : Int, hasB (z12 ds qs) j = (decide (2 ≤ j ∧ j < ds.length) && !gn ds j) := fun hI j => by
  rw [Bool.eq_iff_iff, hasB_iff, membersK_mem hI.vb];simp [and_assoc]
 have hlen := h.len;refine ⟨?_, fun e => ?_, fun e => ?_, fun e => ?_, fun j hj => ?_⟩
 ·rw [hF.r, hb h0, decide_eq_true ⟨hc2, hcl⟩, Bool.true_and]
  cases gn c0 cell <;> cases (kind != 1) <;> rfl
 ·refine membersK_congr h0.vb h.inv.vb h.key fun i h1 h2 => ?_
  by_cases ec : i = cell
  ·subst ec;have := hF.m;rw [if_pos e] at this; exact this
  ·exact h.oth i (by omega) ec
 ·have := hF.m;rw [if_neg (by omega), e] at this;rw [hb h.inv, decide_eq_true ⟨hc2, by omega⟩, this]; rfl
 ·have := hF.m;rw [if_neg (by omega), e] at this;rw [hb h.inv, this]; simp
 ·rw [hb h.inv, hb h0, hlen]
  by_cases e : 2 ≤ j ∧ j < c0.length
  ·rw [h.oth j (by omega) hj]
  ·rw [decide_eq_false e]; rfl
end Go.Proofs

set_option linter.unusedSimpArgs false
set_option linter.unusedVariables false
set_option maxRecDepth 4000
namespace Go.Proofs
open Go.Sk
theorem z3s {s e e1 : SV} {H g g1 : AH} (h1 : s = e) (h2 : H = g) (a1 : e = e1 := by simp only [after, z5h, id, z28, reduceCtorEq, Nat.reduceEqDiff, Nat.one_ne_zero, Nat.zero_ne_one, z3b, z1v, z1k, one, Obj.own, Obj.ren, Row.ren, SV.ren, SV.renL, List.map_cons, List.map_nil, List.nil_append, List.cons_append, ↓reduceIte, Nat.reduceLT, Nat.reduceAdd, Nat.reduceSub, Nat.reduceEqDiff, Nat.add_zero, Bool.false_eq_true, Tryd.tyInt, Tryd.szInt, Tryd.zInt, Tryd.tyInts, Tryd.szInts, Tryd.tyErr, Tryd.szErr, Tryd.zErr, Tryd.tyBool, Tryd.szBool, Tryd.zBool, Tryd.tyStr, Tryd.szStr, Tryd.tyCl, Tryd.szCl, Tryd.zCl, Tryd.tyPr, Tryd.szPr, Tryd.zPr, Tryd.tyCls, Tryd.szCls, Tryd.tyPrs, Tryd.szPrs, Tryd.tyLs, Tryd.szLs, Tryd.zLs, z13, zg, z15, zi, zm, zl, zn, z10, zo, z4o, z4p, z4q, z4r, z4s, z4v, z4w, z4x, z4y, z4z, z50, z51, z1y, z1z, Cl.sv, Pr.sv, zf, z9, z17, z1o, z1s, Tryd.tyTape, Tryd.szTape, Tryd.zTape, zq, lsS, lsH, z1s, z1o, z17, z1g, z20, z2h, z1g, lsS, lsH]; exact rfl) (a2 : g = g1 := by simp only [after, z5h, id, z28, reduceCtorEq, Nat.reduceEqDiff, Nat.one_ne_zero, Nat.zero_ne_one, z3b, z1v, z1k, one, Obj.own, Obj.ren, Row.ren, SV.ren, SV.renL, List.map_cons, List.map_nil, List.nil_append, List.cons_append, ↓reduceIte, Nat.reduceLT, Nat.reduceAdd, Nat.reduceSub, Nat.reduceEqDiff, Nat.add_zero, Bool.false_eq_true, Tryd.tyInt, Tryd.szInt, Tryd.zInt, Tryd.tyInts, Tryd.szInts, Tryd.tyErr, Tryd.szErr, Tryd.zErr, Tryd.tyBool, Tryd.szBool, Tryd.zBool, Tryd.tyStr, Tryd.szStr, Tryd.tyCl, Tryd.szCl, Tryd.zCl, Tryd.tyPr, Tryd.szPr, Tryd.zPr, Tryd.tyCls, Tryd.szCls, Tryd.tyPrs, Tryd.szPrs, Tryd.tyLs, Tryd.szLs, Tryd.zLs, z13, zg, z15, zi, zm, zl, zn, z10, zo, z4o, z4p, z4q, z4r, z4s, z4v, z4w, z4x, z4y, z4z, z50, z51, z1y, z1z, Cl.sv, Pr.sv, zf, z9, z17, z1o, z1s, Tryd.tyTape, Tryd.szTape, Tryd.zTape, zq, lsS, lsH, z1s, z1o, z17, z1g, z20, z2h, z1g, lsS, lsH]; exact rfl) : s = e1 ∧ H = g1 := ⟨h1.trans a1, h2.trans a2⟩
theorem z19 {a b c : Prop} (r : a → c) (h : b) (e : a = b := by simp only [stp, isQ, z4l, Sk.get, Sk.put, z33, z1p, ↓reduceIte, reduceCtorEq, Nat.reduceEqDiff, true_and, and_true, true_implies, implies_true, forall_const, imp_self, Bool.false_eq_true, false_implies, false_and, and_false, Bool.false_and, Bool.and_false, qop, grdK, List.getElem?_toArray, List.getElem?_cons_zero, List.getElem?_cons_succ, beq_true, beq_false, beq_self_eq_true, Bool.and_true, Bool.true_and, Bool.not_true, Bool.not_false, Bool.not_not, Bool.and_eq_true, Bool.not_eq_true', Bool.not_eq_false', z27, Bool.cond_true_left, Bool.cond_false_left, Bool.cond_true_right, Bool.cond_false_right, cond_true, cond_false, and_imp, z5d, Sk.find, one, Kd.agg, List.contains_nil, List.contains_cons, Nat.reduceBEq, Bool.or_false, Bool.true_or, Bool.or_true, Bool.false_or, ite_self, Nat.lt_one_iff, Nat.zero_add, Nat.add_zero, Nat.reduceAdd, Nat.reduceMul, Nat.reduceSub, Nat.reduceLT, Nat.reduceLeDiff, Nat.le_refl, Nat.zero_le, ne_eq, Nat.one_ne_zero, not_false_eq_true, not_true_eq_false, Int.toNat_natCast, Int.reduceToNat, List.length_cons, List.length_nil, and_self, Kd.slice.injEq, exists_eq', Option.map_some, Option.some.injEq, List.drop_zero, List.drop_succ_cons, List.take_succ_cons, List.take_zero, List.take_nil, List.drop_nil, List.nil_append, List.cons_append, List.append_nil, List.append_eq, List.all_cons, List.all_nil, spl, z3a, SV.cells, SV.scalar, binK, binII, binBB, intK, z3n, strK, z41, binAA, z54, unK, convK, z45, z46, z6b, z47, z48, optK, z4a, bndK, Option.isSome_some, Option.isSome_none, Nat.sub_zero, or_true, true_or, z40, z44, z62, z4j, lenK, z26.len, z5u, mmK, z2o, eop, copyK, srcK, z2i, setO, z4m, z31, z28, z3y, boxK, z32, z3p, z4c, updF, mkK, z68, z26.ofKd, z69, z26.add, z26.okKd, z49, z26.has, Tryd.tyInt, Tryd.szInt, Tryd.zInt, Tryd.tyInts, Tryd.szInts, Tryd.tyErr, Tryd.szErr, Tryd.zErr, Tryd.tyBool, Tryd.szBool, Tryd.zBool, Tryd.tyStr, Tryd.szStr, Tryd.tyCl, Tryd.szCl, Tryd.zCl, Tryd.tyPr, Tryd.szPr, Tryd.zPr, Tryd.tyCls, Tryd.szCls, Tryd.tyPrs, Tryd.szPrs, Tryd.tyLs, Tryd.szLs, Tryd.zLs, z13, zg, z15, zi, zm, zl, zn, z10, zo, z4o, z4p, z4q, z4r, z4s, z4v, z4w, z4x, z4y, z4z, z50, z51, z1y, z1z, Cl.sv, Pr.sv, zf, z9, z17, z1o, z1s, ints, Tryd.tyTape, Tryd.szTape, Tryd.zTape, zq, lsS, lsH, z1s, z1o, z17]; exact rfl) : c := r (Eq.mpr e h)
set_option maxHeartbeats 8000000 in
theorem serial_spec (ls : List Int) (hx : ls.length ≤ 9223372036854775807) :
  z1d Tryd.prog 7 [.slc false 0 0 0 ls.length] ⟨1, [(0, zf ls)]⟩ (fun s _ => s = .bool true) := by
 refine z1d.ofC false 150 [.tmp 2] Tryd.func7 rfl rfl Tryd.ntmps7 Tryd.results7 rfl ?_;intro w0 own0 β0 Q hQ hQn;simp only [z2d];refine Cs.seq ?_;refine Cs.reg [0] rfl ?_;intro K hK;(refine z19 z4 ?_; repeat (with_reducible apply ai;exact z3));refine z6 (z5 (hK _ _ ?_)); clear hK K;refine Cs.seq ?_;refine Cs.reg [3] rfl ?_;intro K hK;(refine z19 z4 ?_; repeat (with_reducible apply ai;exact z3));refine z19 z4 ?_;repeat (with_reducible apply ai;exact z3)
 refine z1q (new_spec ls hx) (id) ?_;rintro s0 H0 ⟨m, hm, rfl, rfl⟩ s1 H1 hs1 hH1;obtain ⟨hs2, hH2⟩ := z3s hs1 hH1;clear hs1 hH1;subst hs2 hH2;repeat (with_reducible apply ai;exact z3)
 (refine z19 z4 ?_; repeat (with_reducible apply ai;exact z3));refine z6 (z5 (hK _ _ ?_)); clear hK K;refine Cs.seq ?_;refine Cs.reg [3, 4, 5] rfl ?_;intro K hK;(refine z19 z4 ?_; repeat (with_reducible apply ai;exact z3));refine z19 z4 ?_;repeat (with_reducible apply ai;exact z3)
 refine z1q (made_spec ls m 0 hx hm (Nat.zero_le _)) (fun k => if k = 0 then 1 else 0) ?_;rintro s0 H0 ⟨keys, inn, np, at1, ⟨ha1, hmk⟩, rfl, rfl⟩ s1 H1 hs1 hH1;obtain ⟨hs2, hH2⟩ := z3s hs1 hH1;clear hs1 hH1;subst hs2 hH2;repeat (with_reducible apply ai;exact z3)
 have hk6 := hmk.len;have hp4 := hmk.four;have hI0 : ∃ l, Inv (newK keys inn keys.length) (List.replicate np noPr) l := ⟨_, inv_made hmk⟩;have hNN : ∀ q, q < (List.replicate np noPr).length → z43 (pr (List.replicate np noPr) q) = false := fun q hq => by rw [noPr_at]; rfl
 iterate 6 (refine z19 z4 ?_; repeat (with_reducible apply ai;exact z3))
 refine z6 (z5 (hK _ _ ?_)); clear hK K;refine Cs.seq ?_;refine Cs.seq ?_;refine Cs.reg [3, 4, 26] rfl ?_;intro K hK;iterate 2 (refine z19 z4 ?_; repeat (with_reducible apply ai;exact z3))
 refine z6 (z5 (hK _ _ ?_)); clear hK K;refine Cs.cond _ rfl ?_ ?_
 ·intro h26
  exfalso; cases h26
 ·intro h26
  
  refine Cs.skip ?_;refine Cs.seq ?_;refine Cs.reg [3, 4, 6] rfl ?_;intro K hK;(refine z19 z4 ?_; repeat (with_reducible apply ai;exact z3));refine z19 z4 ?_;repeat (with_reducible apply ai;exact z3)
  have hcl := z11 keys inn keys.length;have hpl : (List.replicate np noPr).length = np := List.length_replicate
  generalize newK keys inn keys.length = cs0 at *
  generalize List.replicate np noPr = ps0 at *
  rw [← hcl, ← hpl];rw [← hpl] at hp4;have hm0 := membersK_most cs0 ps0;refine z1q (members_spec cs0 ps0 cs0.length ps0.length rfl rfl (by omega) (by omega)) (fun k => k + 2) ?_;rintro s0 H0 ⟨rfl, rfl⟩ s1 H1 hs1 hH1;obtain ⟨hs2, hH2⟩ := z3s hs1 hH1;clear hs1 hH1;subst hs2 hH2;repeat (with_reducible apply ai;exact z3)
  (refine z19 z4 ?_; repeat (with_reducible apply ai;exact z3));refine z6 (z5 (hK _ _ ?_)); clear hK K;refine Cs.seq ?_;refine Cs.seq ?_;refine Cs.reg [3, 4, 6, 7] rfl ?_;intro K hK;(refine z19 z4 ?_; repeat (with_reducible apply ai;exact z3));refine z6 (z5 (hK _ _ ?_)); clear hK K;refine Cs.block ?_;intro Q0 hN0 hX0 hR0 hE0;refine Cs.loop (σ := (List Cl × List Pr) × Nat × Nat) (fun σ => ((∃ l, Inv σ.1.1 σ.1.2 l) ∧ (∀ q, q < σ.1.2.length → z43 (pr σ.1.2 q) = false) ∧ σ.1.1.length ≤ 8) ∧ σ.2.1 ≤ m ∧ σ.2.2 ≤ 8) (fun σ => 8 - σ.2.2) (fun σ => [(3, .ptr 1 0 0 0), (4, .ptr 4 0 0 0), (6, .slc true 5 0 0 (z12 σ.1.1 σ.1.2).length), (7, .int .i64 σ.2.2)]) (fun σ => ⟨6, [(1, zq 0 m σ.2.1), (5, z9 (z12 σ.1.1 σ.1.2)), (4, zl 2 σ.1.1.length 3 σ.1.2.length), (3, zi σ.1.2), (2, zg σ.1.1), (0, zf ls)]⟩) ((cs0, ps0), at1, 0) ⟨⟨hI0, hNN, by dsimp only; omega⟩, ha1, Nat.zero_le _⟩ (ρ := id) (z3f id) ?_;rintro ⟨⟨cs, ps⟩, at2, i⟩ hi QL1 hL1 hRL1 hEL1;clear hI0 hNN hm0 hcl;refine Cs.seq ?_;refine Cs.seq ?_;refine Cs.regG [3, 4, 6, 7, 34] rfl ?_;intro K hK hG
  have hk7 : (((∃ l, Inv cs ps l) ∧ (∀ q, q < ps.length → z43 (pr ps q) = false) ∧ cs.length ≤ 8) ∧ at2 ≤ m ∧ i ≤ 8) → ∀ B : Bool, (B = true → i < 8) → K [(3, .ptr 1 0 0 0), (4, .ptr 4 0 0 0), (6, .slc true 5 0 0 (z12 cs ps).length), (7, .int .i64 i), (34, .bool B)] ⟨6, [(1, zq 0 m at2), (5, z9 (z12 cs ps)), (4, zl 2 cs.length 3 ps.length), (3, zi ps), (2, zg cs), (0, zf ls)]⟩ := by
   clear hi;intro hi B hB;obtain ⟨⟨⟨l1, hI⟩, hN, hc8⟩, hi3, hi4⟩ := hi;have hln := hI.lens;have hm1 := membersK_most cs ps;refine hK _ _ ?_;clear hG hK K;refine Cs.cond _ rfl ?_ ?_
   ·intro h34;have hi90 := hB h34;refine Cs.skip ?_;refine Cs.seq ?_;refine Cs.block ?_;intro Q1 hN1 hX1 hR1 hE1;refine Cs.seq ?_;refine Cs.regDraw [3, 4, 6, 7, 8, 9] [0, 3, 4, 5, 6, 7, 8, 1, 2, 9, 10, 11, 12] [[], [0], [0, 1], [], [], [4], [4, 5], [4, 5, 6], [4, 5, 6, 7], [0, 1, 3, 4, 5, 6, 7, 8], [0, 1, 3, 4, 5, 6, 7, 8, 9], [0, 1, 2, 3, 4, 5, 6, 7, 8, 9], [0, 1, 2, 3, 4, 5, 6, 7, 8, 9, 10, 11]] [[], [1], [], [], [], [], [], [], [], [1], [], [], []] [[], [1], [1], [1], [1], [1], [1], [1], [1], [1], [1], [1], [1]] Tryd.mo rfl rfl rfl (by kernel_rfl) (by kernel_rfl) (by kernel_rfl) rfl (by kernel_rfl) ?_;intro K hK;(refine z19 (zd _ [] [] rfl rfl rfl) ?_; repeat (with_reducible apply ai;exact z3));iterate 6 (refine z19 (zd _ [] [1] rfl rfl rfl) ?_; repeat (with_reducible apply ai;exact z3))
    refine z19 (zd _ [1] [1] rfl rfl rfl) ?_;repeat (with_reducible apply ai;exact z3)
    refine z1q (z2l ls m at2 3 hx hm hi3 (by omega)) (fun k => if k = 0 then 1 else 0) ?_;rintro s0 H0 ⟨v, at3, g1, g2, g3, g4, rfl, rfl⟩ s1 H1 hs1 hH1;obtain ⟨hs2, hH2⟩ := z3s hs1 hH1;clear hs1 hH1;subst hs2 hH2;repeat (with_reducible apply ai;exact z3)
    have g5 := g3 (by omega);(refine z19 (zd _ [] [1] rfl rfl rfl) ?_; repeat (with_reducible apply ai;exact z3));refine z19 (zd _ [1] [1] rfl rfl rfl) ?_;repeat (with_reducible apply ai;exact z3)
    refine z1q (z2l ls m at3 (max ((cs.length : Int) - 2) 1) hx hm g1 (by omega)) (fun k => if k = 0 then 1 else 0) ?_;rintro s0 H0 ⟨w, at4, f1, f2, f3, f4, rfl, rfl⟩ s1 H1 hs1 hH1;obtain ⟨hs2, hH2⟩ := z3s hs1 hH1;clear hs1 hH1;subst hs2 hH2;repeat (with_reducible apply ai;exact z3)
    have f5 := f3 (by omega);iterate 3 (refine z19 (zd _ [] [1] rfl rfl rfl) ?_; repeat (with_reducible apply ai;exact z3))
    refine z1r ?_;refine z5 ?_;obtain ⟨kind, hkd⟩ : ∃ kind : Int, 1 + v = kind := ⟨_, rfl⟩;obtain ⟨cell, hce⟩ : ∃ cell : Int, 2 + w = cell := ⟨_, rfl⟩;rw [hkd, hce];have hk3 : 1 ≤ kind ∧ kind ≤ 3 := by omega
    have hc2 : 2 ≤ cell := by omega
    have hcb : cell ≤ 100 := by omega
    have hse := start_err hI hN hk3 hc2;refine hK _ _ ?_;clear hK K;refine Cs.seq ?_;refine Cs.reg [3, 4, 6, 7, 8, 9, 10, 11] rfl ?_;intro K hK;iterate 3 (refine z19 z4 ?_; repeat (with_reducible apply ai;exact z3))
    refine z19 z4 ?_;repeat (with_reducible apply ai;exact z3)
    refine z1q (z56 cs ps cs.length ps.length rfl rfl (by omega) (by omega) 0 kind cell) (fun k => k + 2) ?_;rintro s0 H0 ⟨rfl, rfl⟩ s1 H1 hs1 hH1;obtain ⟨hs2, hH2⟩ := z3s hs1 hH1;clear hs1 hH1;subst hs2 hH2;repeat (with_reducible apply ai;exact z3)
    iterate 6 (refine z19 z4 ?_; repeat (with_reducible apply ai;exact z3))
    refine z6 (z5 (hK _ _ ?_)); clear hK K;refine Cs.seq ?_;refine Cs.seq ?_;refine Cs.reg [3, 4, 6, 7, 8, 9, 10, 11, 56] rfl ?_;intro K hK;iterate 2 (refine z19 z4 ?_; repeat (with_reducible apply ai;exact z3))
    refine z6 (z5 (hK _ _ ?_)); clear hK K;refine Cs.cond _ rfl ?_ ?_
    ·intro h56
     have hcl2 : (cs.length : Int) ≤ cell := by
      rcases Int.lt_or_le cell (cs.length : Int) with g | g
      ·rw [hse, if_neg (by omega)] at h56; simp at h56
      ·exact g
     rw [if_pos hcl2] at hse;refine Cs.seq ?_;rw [hse];refine Cs.reg [2] rfl ?_;intro K hK;iterate 5 (refine z19 z4 ?_; repeat (with_reducible apply ai;exact z3))
     rw [decide_eq_true (show (cs.length : Int) ≤ cell from hcl2)];repeat (with_reducible apply ai;exact z3)
     iterate 5 (refine z19 z4 ?_; repeat (with_reducible apply ai;exact z3))
     refine z4 ?_;refine z3k rfl rfl ?_;refine z3i ?_;refine ⟨fun _ => ?_, fun h => (by cases h)⟩;refine z19 id ?_;repeat (with_reducible apply ai;exact z3)
     refine z1q (sane_spec) (id) ?_;rintro s0 H0 ⟨rfl, rfl⟩ s1 H1 hs1 hH1;obtain ⟨hs2, hH2⟩ := z3s hs1 hH1;clear hs1 hH1;subst hs2 hH2;repeat (with_reducible apply ai;exact z3)
     iterate 2 (refine z19 z4 ?_; repeat (with_reducible apply ai;exact z3))
     refine z6 (z5 (hK _ _ ?_)); clear hK K;refine Cs.ret ?_;refine hR1 _ _ ?_;refine hRL1 _ _ ?_;refine hR0 _ _ ?_;refine hQ _ _ ?_;refine z1h.mk (H' := ⟨1, []⟩) (.inl rfl) ?_;refine LmCm.ou ?_;repeat (with_reducible apply ai;exact z3)
     refine ⟨zk, (z3f id), LmDm.r3, ?_⟩
     all_goals first | trivial | rfl | exact ⟨rfl, trivial⟩
    ·intro h56
     have hcl2 : cell < cs.length := by
      rcases Int.lt_or_le cell (cs.length : Int) with g | g
      ·exact g
      ·rw [hse, if_pos g] at h56; simp at h56
     rw [if_neg (by omega)] at hse;have hW0 := SW.begin hI hN hse;refine Cs.skip ?_;refine Cs.seq ?_;refine Cs.reg [3, 4, 6, 7, 8, 9] rfl ?_;intro K hK;iterate 2 (refine z19 z4 ?_; repeat (with_reducible apply ai;exact z3))
     refine z6 (z5 (hK _ _ ?_)); clear hK K;refine Cs.seq ?_;refine Cs.seq ?_;refine Cs.reg [3, 4, 6, 7, 8, 9, 12] rfl ?_;intro K hK;(refine z19 z4 ?_; repeat (with_reducible apply ai;exact z3));refine z6 (z5 (hK _ _ ?_)); clear hK K;refine Cs.block ?_;intro Q2 hN2 hX2 hR2 hE2;refine Cs.loop (σ := (List Cl × List Pr) × List Int × Nat) (fun σ => SW cs σ.1.1 σ.1.2 σ.2.1 kind cell σ.2.2) (fun σ => cs.length + 10 - σ.2.2) (fun σ => [(3, .ptr 1 0 0 0), (4, .ptr 4 0 0 0), (6, .slc true 5 0 0 (z12 cs ps).length), (7, .int .i64 i), (8, .int .i64 kind), (9, .int .i64 cell), (12, .int .i64 σ.2.2)]) (fun σ => ⟨8, [(1, zq 0 m at4), (5, z9 (z12 cs ps)), (4, zl 6 σ.1.1.length 7 σ.1.2.length), (7, zi σ.1.2), (6, zg σ.1.1), (0, zf ls)]⟩) (z2r cs ps 0 kind cell, l1, 0) hW0 (ρ := id) (z3f id) ?_;rintro ⟨⟨xs, ys⟩, l2, n⟩ hw QL2 hL2 hRL2 hEL2;dsimp only at hw;have hxl := hw.len;have hln1 := hw.inv.lens;have hnl := hw.lim;have hm2 := membersK_most xs ys;refine Cs.seq ?_;refine Cs.seq ?_;refine Cs.reg [3, 4, 6, 7, 8, 9, 12, 72] rfl ?_;intro K hK;(refine z19 z4 ?_; repeat (with_reducible apply ai;exact z3));refine z19 z4 ?_;repeat (with_reducible apply ai;exact z3)
     refine z1q (busy_spec xs ys xs.length ys.length rfl rfl (by omega)) (fun k => k + 6) ?_;rintro s0 H0 ⟨rfl, rfl⟩ s1 H1 hs1 hH1;obtain ⟨hs2, hH2⟩ := z3s hs1 hH1;clear hs1 hH1;subst hs2 hH2;repeat (with_reducible apply ai;exact z3)
     (refine z19 z4 ?_; repeat (with_reducible apply ai;exact z3));refine z6 (z5 (hK _ _ ?_)); clear hK K;refine Cs.cond _ rfl ?_ ?_
     ·intro h72;have hbz : 0 < actN ys ys.length := by simpa [busyL] using h72
      have hba := hw.busy hbz;obtain ⟨hok, hn1, hsl, l3, hw2⟩ := hw.step hba;refine Cs.skip ?_;refine Cs.seq ?_;refine Cs.block ?_;intro Q3 hN3 hX3 hR3 hE3;refine Cs.seq ?_;refine Cs.reg [3, 4, 6, 7, 8, 9, 12, 13, 14] rfl ?_;intro K hK;(refine z19 z4 ?_; repeat (with_reducible apply ai;exact z3));refine z19 z4 ?_;repeat (with_reducible apply ai;exact z3)
      refine z1q (stepL_spec xs ys xs.length ys.length rfl rfl (by omega) (by omega) 0) (fun k => k + 6) ?_;rintro s0 H0 ⟨rfl, rfl⟩ s1 H1 hs1 hH1;obtain ⟨hs2, hH2⟩ := z3s hs1 hH1;clear hs1 hH1;subst hs2 hH2;repeat (with_reducible apply ai;exact z3)
      rw [hok];iterate 6 (refine z19 z4 ?_; repeat (with_reducible apply ai;exact z3))
      refine z6 (z5 (hK _ _ ?_)); clear hK K;refine Cs.seq ?_;refine Cs.seq ?_;refine Cs.reg [3, 4, 6, 7, 8, 9, 12, 13, 85] rfl ?_;intro K hK;iterate 6 (refine z19 z4 ?_; repeat (with_reducible apply ai;exact z3))
      refine z6 (z5 (hK _ _ ?_)); clear hK K;refine Cs.cond _ rfl ?_ ?_
      ·intro h85
       exfalso
       simp at h85; omega
      ·intro h85
       
       refine Cs.skip ?_;refine Cs.reg [3, 4, 6, 7, 8, 9, 12] rfl ?_;intro K hK;iterate 2 (refine z19 z4 ?_; repeat (with_reducible apply ai;exact z3))
       refine z6 (z5 (hK _ _ ?_)); clear hK K;refine Cs.nil ?_;refine hN3 _ _ ?_;refine Cs.reg [3, 4, 6, 7, 8, 9, 12] rfl ?_;intro K hK;iterate 3 (refine z19 z4 ?_; repeat (with_reducible apply ai;exact z3))
       refine z6 (z5 (hK _ _ ?_)); clear hK K;refine Cs.nil ?_;refine hL2 _ _ ?_;rw [show (n : Int) + 1 = ((n + 1 : Nat) : Int) from by omega];exact ⟨(z38 xs ys 0, l3, n + 1), ⟨hw2, by dsimp only; omega⟩, fun k => if k = 6 then 8 else if k = 7 then 9 else k, (z5x (fun k => if k = 6 then 8 else if k = 7 then 9 else k))⟩
     ·intro h72
      have hbz : actN ys ys.length = 0 := by
       simp only [busyL] at h72;simp at h72; omega
      have hno := actN_none hbz;obtain ⟨hres, hm3, hmi, hmr, hmo⟩ := hw.mem hI (hno 0 (by omega)) hcl2;refine Cs.exit ?_;refine hEL2 _ _ _ ?_;refine hX2 _ _ ?_;refine Cs.seq ?_;refine Cs.reg [3, 4, 6, 7, 8, 9, 15] rfl ?_;intro K hK;iterate 2 (refine z19 z4 ?_; repeat (with_reducible apply ai;exact z3))
      refine z19 z4 ?_;repeat (with_reducible apply ai;exact z3)
      refine z1q (z5s (z12 cs ps) cell (z12 cs ps).length rfl (by omega)) (fun k => 5) ?_;rintro s0 H0 ⟨rfl, rfl⟩ s1 H1 hs1 hH1;obtain ⟨hs2, hH2⟩ := z3s hs1 hH1;clear hs1 hH1;subst hs2 hH2;repeat (with_reducible apply ai;exact z3)
      (refine z19 z4 ?_; repeat (with_reducible apply ai;exact z3));refine z6 (z5 (hK _ _ ?_)); clear hK K;refine Cs.seq ?_;refine Cs.seq ?_;refine Cs.reg [3, 4, 6, 7, 8, 9, 99] rfl ?_;intro K hK;iterate 10 (refine z19 z4 ?_; repeat (with_reducible apply ai;exact z3))
      refine z6 (z5 (hK _ _ ?_)); clear hK K;refine Cs.cond _ rfl ?_ ?_
      ·intro h99
       exfalso
       rw [hres] at h99; simp at h99
      ·intro h99
       
       refine Cs.skip ?_;refine Cs.seq ?_;refine Cs.reg [3, 4, 6, 7, 8, 9, 16] rfl ?_;intro K hK;(refine z19 z4 ?_; repeat (with_reducible apply ai;exact z3));refine z19 z4 ?_;repeat (with_reducible apply ai;exact z3)
       refine z1q (members_spec xs ys xs.length ys.length rfl rfl (by omega) (by omega)) (fun k => k + 6) ?_;rintro s0 H0 ⟨rfl, rfl⟩ s1 H1 hs1 hH1;obtain ⟨hs2, hH2⟩ := z3s hs1 hH1;clear hs1 hH1;subst hs2 hH2;repeat (with_reducible apply ai;exact z3)
       (refine z19 z4 ?_; repeat (with_reducible apply ai;exact z3));refine z6 (z5 (hK _ _ ?_)); clear hK K;refine Cs.seq ?_;refine Cs.seq ?_;refine Cs.regG [3, 4, 6, 7, 9, 16, 128] rfl ?_;intro K hK hG
       have hk25 : ∀ C : Bool, C = false → K [(3, .ptr 1 0 0 0), (4, .ptr 4 0 0 0), (6, .slc true 5 0 0 (z12 cs ps).length), (7, .int .i64 i), (9, .int .i64 cell), (16, .slc true 8 0 0 (z12 xs ys).length), (128, .bool C)] ⟨9, [(8, z9 (z12 xs ys)), (1, zq 0 m at4), (5, z9 (z12 cs ps)), (4, zl 6 xs.length 7 ys.length), (7, zi ys), (6, zg xs), (0, zf ls)]⟩ := by
        intro C hC;refine hK _ _ ?_;clear hG hK K;refine Cs.cond _ rfl ?_ ?_
        ·intro h128
         exfalso; rw [hC] at h128; cases h128
        ·intro h128
         
         refine Cs.skip ?_;refine Cs.seq ?_;refine Cs.seq ?_;refine Cs.reg [3, 4, 6, 7, 9, 16, 17] rfl ?_;intro K hK;(refine z19 z4 ?_; repeat (with_reducible apply ai;exact z3));refine z6 (z5 (hK _ _ ?_)); clear hK K;refine Cs.block ?_;intro Q4 hN4 hX4 hR4 hE4;refine Cs.loop (σ := Nat) (fun j => 2 ≤ j ∧ j ≤ xs.length) (fun j => xs.length - j) (fun j => [(3, .ptr 1 0 0 0), (4, .ptr 4 0 0 0), (6, .slc true 5 0 0 (z12 cs ps).length), (7, .int .i64 i), (9, .int .i64 cell), (16, .slc true 8 0 0 (z12 xs ys).length), (17, .int .i64 j)]) (fun _ => ⟨9, [(8, z9 (z12 xs ys)), (1, zq 0 m at4), (5, z9 (z12 cs ps)), (4, zl 6 xs.length 7 ys.length), (7, zi ys), (6, zg xs), (0, zf ls)]⟩) 2 ⟨by omega, by omega⟩ (ρ := id) (z3f id) ?_;rintro j hj QL3 hL3 hRL3 hEL3;refine Cs.seq ?_;refine Cs.seq ?_;refine Cs.reg [3, 4, 6, 7, 9, 16, 17, 133] rfl ?_;intro K hK;iterate 5 (refine z19 z4 ?_; repeat (with_reducible apply ai;exact z3))
         refine z6 (z5 (hK _ _ ?_)); clear hK K;refine Cs.cond _ rfl ?_ ?_
         ·intro h133;replace h133 := za h133;refine Cs.skip ?_;refine Cs.seq ?_;refine Cs.block ?_;intro Q5 hN5 hX5 hR5 hE5;refine Cs.seq ?_;refine Cs.regG [3, 4, 6, 7, 9, 16, 17, 147] rfl ?_;intro K hK hG
          have hk30 : ∀ C : Bool, C = false → K [(3, .ptr 1 0 0 0), (4, .ptr 4 0 0 0), (6, .slc true 5 0 0 (z12 cs ps).length), (7, .int .i64 i), (9, .int .i64 cell), (16, .slc true 8 0 0 (z12 xs ys).length), (17, .int .i64 j), (147, .bool C)] ⟨9, [(8, z9 (z12 xs ys)), (1, zq 0 m at4), (5, z9 (z12 cs ps)), (4, zl 6 xs.length 7 ys.length), (7, zi ys), (6, zg xs), (0, zf ls)]⟩ := by
           intro C hC;refine hK _ _ ?_;clear hG hK K;refine Cs.cond _ rfl ?_ ?_
           ·intro h147
            exfalso; rw [hC] at h147; cases h147
           ·intro h147
            
            refine Cs.skip ?_;refine Cs.nil ?_;refine hN5 _ _ ?_;refine Cs.reg [3, 4, 6, 7, 9, 16, 17] rfl ?_;intro K hK;iterate 3 (refine z19 z4 ?_; repeat (with_reducible apply ai;exact z3))
            refine z6 (z5 (hK _ _ ?_)); clear hK K;refine Cs.nil ?_;refine hL3 _ _ ?_;rw [show (j : Int) + 1 = ((j + 1 : Nat) : Int) from by omega];exact ⟨j + 1, ⟨⟨by omega, by omega⟩, by omega⟩, id, (z3f id)⟩
          iterate 6 (refine z19 z4 ?_; repeat (with_reducible apply ai;exact z3))
          refine z4 ?_;refine z3k rfl rfl ?_;refine z3i ?_
          first | refine z2p ?_ ?_ | refine (fun (h1 : false = true → _) (h2 : false = false → _) => And.intro h1 fun _ => h2 rfl) ?_ ?_
          ·intro hg6
           first
            |(simp at hg6; done)
            |skip
             try replace hg6 := za hg6
             refine z19 id ?_;repeat (with_reducible apply ai;exact z3)
             refine z1q (z5s (z12 xs ys) (j : Int) (z12 xs ys).length rfl (by omega)) (fun k => 8) ?_;rintro s0 H0 ⟨rfl, rfl⟩ s1 H1 hs1 hH1;obtain ⟨hs2, hH2⟩ := z3s hs1 hH1;clear hs1 hH1;subst hs2 hH2;repeat (with_reducible apply ai;exact z3)
             iterate 2 (refine z19 z4 ?_; repeat (with_reducible apply ai;exact z3))
             refine z4 ?_;refine z3k rfl rfl ?_;refine z3i ?_
             first | refine z2p ?_ ?_ | refine (fun (h1 : false = true → _) (h2 : false = false → _) => And.intro h1 fun _ => h2 rfl) ?_ ?_
             ·intro hg9
              first
               |(simp at hg9; done)
               |skip
                try replace hg9 := za hg9
                refine z19 id ?_;repeat (with_reducible apply ai;exact z3)
                refine z1q (z5s (z12 cs ps) (j : Int) (z12 cs ps).length rfl (by omega)) (fun k => 5) ?_;rintro s0 H0 ⟨rfl, rfl⟩ s1 H1 hs1 hH1;obtain ⟨hs2, hH2⟩ := z3s hs1 hH1;clear hs1 hH1;subst hs2 hH2;repeat (with_reducible apply ai;exact z3)
                iterate 2 (refine z19 z4 ?_; repeat (with_reducible apply ai;exact z3))
                refine z6 ?_;refine z5 ?_;refine hk30 _ ?_;clear hk30 hG hres
                by_cases e : (j : Int) = cell
                ·simp [e]
                ·first | (rw [hmo _ e]; simp; done) | exact absurd ‹(j : Int) = cell› e
             ·intro hg9;refine ⟨.bool false, ?_⟩
              first
               |(simp at hg9; done)
               |skip
                try replace hg9 := za hg9
                iterate 2 (refine z19 z4 ?_; repeat (with_reducible apply ai;exact z3))
                refine z6 ?_;refine z5 ?_;refine hk30 _ ?_;clear hk30 hG hres
                by_cases e : (j : Int) = cell
                ·simp [e]
                ·first | (rw [hmo _ e]; simp; done) | exact absurd ‹(j : Int) = cell› e
          ·intro hg6;refine ⟨.bool false, ?_⟩
           first
            |(simp at hg6; done)
            |skip
             try replace hg6 := za hg6
             iterate 2 (refine z19 z4 ?_; repeat (with_reducible apply ai;exact z3))
             refine z4 ?_;refine z3k rfl rfl ?_;refine z3i ?_
             first | refine z2p ?_ ?_ | refine (fun (h1 : false = true → _) (h2 : false = false → _) => And.intro h1 fun _ => h2 rfl) ?_ ?_
             ·intro hg9
              first
               |(simp at hg9; done)
               |skip
                try replace hg9 := za hg9
                refine z19 id ?_;repeat (with_reducible apply ai;exact z3)
                refine z1q (z5s (z12 cs ps) (j : Int) (z12 cs ps).length rfl (by omega)) (fun k => 5) ?_;rintro s0 H0 ⟨rfl, rfl⟩ s1 H1 hs1 hH1;obtain ⟨hs2, hH2⟩ := z3s hs1 hH1;clear hs1 hH1;subst hs2 hH2;repeat (with_reducible apply ai;exact z3)
                iterate 2 (refine z19 z4 ?_; repeat (with_reducible apply ai;exact z3))
                refine z6 ?_;refine z5 ?_;refine hk30 _ ?_;clear hk30 hG hres
                by_cases e : (j : Int) = cell
                ·simp [e]
                ·first | (rw [hmo _ e]; simp; done) | exact absurd ‹(j : Int) = cell› e
             ·intro hg9;refine ⟨.bool false, ?_⟩
              first
               |(simp at hg9; done)
               |skip
                try replace hg9 := za hg9
                iterate 2 (refine z19 z4 ?_; repeat (with_reducible apply ai;exact z3))
                refine z6 ?_;refine z5 ?_;refine hk30 _ ?_;clear hk30 hG hres
                by_cases e : (j : Int) = cell
                ·simp [e]
                ·first | (rw [hmo _ e]; simp; done) | exact absurd ‹(j : Int) = cell› e
         ·intro h133
          
          refine Cs.exit ?_;refine hEL3 _ _ _ ?_;refine hX4 _ _ ?_;refine Cs.reg [3, 4, 6, 7] rfl ?_;intro K hK;iterate 2 (refine z19 z4 ?_; repeat (with_reducible apply ai;exact z3))
          refine z6 (z5 (hK _ _ ?_)); clear hK K;refine Cs.nil ?_;refine hN1 _ _ ?_;refine Cs.reg [3, 4, 6, 7] rfl ?_;intro K hK;iterate 3 (refine z19 z4 ?_; repeat (with_reducible apply ai;exact z3))
          refine z6 (z5 (hK _ _ ?_)); clear hK K;refine Cs.nil ?_;refine hL1 _ _ ?_;rw [show (i : Int) + 1 = ((i + 1 : Nat) : Int) from by omega];exact ⟨((xs, ys), at4, i + 1), ⟨⟨⟨⟨l2, hw.inv⟩, hno, by dsimp only; omega⟩, f1, by dsimp only; omega⟩, by dsimp only; omega⟩, fun k => if k = 2 then 6 else if k = 3 then 7 else if k = 5 then 8 else k, (z5x (fun k => if k = 2 then 6 else if k = 3 then 7 else if k = 5 then 8 else k))⟩
       (refine z19 z4 ?_; repeat (with_reducible apply ai;exact z3));clear hI hN hw hno hse hmk;repeat (with_reducible apply ai;exact z3)
       iterate 4 (refine z19 z4 ?_; repeat (with_reducible apply ai;exact z3))
       refine z4 ?_;refine z3k rfl rfl ?_;refine z3i ?_
       first | refine z2p ?_ ?_ | refine (fun (h1 : false = true → _) (h2 : false = false → _) => And.intro h1 fun _ => h2 rfl) ?_ ?_
       ·intro hg5
        first
         |(simp at hg5; done)
         |skip
          try replace hg5 := za hg5
          refine z19 id ?_;repeat (with_reducible apply ai;exact z3)
          refine z1q (sameInts_spec (z12 xs ys) (z12 cs ps) _ _ rfl rfl (by omega) (by omega)) (fun k => if k = 0 then 8 else 5) ?_;rintro s0 H0 ⟨rfl, rfl⟩ s1 H1 hs1 hH1;obtain ⟨hs2, hH2⟩ := z3s hs1 hH1;clear hs1 hH1;subst hs2 hH2;repeat (with_reducible apply ai;exact z3)
          (refine z19 z4 ?_; repeat (with_reducible apply ai;exact z3))
          try with_reducible refine And.intro (by clear hk25; simp_all; done) ?_
          repeat (with_reducible apply ai;exact z3)
          (refine z19 z4 ?_; repeat (with_reducible apply ai;exact z3));refine absB ?_;intro b109 hb109;repeat (with_reducible apply ai;exact z3)
          iterate 6 (refine z19 z4 ?_; repeat (with_reducible apply ai;exact z3))
          refine z4 ?_;refine z3k rfl rfl ?_;refine z3i ?_
          first | refine z2p ?_ ?_ | refine (fun (h1 : false = true → _) (h2 : false = false → _) => And.intro h1 fun _ => h2 rfl) ?_ ?_
          ·intro hg14
           first
            |(simp at hg14; done)
            |skip
             try replace hg14 := za hg14
             refine z19 id ?_;repeat (with_reducible apply ai;exact z3)
             refine z1q (z5s (z12 xs ys) cell (z12 xs ys).length rfl (by omega)) (fun k => 8) ?_;rintro s0 H0 ⟨rfl, rfl⟩ s1 H1 hs1 hH1;obtain ⟨hs2, hH2⟩ := z3s hs1 hH1;clear hs1 hH1;subst hs2 hH2;repeat (with_reducible apply ai;exact z3)
             (refine z19 z4 ?_; repeat (with_reducible apply ai;exact z3))
             try with_reducible refine And.intro (by clear hk25; simp_all; done) ?_
             repeat (with_reducible apply ai;exact z3)
             (refine z19 z4 ?_; repeat (with_reducible apply ai;exact z3))
             try with_reducible refine And.intro (by clear hk25; simp_all; done) ?_
             refine absG ?_;intro b118 hb118;repeat (with_reducible apply ai;exact z3)
             (refine z19 z4 ?_; repeat (with_reducible apply ai;exact z3));refine absB ?_;intro b119 hb119;repeat (with_reducible apply ai;exact z3)
             iterate 6 (refine z19 z4 ?_; repeat (with_reducible apply ai;exact z3))
             refine z4 ?_;refine z3k rfl rfl ?_;refine z3i ?_
             first | refine z2p ?_ ?_ | refine (fun (h1 : false = true → _) (h2 : false = false → _) => And.intro h1 fun _ => h2 rfl) ?_ ?_
             ·intro hg24
              first
               |(simp at hg24; done)
               |skip
                try replace hg24 := za hg24
                refine z19 id ?_;repeat (with_reducible apply ai;exact z3)
                refine z1q (z5s (z12 xs ys) cell (z12 xs ys).length rfl (by omega)) (fun k => 8) ?_;rintro s0 H0 ⟨rfl, rfl⟩ s1 H1 hs1 hH1;obtain ⟨hs2, hH2⟩ := z3s hs1 hH1;clear hs1 hH1;subst hs2 hH2;repeat (with_reducible apply ai;exact z3)
                (refine z19 z4 ?_; repeat (with_reducible apply ai;exact z3))
                try with_reducible refine And.intro (by clear hk25; simp_all; done) ?_
                refine absG ?_;intro b127 hb127;repeat (with_reducible apply ai;exact z3)
                (refine z19 z4 ?_; repeat (with_reducible apply ai;exact z3));refine absB ?_;intro b128 hb128;repeat (with_reducible apply ai;exact z3)
                refine z6 ?_;refine z5 ?_;refine hk25 _ ?_;clear hk25 hG hres hmo;have hk123 : kind = 1 ∨ kind = 2 ∨ kind = 3 := by omega
                clear hxl hln1 hnl hm2 hbz hm1 hln hc2 hcb hkd hce hk6 hp4 g1 g2 g3 g4 g5 f1 f2 f3 f4 f5 hi3 hi4;rcases hk123 with e | e | e
                ·have z := hmi e;clear hm3 hmi hmr;subst e
                 first | (simp_all; done) | (exfalso; simp_all; done)
                ·have z := hmr e;clear hm3 hmi hmr;subst e
                 first | (simp_all; done) | (exfalso; simp_all; done)
                ·have z := hm3 e;clear hm3 hmi hmr;subst e;rw [z] at *
                 first | (simp_all; done) | (exfalso; simp_all; done)
             ·intro hg24;refine ⟨.bool false, ?_⟩
              first
               |(simp at hg24; done)
               |skip
                try replace hg24 := za hg24
                (refine z19 z4 ?_; repeat (with_reducible apply ai;exact z3))
                try with_reducible refine And.intro (by clear hk25; simp_all; done) ?_
                refine absG ?_;intro b127 hb127;repeat (with_reducible apply ai;exact z3)
                (refine z19 z4 ?_; repeat (with_reducible apply ai;exact z3));refine absB ?_;intro b128 hb128;repeat (with_reducible apply ai;exact z3)
                refine z6 ?_;refine z5 ?_;refine hk25 _ ?_;clear hk25 hG hres hmo;have hk123 : kind = 1 ∨ kind = 2 ∨ kind = 3 := by omega
                clear hxl hln1 hnl hm2 hbz hm1 hln hc2 hcb hkd hce hk6 hp4 g1 g2 g3 g4 g5 f1 f2 f3 f4 f5 hi3 hi4;rcases hk123 with e | e | e
                ·have z := hmi e;clear hm3 hmi hmr;subst e
                 first | (simp_all; done) | (exfalso; simp_all; done)
                ·have z := hmr e;clear hm3 hmi hmr;subst e
                 first | (simp_all; done) | (exfalso; simp_all; done)
                ·have z := hm3 e;clear hm3 hmi hmr;subst e;rw [z] at *
                 first | (simp_all; done) | (exfalso; simp_all; done)
          ·intro hg14;refine ⟨.bool false, ?_⟩
           first
            |(simp at hg14; done)
            |skip
             try replace hg14 := za hg14
             (refine z19 z4 ?_; repeat (with_reducible apply ai;exact z3))
             try with_reducible refine And.intro (by clear hk25; simp_all; done) ?_
             repeat (with_reducible apply ai;exact z3)
             (refine z19 z4 ?_; repeat (with_reducible apply ai;exact z3))
             try with_reducible refine And.intro (by clear hk25; simp_all; done) ?_
             refine absG ?_;intro b118 hb118;repeat (with_reducible apply ai;exact z3)
             (refine z19 z4 ?_; repeat (with_reducible apply ai;exact z3));refine absB ?_;intro b119 hb119;repeat (with_reducible apply ai;exact z3)
             iterate 6 (refine z19 z4 ?_; repeat (with_reducible apply ai;exact z3))
             refine z4 ?_;refine z3k rfl rfl ?_;refine z3i ?_
             first | refine z2p ?_ ?_ | refine (fun (h1 : false = true → _) (h2 : false = false → _) => And.intro h1 fun _ => h2 rfl) ?_ ?_
             ·intro hg24
              first
               |(simp at hg24; done)
               |skip
                try replace hg24 := za hg24
                refine z19 id ?_;repeat (with_reducible apply ai;exact z3)
                refine z1q (z5s (z12 xs ys) cell (z12 xs ys).length rfl (by omega)) (fun k => 8) ?_;rintro s0 H0 ⟨rfl, rfl⟩ s1 H1 hs1 hH1;obtain ⟨hs2, hH2⟩ := z3s hs1 hH1;clear hs1 hH1;subst hs2 hH2;repeat (with_reducible apply ai;exact z3)
                (refine z19 z4 ?_; repeat (with_reducible apply ai;exact z3))
                try with_reducible refine And.intro (by clear hk25; simp_all; done) ?_
                refine absG ?_;intro b127 hb127;repeat (with_reducible apply ai;exact z3)
                (refine z19 z4 ?_; repeat (with_reducible apply ai;exact z3));refine absB ?_;intro b128 hb128;repeat (with_reducible apply ai;exact z3)
                refine z6 ?_;refine z5 ?_;refine hk25 _ ?_;clear hk25 hG hres hmo;have hk123 : kind = 1 ∨ kind = 2 ∨ kind = 3 := by omega
                clear hxl hln1 hnl hm2 hbz hm1 hln hc2 hcb hkd hce hk6 hp4 g1 g2 g3 g4 g5 f1 f2 f3 f4 f5 hi3 hi4;rcases hk123 with e | e | e
                ·have z := hmi e;clear hm3 hmi hmr;subst e
                 first | (simp_all; done) | (exfalso; simp_all; done)
                ·have z := hmr e;clear hm3 hmi hmr;subst e
                 first | (simp_all; done) | (exfalso; simp_all; done)
                ·have z := hm3 e;clear hm3 hmi hmr;subst e;rw [z] at *
                 first | (simp_all; done) | (exfalso; simp_all; done)
             ·intro hg24;refine ⟨.bool false, ?_⟩
              first
               |(simp at hg24; done)
               |skip
                try replace hg24 := za hg24
                (refine z19 z4 ?_; repeat (with_reducible apply ai;exact z3))
                try with_reducible refine And.intro (by clear hk25; simp_all; done) ?_
                refine absG ?_;intro b127 hb127;repeat (with_reducible apply ai;exact z3)
                (refine z19 z4 ?_; repeat (with_reducible apply ai;exact z3));refine absB ?_;intro b128 hb128;repeat (with_reducible apply ai;exact z3)
                refine z6 ?_;refine z5 ?_;refine hk25 _ ?_;clear hk25 hG hres hmo;have hk123 : kind = 1 ∨ kind = 2 ∨ kind = 3 := by omega
                clear hxl hln1 hnl hm2 hbz hm1 hln hc2 hcb hkd hce hk6 hp4 g1 g2 g3 g4 g5 f1 f2 f3 f4 f5 hi3 hi4;rcases hk123 with e | e | e
                ·have z := hmi e;clear hm3 hmi hmr;subst e
                 first | (simp_all; done) | (exfalso; simp_all; done)
                ·have z := hmr e;clear hm3 hmi hmr;subst e
                 first | (simp_all; done) | (exfalso; simp_all; done)
                ·have z := hm3 e;clear hm3 hmi hmr;subst e;rw [z] at *
                 first | (simp_all; done) | (exfalso; simp_all; done)
       ·intro hg5;refine ⟨.bool false, ?_⟩
        first
         |(simp at hg5; done)
         |skip
          try replace hg5 := za hg5
          (refine z19 z4 ?_; repeat (with_reducible apply ai;exact z3))
          try with_reducible refine And.intro (by clear hk25; simp_all; done) ?_
          repeat (with_reducible apply ai;exact z3)
          (refine z19 z4 ?_; repeat (with_reducible apply ai;exact z3));refine absB ?_;intro b109 hb109;repeat (with_reducible apply ai;exact z3)
          iterate 6 (refine z19 z4 ?_; repeat (with_reducible apply ai;exact z3))
          refine z4 ?_;refine z3k rfl rfl ?_;refine z3i ?_
          first | refine z2p ?_ ?_ | refine (fun (h1 : false = true → _) (h2 : false = false → _) => And.intro h1 fun _ => h2 rfl) ?_ ?_
          ·intro hg14
           first
            |(simp at hg14; done)
            |skip
             try replace hg14 := za hg14
             refine z19 id ?_;repeat (with_reducible apply ai;exact z3)
             refine z1q (z5s (z12 xs ys) cell (z12 xs ys).length rfl (by omega)) (fun k => 8) ?_;rintro s0 H0 ⟨rfl, rfl⟩ s1 H1 hs1 hH1;obtain ⟨hs2, hH2⟩ := z3s hs1 hH1;clear hs1 hH1;subst hs2 hH2;repeat (with_reducible apply ai;exact z3)
             (refine z19 z4 ?_; repeat (with_reducible apply ai;exact z3))
             try with_reducible refine And.intro (by clear hk25; simp_all; done) ?_
             repeat (with_reducible apply ai;exact z3)
             (refine z19 z4 ?_; repeat (with_reducible apply ai;exact z3))
             try with_reducible refine And.intro (by clear hk25; simp_all; done) ?_
             refine absG ?_;intro b118 hb118;repeat (with_reducible apply ai;exact z3)
             (refine z19 z4 ?_; repeat (with_reducible apply ai;exact z3));refine absB ?_;intro b119 hb119;repeat (with_reducible apply ai;exact z3)
             iterate 6 (refine z19 z4 ?_; repeat (with_reducible apply ai;exact z3))
             refine z4 ?_;refine z3k rfl rfl ?_;refine z3i ?_
             first | refine z2p ?_ ?_ | refine (fun (h1 : false = true → _) (h2 : false = false → _) => And.intro h1 fun _ => h2 rfl) ?_ ?_
             ·intro hg24
              first
               |(simp at hg24; done)
               |skip
                try replace hg24 := za hg24
                refine z19 id ?_;repeat (with_reducible apply ai;exact z3)
                refine z1q (z5s (z12 xs ys) cell (z12 xs ys).length rfl (by omega)) (fun k => 8) ?_;rintro s0 H0 ⟨rfl, rfl⟩ s1 H1 hs1 hH1;obtain ⟨hs2, hH2⟩ := z3s hs1 hH1;clear hs1 hH1;subst hs2 hH2;repeat (with_reducible apply ai;exact z3)
                (refine z19 z4 ?_; repeat (with_reducible apply ai;exact z3))
                try with_reducible refine And.intro (by clear hk25; simp_all; done) ?_
                refine absG ?_;intro b127 hb127;repeat (with_reducible apply ai;exact z3)
                (refine z19 z4 ?_; repeat (with_reducible apply ai;exact z3));refine absB ?_;intro b128 hb128;repeat (with_reducible apply ai;exact z3)
                refine z6 ?_;refine z5 ?_;refine hk25 _ ?_;clear hk25 hG hres hmo;have hk123 : kind = 1 ∨ kind = 2 ∨ kind = 3 := by omega
                clear hxl hln1 hnl hm2 hbz hm1 hln hc2 hcb hkd hce hk6 hp4 g1 g2 g3 g4 g5 f1 f2 f3 f4 f5 hi3 hi4;rcases hk123 with e | e | e
                ·have z := hmi e;clear hm3 hmi hmr;subst e
                 first | (simp_all; done) | (exfalso; simp_all; done)
                ·have z := hmr e;clear hm3 hmi hmr;subst e
                 first | (simp_all; done) | (exfalso; simp_all; done)
                ·have z := hm3 e;clear hm3 hmi hmr;subst e;rw [z] at *
                 first | (simp_all; done) | (exfalso; simp_all; done)
             ·intro hg24;refine ⟨.bool false, ?_⟩
              first
               |(simp at hg24; done)
               |skip
                try replace hg24 := za hg24
                (refine z19 z4 ?_; repeat (with_reducible apply ai;exact z3))
                try with_reducible refine And.intro (by clear hk25; simp_all; done) ?_
                refine absG ?_;intro b127 hb127;repeat (with_reducible apply ai;exact z3)
                (refine z19 z4 ?_; repeat (with_reducible apply ai;exact z3));refine absB ?_;intro b128 hb128;repeat (with_reducible apply ai;exact z3)
                refine z6 ?_;refine z5 ?_;refine hk25 _ ?_;clear hk25 hG hres hmo;have hk123 : kind = 1 ∨ kind = 2 ∨ kind = 3 := by omega
                clear hxl hln1 hnl hm2 hbz hm1 hln hc2 hcb hkd hce hk6 hp4 g1 g2 g3 g4 g5 f1 f2 f3 f4 f5 hi3 hi4;rcases hk123 with e | e | e
                ·have z := hmi e;clear hm3 hmi hmr;subst e
                 first | (simp_all; done) | (exfalso; simp_all; done)
                ·have z := hmr e;clear hm3 hmi hmr;subst e
                 first | (simp_all; done) | (exfalso; simp_all; done)
                ·have z := hm3 e;clear hm3 hmi hmr;subst e;rw [z] at *
                 first | (simp_all; done) | (exfalso; simp_all; done)
          ·intro hg14;refine ⟨.bool false, ?_⟩
           first
            |(simp at hg14; done)
            |skip
             try replace hg14 := za hg14
             (refine z19 z4 ?_; repeat (with_reducible apply ai;exact z3))
             try with_reducible refine And.intro (by clear hk25; simp_all; done) ?_
             repeat (with_reducible apply ai;exact z3)
             (refine z19 z4 ?_; repeat (with_reducible apply ai;exact z3))
             try with_reducible refine And.intro (by clear hk25; simp_all; done) ?_
             refine absG ?_;intro b118 hb118;repeat (with_reducible apply ai;exact z3)
             (refine z19 z4 ?_; repeat (with_reducible apply ai;exact z3));refine absB ?_;intro b119 hb119;repeat (with_reducible apply ai;exact z3)
             iterate 6 (refine z19 z4 ?_; repeat (with_reducible apply ai;exact z3))
             refine z4 ?_;refine z3k rfl rfl ?_;refine z3i ?_
             first | refine z2p ?_ ?_ | refine (fun (h1 : false = true → _) (h2 : false = false → _) => And.intro h1 fun _ => h2 rfl) ?_ ?_
             ·intro hg24
              first
               |(simp at hg24; done)
               |skip
                try replace hg24 := za hg24
                refine z19 id ?_;repeat (with_reducible apply ai;exact z3)
                refine z1q (z5s (z12 xs ys) cell (z12 xs ys).length rfl (by omega)) (fun k => 8) ?_;rintro s0 H0 ⟨rfl, rfl⟩ s1 H1 hs1 hH1;obtain ⟨hs2, hH2⟩ := z3s hs1 hH1;clear hs1 hH1;subst hs2 hH2;repeat (with_reducible apply ai;exact z3)
                (refine z19 z4 ?_; repeat (with_reducible apply ai;exact z3))
                try with_reducible refine And.intro (by clear hk25; simp_all; done) ?_
                refine absG ?_;intro b127 hb127;repeat (with_reducible apply ai;exact z3)
                (refine z19 z4 ?_; repeat (with_reducible apply ai;exact z3));refine absB ?_;intro b128 hb128;repeat (with_reducible apply ai;exact z3)
                refine z6 ?_;refine z5 ?_;refine hk25 _ ?_;clear hk25 hG hres hmo;have hk123 : kind = 1 ∨ kind = 2 ∨ kind = 3 := by omega
                clear hxl hln1 hnl hm2 hbz hm1 hln hc2 hcb hkd hce hk6 hp4 g1 g2 g3 g4 g5 f1 f2 f3 f4 f5 hi3 hi4;rcases hk123 with e | e | e
                ·have z := hmi e;clear hm3 hmi hmr;subst e
                 first | (simp_all; done) | (exfalso; simp_all; done)
                ·have z := hmr e;clear hm3 hmi hmr;subst e
                 first | (simp_all; done) | (exfalso; simp_all; done)
                ·have z := hm3 e;clear hm3 hmi hmr;subst e;rw [z] at *
                 first | (simp_all; done) | (exfalso; simp_all; done)
             ·intro hg24;refine ⟨.bool false, ?_⟩
              first
               |(simp at hg24; done)
               |skip
                try replace hg24 := za hg24
                (refine z19 z4 ?_; repeat (with_reducible apply ai;exact z3))
                try with_reducible refine And.intro (by clear hk25; simp_all; done) ?_
                refine absG ?_;intro b127 hb127;repeat (with_reducible apply ai;exact z3)
                (refine z19 z4 ?_; repeat (with_reducible apply ai;exact z3));refine absB ?_;intro b128 hb128;repeat (with_reducible apply ai;exact z3)
                refine z6 ?_;refine z5 ?_;refine hk25 _ ?_;clear hk25 hG hres hmo;have hk123 : kind = 1 ∨ kind = 2 ∨ kind = 3 := by omega
                clear hxl hln1 hnl hm2 hbz hm1 hln hc2 hcb hkd hce hk6 hp4 g1 g2 g3 g4 g5 f1 f2 f3 f4 f5 hi3 hi4;rcases hk123 with e | e | e
                ·have z := hmi e;clear hm3 hmi hmr;subst e
                 first | (simp_all; done) | (exfalso; simp_all; done)
                ·have z := hmr e;clear hm3 hmi hmr;subst e
                 first | (simp_all; done) | (exfalso; simp_all; done)
                ·have z := hm3 e;clear hm3 hmi hmr;subst e;rw [z] at *
                 first | (simp_all; done) | (exfalso; simp_all; done)
   ·intro h34
    
    refine Cs.exit ?_;refine hEL1 _ _ _ ?_;refine hX0 _ _ ?_;refine Cs.seq ?_;refine Cs.reg [2] rfl ?_;intro K hK;refine z19 z4 ?_;repeat (with_reducible apply ai;exact z3)
    refine z1q (sane_spec) (id) ?_;rintro s0 H0 ⟨rfl, rfl⟩ s1 H1 hs1 hH1;obtain ⟨hs2, hH2⟩ := z3s hs1 hH1;clear hs1 hH1;subst hs2 hH2;repeat (with_reducible apply ai;exact z3)
    (refine z19 z4 ?_; repeat (with_reducible apply ai;exact z3));refine z6 (z5 (hK _ _ ?_)); clear hK K;refine Cs.ret ?_;refine hQ _ _ ?_;refine z1h.mk (H' := ⟨1, []⟩) (.inl rfl) ?_;refine LmCm.ou ?_;repeat (with_reducible apply ai;exact z3)
    refine ⟨zk, (z3f id), LmDm.r3, ?_⟩
    all_goals first | trivial | rfl | exact ⟨rfl, trivial⟩
  iterate 4 (refine z19 z4 ?_; repeat (with_reducible apply ai;exact z3))
  refine z4 ?_;refine z3k rfl rfl ?_;refine z3i ?_
  first | refine z2p ?_ ?_ | refine (fun (h1 : false = true → _) (h2 : false = false → _) => And.intro h1 fun _ => h2 rfl) ?_ ?_
  ·intro hg4
   first
    |(simp at hg4; done)
    |skip
     try replace hg4 := za hg4
     refine z19 id ?_;repeat (with_reducible apply ai;exact z3)
     refine z1q (left_spec ls m at2) (fun k => if k = 0 then 1 else 0) ?_;rintro s0 H0 ⟨⟨b, rfl⟩, rfl⟩ s1 H1 hs1 hH1;obtain ⟨hs2, hH2⟩ := z3s hs1 hH1;clear hs1 hH1;subst hs2 hH2;repeat (with_reducible apply ai;exact z3)
     (refine z19 z4 ?_; repeat (with_reducible apply ai;exact z3));refine z6 ?_;refine z5 ?_;refine hk7 hi _ ?_;intro hb; simp at hb <;> omega
  ·intro hg4;refine ⟨.bool false, ?_⟩
   first
    |(simp at hg4; done)
    |skip
     try replace hg4 := za hg4
     (refine z19 z4 ?_; repeat (with_reducible apply ai;exact z3));refine z6 ?_;refine z5 ?_;refine hk7 hi _ ?_;intro hb; simp at hb hg4 <;> omega
end Go.Proofs

set_option linter.unusedSimpArgs false
set_option linter.unusedVariables false
set_option maxRecDepth 4000
namespace Go.Proofs.YtdfdidinfaefmaaDoor
open Go.ChangeShapes Go.WideShapes Go.RowKit Go.Sk Go.Proofs
theorem own : ownKnob Tryd.prog.godebug = none := by kernel_rfl
theorem laid : laidOutB Tryd.prog = true := by kernel_rfl
theorem rowed : mapsRowed Tryd.prog = true := by kernel_rfl
theorem fullS : ∀ t e, t < Tryd.prog.types.size → Tryd.prog.underlying t = some (.slice e) → 0 < Tryd.prog.cellsOf e := slices_full_of _ (by kernel_rfl)
theorem uInts : Tryd.prog.underlying 22 = some (.slice 3) := by kernel_rfl
theorem uStr : Tryd.prog.underlying 9 = some .string := by kernel_rfl
theorem uBool : Tryd.prog.underlying 4 = some .bool := by kernel_rfl
theorem fInt : flatB Tryd.prog 3 [.i .i64] = true := by kernel_rfl
theorem gTab : Tryd.prog.globalNamed "skipgraph/skipgraphworld.letters" = some 0 := by kernel_rfl
theorem gTabType : (Tryd.prog.globals[0]?).map (·.type) = some 86 := by kernel_rfl
theorem uTab : Tryd.prog.underlying 86 = some (.array 6 9) := by kernel_rfl
theorem cTab : Tryd.prog.cellsOf 86 = 6 := by kernel_rfl
theorem cStr : Tryd.prog.cellsOf 9 = 1 := by kernel_rfl
theorem oneTab : (List.range Tryd.prog.globals.size).all (fun i => !tabG Tryd.prog i || i == 0) = true := by kernel_rfl
theorem tabs {W : World} (h : laidMetH Tryd.prog [("skipgraph/skipgraphworld.letters", Rows.laid_skipgraph_skipgraphworld_letters)] W) : ∀ i, tabG Tryd.prog i = true → i < W.heap.size ∧ TabAt W i :=
 tabs_of_laid gTab gTabType uTab uStr cStr cTab oneTab h
def toInt : List Value → Int
 |[.int _ z] => z
 |_ => 0
def toInts (rows : List (List Value)) : List Int := rows.map toInt
theorem ints_rows {w : World} {v : Value} {q : Option Sk.Loc} {rows : List (List Value)} (h : RwIn w v q [.i .i64] rows) (i : Nat) (r : List Value) (hr : rows[i]? = some r) : ints (toInts rows) i = r.map svOf := by
 have hok := h.ok r (List.mem_of_getElem? hr);rcases r with _ | ⟨v, _ | ⟨v', r⟩⟩
 ·exact hok.elim
 ·obtain ⟨⟨z, rfl, _⟩, _⟩ := hok;simp only [ints, nth, toInts, List.getD, List.getElem?_map, hr, Option.map_some, Option.getD_some, toInt, List.map_cons, List.map_nil, svOf]
 ·exact hok.2.elim
theorem ints_in {β : Env} {w : World} {v : Value} {q : Option Sk.Loc} {rows : List (List Value)} (h : RwIn w v q [.i .i64] rows) {id : Nat} (hq : β id 0 = q) :
  den β (.slc false id 0 0 (toInts rows).length) v ∧ (Sk.Obj.row ⟨false, false, 3, 1, (toInts rows).length, ints (toInts rows)⟩).holds β w q := by
 have := rows_in h hq 3 (ints (toInts rows)) (ints_rows h);simpa [toInts] using this
theorem ints_len {w : World} {v : Value} {q : Option Sk.Loc} {rows : List (List Value)} (h : RwIn w v q [.i .i64] rows) : (toInts rows).length ≤ 9223372036854775807 := by
 have := h.len;simpa [toInts, maxLen] using this
theorem ints_ltO (m : Nat) (xs : List Int) : (Sk.Obj.row ⟨false, false, 3, 1, xs.length, ints xs⟩).lt m := Sk.Obj.lt_row.2 fun i _ => by simp [ints, SV.ltL, SV.lt]
/-- A world for the witness: the table holds the six letters. -/
noncomputable def laidWorld (os : Os) : World :=
  { World.holding Tryd.prog os ⟨#[], #[], []⟩ with heap := (World.holding Tryd.prog os ⟨#[], #[], []⟩).heap.modify 0 fun
      | .cells _ t frozen => .cells (letters.map Value.string).toArray t frozen
      | o => o }
end Go.Proofs.YtdfdidinfaefmaaDoor

set_option linter.unusedSimpArgs false
set_option linter.unusedVariables false
set_option maxRecDepth 4000
namespace Go.Proofs.YtdfdidinfaefmaaDoor.lockedSerialTop
open Go.ChangeShapes Go.WideShapes Go.RowKit Go.Sk Go.Proofs
theorem top (W : World) (v0 : Value) (q0 : Option Sk.Loc) (r0 : List (List Value)) (h0 : RwIn W v0 q0 [.i .i64] r0)
  (htab : ∀ i, tabG Tryd.prog i = true → i < W.heap.size ∧ TabAt W i) : Calls Tryd.prog 7 #[v0] W fun e w' => e = .returned (.bool true) ∧ Below W.heap.size W w' := by
 let β : Env := fun _ _ => q0
 obtain ⟨a0, b0⟩ := ints_in (β := β) (id := 0) h0 rfl;refine z1d.top (Ent.of Tryd.func7 (by kernel_rfl) (by kernel_rfl)) (serial_spec (toInts r0) (ints_len h0)) β W [v0] (fun id k o ho => ?_) ⟨v0, [], a0, rfl, rfl⟩ (by simp [SV.ltL, SV.lt]) htab;obtain ⟨c, F, hf, hk, rfl⟩ := z3v ho;simp only [Sk.find, zf, one] at hf
 split at hf
 ·rename_i e; subst e; cases hf
  exact ⟨rfl, by show (0 : Nat) < 1; omega, ints_ltO _ _, b0⟩
 ·cases hf
theorem contract (H : Type) (enc : TypeId × Value → H) (W : World) (base : Nat) (args : Array Value) (ds gs : List (DataW H)) (before : List MemPlace)
  (hval : ∀ (j : Nat) t v, Tryd.f7.params[j]? = some t → args[j]? = some v → Value.okWide Tryd.prog W .any base t v)
  (hW : DataW.Whole enc Tryd.prog Tryd.f7.params.toList Rows.lockedSerialSpec.vars false W args.toList ds gs before) (hL : laidMetH Tryd.prog Rows.lockedSerialRow.laid W) :
  Calls Tryd.prog 7 args W fun e W' => ∃ v, e = .returned v ∧ Rows.lockedSerialSpec.post enc Tryd.prog Tryd.f7 false true false false W args v W' := by
 have hW1 := hW;obtain ⟨p, q, hA0, hV, rfl, _, _⟩ := hW;have hA : DataW.TrodAll enc Tryd.prog W 0 (fun _ => true) true Tryd.f7.params.toList args.toList ds p := hA0;have hval1 : ∀ (j : Nat) t v, Tryd.f7.params[j]? = some t → args[j]? = some v → Value.okWide Tryd.prog W .any base t v := hval;rw [Tryd.params7] at hA hval1;obtain ⟨v0, vs0, d0, ds0, p0, q0, ha0, rfl, rfl, h0, r0⟩ := trodAll_cons hA;obtain ⟨rfl, rfl, rfl⟩ := trodAll_nil r0;obtain rfl : args = #[v0] := by cases args; simp_all
 obtain ⟨_, _, x0⟩ := rows_open uInts fInt (by simp) (hval1 0 _ v0 rfl rfl) h0;refine (top W v0 _ _ x0 (tabs hL)).mono fun e W1 ⟨he, hb⟩ => ?_;subst he;refine ⟨_, rfl, law_post laid rowed fullS (by decide +kernel) rfl hW1 hb rfl uBool fun ds hd => ?_⟩;have hd1 : ds.length = 1 := hd
 match ds, hd1 with
 |[_], _ => rfl
theorem laid_met (os : Os) : laidMet Tryd.prog Rows.lockedSerialRow.laid ((laidWorld os).forCall (fun _ _ => 0) ⟨#[], #[.slice none 0 0], []⟩).memory :=
 laidMet_of_run' 8 (by kernel_rfl) (by kernel_rfl)
theorem reads (os : Os) {H : Type} (enc : TypeId × Value → H) : ∃ places, DataW.whole enc Tryd.prog ((laidWorld os).forCall (fun _ _ => 0) ⟨#[], #[.slice none 0 0], []⟩).memory Tryd.f7.params.toList Rows.lockedSerialSpec.vars false #[Value.slice none 0 0].toList 8 = some ([.nil], [], places) :=
 ⟨[], by kernel_rfl⟩
set_option maxRecDepth 100000 in
theorem lifted (os : Os) (started : os.Started) (H : Type) (enc : TypeId × Value → H) (F : Stop.Interp) :
  ReturnsInHanded {} Tryd.checked os 7 .any ((OpenSpec.ofChange Rows.lockedSerialSpec).preRow enc Tryd.prog Tryd.f7 Rows.lockedSerialRow.domain false Rows.lockedSerialRow.laid) (((OpenSpec.ofChange Rows.lockedSerialSpec).at F).post enc Tryd.prog Tryd.f7 false true false false) := by
 obtain ⟨places, hx⟩ := reads os enc
 refine returnsInHanded_of_row (C := Tryd.checked) (s := OpenSpec.ofChange Rows.lockedSerialSpec) own started (by kernel_rfl) Tryd.func7
  (witness_row_at (enc := enc) (C := Tryd.checked) false (laidWorld os) #[.slice none 0 0] rfl (by kernel_rfl) (by kernel_rfl) (by kernel_rfl)
   (OpenSpec.preRow_of_cond 8 hx (by kernel_rfl) (fun k hk => by cases hk) (by kernel_rfl) (laid_met os))) ?_
 intro W base args ds gs before hval hW _ _ _ hL _ _;exact contract H enc W base args ds gs before hval hW hL
theorem said : Rows.LockedSerialSaid :=
 OpenClaim.holds_of_cond 7 Tryd.f7 rfl rfl rfl rfl rfl rfl rfl ⟨rfl, rfl, rfl, rfl, rfl⟩ rfl rfl rfl rfl rfl (by kernel_rfl) Tryd.func7 (by kernel_rfl)
  (of_decide_eq_true (by kernel_rfl)) (by unfold Func.isWrapper; first | (rw [if_pos (by decide +kernel)]; kernel_rfl) | (rw [if_neg (by decide +kernel)]; exact ⟨rfl, rfl⟩))
  (fun os started H enc _ F => by rw [OpenClaim.pre_eq_preRow]; exact lifted os started H enc F)
theorem plain (f : FuncId) (fn : Func) (hf : Tryd.pinned.checked.prog.funcNamed "skipgraph/skipgraphlaw11.LockedSerial" = some f) (hfn : Tryd.pinned.checked.prog.funcs[f]? = some fn) :
  false = Tryd.pinned.checked.prog.looks [] ∧ ∀ (j : Nat) t, fn.params[j]? = some t → Tryd.pinned.checked.prog.wantsStandIn t = false := by
 obtain rfl : f = 7 := Option.some.inj ((show Tryd.prog.funcNamed "skipgraph/skipgraphlaw11.LockedSerial" = some 7 by kernel_rfl).symm.trans hf) |>.symm
 obtain rfl : fn = Tryd.f7 := (Option.some.inj (Tryd.func7.symm.trans hfn)).symm;refine ⟨by kernel_rfl, fun j t ht => ?_⟩;rw [Tryd.params7] at ht;have hm : t ∈ [22] := by simpa using Array.mem_of_getElem? ht
 have hall : ([22].all fun u => !Tryd.prog.wantsStandIn u) = true := by kernel_rfl
 exact (show Tryd.prog.wantsStandIn t = false by simpa using List.all_eq_true.1 hall t hm)
theorem proved : Rows.LockedSerialCardSaid :=
 Claim7.holds_tied_plain_at .later [] _ _ _ _ said (fun _ h => by cases h) (by kernel_rfl) (fun _ h => by cases h) lockedSerial_row_tie rfl ⟨rfl, rfl⟩ (by kernel_rfl) rfl plain (by kernel_rfl)
end Go.Proofs.YtdfdidinfaefmaaDoor.lockedSerialTop
#print axioms Go.Proofs.YtdfdidinfaefmaaDoor.lockedSerialTop.proved
