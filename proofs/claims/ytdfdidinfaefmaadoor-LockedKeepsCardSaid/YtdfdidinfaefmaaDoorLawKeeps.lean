/-
  LockedKeeps: for every input the law returns true, and the input reads as before.
  Conditions: those that each statement names.
-/
import Derived.Test.YtdfdidinfaefmaaDoorQlb
import Derived.Test.YtdfdidinfaefmaaDoorChecked
import Derived.Below
import Derived.ChangeSame
import Derived.ChangeSlices
import Derived.ReadAgain
import Derived.OpenShut
import Derived.JoinedOf
import Derived.Handed
import Derived.Deep.Slices
import Derived.Lib.LaidTab
import Derived.Test.YtdfdidinfaefmaaDoorQle
import Derived.Test.YtdfdidinfaefmaaDoorRows
import Derived.Test.YtdfdidinfaefmaaDoorCards
import Derived.Test.YtdfdidinfaefmaaDoorTie
import Derived.WalkKit
import Derived.ProofKit
import Derived.Deep.DeepHandedRow
set_option linter.unusedSimpArgs false
set_option linter.unusedVariables false
set_option maxRecDepth 4000
namespace Go.Sk
open Go.RowKit
section
variable {X : Cx} {ops : Array Oper} {K : Fr → AH → Prop} {Q : Exit → Act → World → Prop} {Wf Uq : List (List Nat)}
end
variable {X : Cx} {Q : Exit → Fr → AH → Prop} {fr : Fr} {H : AH} {l : List Code}
end Go.Sk

set_option linter.unusedSimpArgs false
set_option linter.unusedVariables false
set_option maxRecDepth 4000
namespace Go.Sk
open Go.RowKit Go.WideShapes Go.ChangeShapes
theorem below_sameAt {w w' : World} (h : Below w.heap.size w w') {p : MemPlace} (hp : p.block < w.heap.size) : w.sameAt w' p := by
 cases p with
 |cell b off => exact World.cell?_of_block (h.block b hp)
 |map b => exact h.block b hp
section
variable {H : Type} {enc : TypeId × Value → H} {P : Program}
theorem trodAll_carry {w w' : World} {base : Nat} {sp : Nat → Bool} {held : Bool} : ∀ {ts : List TypeId} {vs : List Value} {ds : List (DataW H)} {ps : List MemPlace}, DataW.TrodAll enc P w base sp held ts vs ds ps → (∀ p ∈ ps, w.sameAt w' p) →
  DataW.TrodAll enc P w' base sp held ts vs ds ps
 |[], [], [], _, h, _ => h
 |_ :: _, _ :: _, _ :: _, _, ⟨p, q, ⟨n, h1⟩, h2, e⟩, hs =>
  ⟨p, q, ⟨n, DataW.trod_carry n _ _ _ h1 fun x hx => hs x (by rw [e]; exact List.mem_append_left _ hx)⟩, trodAll_carry h2 (fun x hx => hs x (by rw [e]; exact List.mem_append_right _ hx)), e⟩
theorem trodAll_len {w : World} {base : Nat} {sp : Nat → Bool} {held : Bool} : ∀ {ts : List TypeId} {vs : List Value} {ds : List (DataW H)} {ps : List MemPlace}, DataW.TrodAll enc P w base sp held ts vs ds ps → ds.length = ts.length
 |[], [], [], _, _ => rfl
 |_ :: _, _ :: _, _ :: _, _, ⟨_, _, _, h2, _⟩ => by simp [trodAll_len h2]
theorem law_post {f : Func} {s : ChangeSpec} {apart fresh handsOn again : Bool} {W W' : World} {args : Array Value} {ds gs : List (DataW H)} {before : List MemPlace} (hl : laidOutB P = true) (hm : mapsRowed P = true)
  (hz : ∀ t e, t < P.types.size → P.underlying t = some (.slice e) → 0 < P.cellsOf e) (hts : ∀ t ∈ f.params.toList, t < P.types.size) (hv : s.vars = [])
  (hW : DataW.Whole enc P f.params.toList s.vars apart W args.toList ds gs before) (hb : Below W.heap.size W W') {tb : TypeId} (hres : f.resultTypes = #[tb]) (hbool : P.underlying tb = some .bool)
  (hfn : ∀ ds : List (DataW H), ds.length = f.params.toList.length → s.fn H ds = { results := [.lit (.bool true)], args := ds }) : s.post enc P f apart fresh handsOn again W args (.bool true) W' := by
 have hW' := hW;obtain ⟨p, q, hA, hV, rfl, hfz, hnd⟩ := hW;rw [hv] at hV
 have hq : gs = [] ∧ q = [] := by
  cases gs with
  |nil => exact ⟨rfl, hV⟩
  |cons _ _ => exact hV.elim
 obtain ⟨rfl, rfl⟩ := hq;have hfn' := hfn (ds ++ []) (by rw [List.append_nil]; exact trodAll_len hA);have hlt : ∀ x ∈ p, x.block < W.heap.size := DataW.TrodAll.lt hA
 have hargs : ∀ sp : Nat → Bool, (∀ x ∈ p ++ [], sp x.block = true) → DataW.TrodAll enc P W' 0 sp true f.params.toList args.toList ds p := fun sp hsp =>
  trodAll_carry (DataW.TrodAll.respare (kids_rows hl hm) hz hts hA fun x hx => hsp x (List.mem_append_left _ hx)) fun x hx => below_sameAt hb (hlt x hx)
 have hrl : ((Value.bool true).resultList f.resultTypes.size) = [.bool true] := by rw [hres]; rfl
 have hres' : ∀ (b : Nat) (sp : Nat → Bool) (hd : Bool), DataW.TrodAll enc P W' b sp hd f.resultTypes.toList ((Value.bool true).resultList f.resultTypes.size) (s.fn H (ds ++ [])).results [] := fun b sp hd => by
  rw [hrl, hfn', hres];exact trodAll_mk1 (shut_bool hbool true)
 have hvars : ∀ sp : Nat → Bool, DataW.TrodVars enc P W' sp s.vars (s.fn H (ds ++ [])).vars [] := fun sp => by rw [hfn', hv]; rfl
 have hargs' : ∀ sp : Nat → Bool, (∀ x ∈ p ++ [], sp x.block = true) → DataW.TrodAll enc P W' 0 sp true f.params.toList args.toList (s.fn H (ds ++ [])).args p := fun sp hsp => by
  rw [hfn']; simpa using hargs sp hsp
 have hold : ∀ x ∈ p ++ [], (fun b => decide (b < W.heap.size)) x.block = true := fun x hx => by simpa using hlt x (by simpa using hx)
 refine ⟨ds, [], p ++ [], [], p, [], hW', hres' _ _ _, hargs' _ hold, hvars _, World.keptBut_mono (fun x hx => ⟨hx, ?_⟩) (hb.frame (· ∈ p ++ [])), fun _ => ⟨?_, _, _, ([] ++ p) ++ [], ⟨[] ++ p, [], trodAll_append (hargs' _ (fun _ _ => rfl)) (hres' _ _ _), hvars _, rfl, ?_, ?_⟩, ?_⟩⟩
 ·exact .inr (.inl (by simpa using hx))
 ·intro j t r ht hr;rw [hrl] at hr;rw [hres] at ht
  cases j with
  |zero => simp at ht hr; subst ht hr; exact okWide_bool_mk hbool _
  |succ j => simp at hr
 ·intro b off hp;have hin : MemPlace.cell b off ∈ p ++ [] := by simpa using hp
  rw [hb.frozen (hlt _ (by simpa using hin))];exact hfz b off hin
 ·intro ha;simpa using hnd ha
 ·intro x hx _;simpa using hx
end
theorem z19.top {P : Program} {f : FuncId} {args : List SV} {H0 : AH} (hent : Ent P f) (hF : z19 P f args H0 (fun s _ => s = .bool true)) (β : Env) (w : World) (vs : List Value)
  (hh : ∀ id k o, look H0.os id k = some o → o.own = false ∧ id < H0.nxt ∧ o.lt H0.nxt ∧ o.holds β w (β id k)) (hd : z4b β args vs) (hl : SV.ltL H0.nxt args) (htab : ∀ g, tabG P g = true → g < w.heap.size ∧ TabAt w g) :
  Calls P f vs.toArray w fun e w' => e = .returned (.bool true) ∧ Below w.heap.size w w' := by
 let own0 : Nat → Nat → Prop := fun id k => ∃ o, look H0.os id k = some o ∧ o.own = true
 let X : Cx := { P := P, n := 0, w0 := w, own0 := own0, m0 := H0.nxt, β0 := β }
 have no : ∀ id k o, look H0.os id k = some o → ¬ o.own = true := fun id k o h => by rw [(hh id k o h).1]; simp
 have no0 : ∀ id k, ¬ own0 id k := fun id k ⟨o, h1, h2⟩ => no id k o h1 h2
 have hS : St X β H0 w := {
  os := rfl, tape := rfl, output := rfl, size := Nat.le_refl _, fix := fun _ _ _ => rfl
  holds := fun id k o h => (hh id k o h).2.2.2
  sep := fun id k id' k' o o' L L' h _ ho => absurd ho (no id k o h)
  old := fun _ _ _ => rfl
  mine := fun id k o L h ho => absurd ho (no id k o h)
  keep := fun id k h => absurd h (no0 id k)
  m0 := Nat.le_refl _
  lt := fun id k o h => ⟨(hh id k o h).2.1, (hh id k o h).2.2.1⟩
  tabs := fun g hg => ⟨(htab g hg).1, (htab g hg).2, fun id k _ h _ => absurd h (no0 id k)⟩ }
 refine ((hF X β w vs rfl rfl rfl rfl rfl hS hd hl).calls hent).mono fun e w' ⟨v, he, β', s, H', hs, _, hdv, _, hS'⟩ => ?_;subst hs;simp only [den] at hdv;subst hdv
 exact ⟨he, hS'.os, hS'.tape, hS'.output, hS'.size, fun b hb => hS'.old b hb fun id k o L h ho hβ => by
  rcases hS'.mine id k o L h ho hβ with ⟨_, h1⟩ | ⟨_, h2⟩
  ·exact absurd h1 (no0 id k)
  ·have : w.heap.size ≤ L.blk := h2
   omega⟩
end Go.Sk

set_option linter.unusedSimpArgs false
set_option linter.unusedVariables false
set_option maxRecDepth 4000
namespace Go.Sk
open Go.RowKit Go.WideShapes Go.ChangeShapes
/-- The kinds of one-cell fields. -/
inductive FK where
 |i (k : IntKind) | s | b
def FK.is (P : Program) (t : TypeId) : FK → Bool
 |.i k => match P.underlying t with | some (.int k') => k' == k | _ => false
 |.s => match P.underlying t with | some .string => true | _ => false
 |.b => match P.underlying t with | some .bool => true | _ => false
/-- A value of the kind. -/
def FK.ok : FK → Value → Prop
 |.i k, v => ∃ z, v = .int k z ∧ (Lit.int k z).wf = true
 |.s, v => ∃ x : ByteArray, v = .string x ∧ x.size ≤ maxLen
 |.b, v => ∃ x, v = .bool x
def svOf : Value → SV
 |.int k z => .int k z
 |.string x => .str x
 |.bool x => .bool x
 |v => .raw v
theorem FK.den {β : Env} {k : FK} {v : Value} (h : k.ok v) : den β (svOf v) v ∧ (svOf v).scalar = true ∧ ∀ m, (svOf v).lt m := by
 cases k <;> simp only [FK.ok] at h
 ·obtain ⟨z, rfl, _⟩ := h; exact ⟨rfl, rfl, fun _ => trivial⟩
 ·obtain ⟨z, rfl, _⟩ := h; exact ⟨rfl, rfl, fun _ => trivial⟩
 ·obtain ⟨z, rfl⟩ := h; exact ⟨rfl, rfl, fun _ => trivial⟩
/-- Cells of the kinds. -/
def okRow : List FK → List Value → Prop
 |[], [] => True
 |k :: ks, v :: vs => k.ok v ∧ okRow ks vs
 |_, _ => False
theorem okRow_len : ∀ {ks : List FK} {vs : List Value}, okRow ks vs → vs.length = ks.length
 |[], [], _ => rfl
 |_ :: _, _ :: _, h => by simp [okRow_len h.2]
 |[], _ :: _, h => h.elim
 |_ :: _, [], h => h.elim
theorem okRow_get : ∀ {ks : List FK} {vs : List Value}, okRow ks vs → ∀ (j : Nat) (v : Value), vs[j]? = some v → ∃ k : FK, k.ok v
 |[], [], _, j, v, h => by simp at h
 |k :: _, _ :: _, h, j, v, hj => by
  cases j with
  |zero => simp at hj; subst hj; exact ⟨k, h.1⟩
  |succ j => simp at hj; exact okRow_get h.2 j v hj
 |[], _ :: _, h, _, _, _ => h.elim
 |_ :: _, [], h, _, _, _ => h.elim
def fldsB (P : Program) (fs : Array Field) : Nat → List FK → Bool
 |i, [] => i == fs.size
 |i, k :: ks => (match fs[i]? with | some f => f.offset == i && P.cellsOf f.type == 1 && k.is P f.type | none => false) && fldsB P fs (i + 1) ks
/-- A type of one cell, or a struct of such fields. -/
def flatB (P : Program) (t : TypeId) (ks : List FK) : Bool :=
 P.cellsOf t == ks.length && (match P.underlying t with
  |some (.struct fs) => fldsB P fs 0 ks
  |_ => match ks with | [k] => k.is P t | _ => false)
section
variable {H : Type} {enc : TypeId × Value → H} {P : Program} {w : World} {base : Nat} {sp : Nat → Bool} {held : Bool}
theorem one_open {k : FK} {t : TypeId} {fuel : Nat} {cs : List Value} {x : DataW H × List MemPlace} (hk : k.is P t = true) (h : DataW.trod enc P w base sp held fuel t cs = some x) : ∃ v, cs = [v] ∧ k.ok v := by
 cases k <;> simp only [FK.is] at hk
 ·split at hk
  ·rename_i k' hu;obtain rfl := eq_of_beq hk;obtain ⟨n, rfl, _, hw⟩ := DataW.trod_int hu h;exact ⟨_, rfl, n, rfl, hw⟩
  ·cases hk
 ·split at hk
  ·rename_i hu;obtain ⟨s, rfl, _, hs⟩ := DataW.trod_string hu h;exact ⟨_, rfl, s, rfl, hs⟩
  ·cases hk
 ·split at hk
  ·rename_i hu;obtain ⟨b, rfl, _⟩ := DataW.trod_bool hu h;exact ⟨_, rfl, b, rfl⟩
  ·cases hk
theorem flds_open {fs : Array Field} {n : Nat} {cs : List Value} {xs : List (DataW H × List MemPlace)} (hx : xs.length = fs.size) (hf : ∀ (i : Nat) (f : Field), fs[i]? = some f → DataW.trod enc P w base sp held n f.type ((cs.drop f.offset).take (P.cellsOf f.type)) = xs[i]?) :
  ∀ (ks : List FK) (i : Nat), fldsB P fs i ks = true → i + ks.length = cs.length → okRow ks (cs.drop i)
 |[], i, _, hl => by rw [List.drop_eq_nil_of_le (by simp at hl; omega)]; trivial
 |k :: ks, i, h, hl => by
  simp only [fldsB, Bool.and_eq_true] at h;obtain ⟨h1, h2⟩ := h;simp only [List.length_cons] at hl
  split at h1
  ·rename_i f hfi;simp only [Bool.and_eq_true, beq_iff_eq] at h1;obtain ⟨⟨h3, h4⟩, h5⟩ := h1;have h6 := hf i f hfi;have hi : i < xs.length := by rw [hx]; exact (Array.getElem?_eq_some_iff.1 hfi).1
   rw [h3, h4, List.getElem?_eq_getElem hi] at h6;obtain ⟨v, hv, hok⟩ := one_open h5 h6;rw [List.drop_eq_getElem_cons (by omega), List.take_succ_cons, List.take_zero] at hv;rw [List.drop_eq_getElem_cons (by omega)];have : cs[i] = v := by simpa using hv
   rw [this];exact ⟨hok, flds_open hx hf ks (i + 1) h2 (by omega)⟩
  ·cases h1
theorem flat_open {t : TypeId} {ks : List FK} {fuel : Nat} {cs : List Value} {x : DataW H × List MemPlace} (hb : flatB P t ks = true) (h : DataW.trod enc P w base sp held fuel t cs = some x) : okRow ks cs := by
 simp only [flatB, Bool.and_eq_true, beq_iff_eq] at hb;obtain ⟨hc, hb⟩ := hb
 split at hb
 ·rename_i fs hu;obtain ⟨xs, m, _, _, hl, hxl, hf⟩ := DataW.trod_struct hu h;have := flds_open hxl hf ks 0 hb (by omega);rwa [List.drop_zero] at this
 ·split at hb
  ·rename_i k;obtain ⟨v, rfl, hok⟩ := one_open hb h;exact ⟨hok, trivial⟩
  ·cases hb
/-- A slice of rows that came in. -/
structure RwIn (w : World) (v : Value) (q : Option Loc) (ks : List FK) (rows : List (List Value)) : Prop where
 len : rows.length ≤ maxLen
 ok : ∀ r ∈ rows, okRow ks r
 val : ∃ a c, v = .slice a rows.length c ∧ rows.length ≤ c ∧ (0 < rows.length → ∃ L, q = some L ∧ a = some ⟨L.blk, L.off, none⟩)
 mem : (rows.length = 0 ∧ q = none) ∨ ∃ L, q = some L ∧ L.sz = ks.length ∧ L.blk < w.heap.size ∧ ∀ (i : Nat) (r : List Value), rows[i]? = some r → ∀ (j : Nat) (u : Value), r[j]? = some u → w.cell? ⟨L.blk, L.off + i * ks.length + j, none⟩ = some u
theorem rows_open {t e : TypeId} {ks : List FK} {v : Value} {d : DataW H} {p : List MemPlace} (ht : P.underlying t = some (.slice e)) (hb : flatB P e ks = true) (hk0 : 0 < ks.length) {b0 : Nat}
  (hval : Value.okWide P w .any b0 t v) (h : DataW.Trod enc P w base sp held t v d p) : ∃ q rows, RwIn w v q ks rows := by
 obtain ⟨n, hn⟩ := h;obtain ⟨a0, l0, c0, rfl⟩ := okWide_slice ht hval;have hce : P.cellsOf e = ks.length := by simp only [flatB, Bool.and_eq_true, beq_iff_eq] at hb; exact hb.1
 have hcs : (Value.slice a0 l0 c0).cells.toList = [Value.slice a0 l0 c0] := rfl;rw [hcs] at hn;rcases Deep.open_slice ht hn with ⟨hv, _⟩ | ⟨a, len, cap, m, n', D, Pl, hv, hbb, hlc, hcm, hmm, _, hel⟩
 ·cases hv
  exact ⟨none, [], ⟨by simp, by simp, ⟨none, 0, rfl, by simp, by simp⟩, .inl ⟨rfl, rfl⟩⟩⟩
 ·cases hv
  have hml : l0 ≤ m := by rw [hmm]; split <;> omega
  obtain ⟨R, hR⟩ := Deep.choose_lt (α := List Value) (p := fun i cs => w.cells? base (a.add (i * P.cellsOf e)) (P.cellsOf e) = some cs ∧ DataW.trod enc P w base sp held n' e cs = some (D i, Pl i)) hel;have hrl : ((List.range l0).map R).length = l0 := by simp
  have hget : ∀ i r, ((List.range l0).map R)[i]? = some r → i < l0 ∧ r = R i := fun i r h => by
   simp only [List.getElem?_map, Option.map_eq_some_iff] at h;obtain ⟨k, h1, h2⟩ := h
   have hi : i < l0 := by
    rcases Nat.lt_or_ge i l0 with h | h
    ·exact h
    ·rw [List.getElem?_eq_none (by simpa using h)] at h1; cases h1
   rw [List.getElem?_range hi] at h1
   cases h1
   exact ⟨hi, h2.symm⟩
  have hok : ∀ i, i < m → okRow ks (R i) := fun i hi => flat_open hb (hR i hi).2
  have hrow : ∀ r ∈ (List.range l0).map R, okRow ks r := fun r hr => by
   obtain ⟨i, hi, rfl⟩ := List.mem_map.1 hr;exact hok i (by have := List.mem_range.1 hi; omega)
  by_cases h0 : l0 = 0
  ·subst h0;exact ⟨none, [], ⟨by simp, by simp, ⟨some a, c0, rfl, by simp, by simp⟩, .inl ⟨rfl, rfl⟩⟩⟩
  ·have hcell : ∀ i, i < l0 → ∀ (j : Nat) (u : Value), (R i)[j]? = some u → w.cell? ((a.add (i * ks.length)).add j) = some u := fun i hi j u hj => by
    obtain ⟨h1, h2⟩ := hR i (by omega);obtain ⟨_, hlen, hc⟩ := World.cells?_some h1;have hjl : j < P.cellsOf e := by rw [← hlen]; exact (List.getElem?_eq_some_iff.1 hj).1
    rw [← hce, hc j hjl];exact hj
   have hr0 : ∃ u, (R 0)[0]? = some u := by
    have := okRow_len (hok 0 (by omega));exact ⟨_, List.getElem?_eq_getElem (by omega)⟩
   obtain ⟨u0, hu0⟩ := hr0;have hc0 := hcell 0 (by omega) 0 u0 hu0;have hsp : a.spot = none := World.cell?_spot (by unfold Addr.add at hc0; simpa using hc0);obtain ⟨b, o, s0⟩ := a;simp only at hsp;subst hsp
   have hblk : b < w.heap.size := by
    rw [z6x, z6x] at hc0;unfold World.cell? at hc0;rcases Nat.lt_or_ge b w.heap.size with h | h
    ·exact h
    ·simp [Array.getElem?_eq_none h] at hc0
   refine ⟨some ⟨b, o, ks.length, 0⟩, (List.range l0).map R, ⟨by omega, hrow, ⟨some ⟨b, o, none⟩, c0, by rw [hrl], by omega, fun _ => ⟨_, rfl, rfl⟩⟩, .inr ⟨_, rfl, rfl, hblk, fun i r hr j u hj => ?_⟩⟩⟩;obtain ⟨hi, rfl⟩ := hget i r hr;have := hcell i hi j u hj;rw [z6x, z6x] at this;exact this
end
/-- The rows as the walk's names have them. -/
theorem rows_in {β : Env} {w : World} {v : Value} {q : Option Loc} {ks : List FK} {rows : List (List Value)} (h : RwIn w v q ks rows) {id : Nat} (hq : β id 0 = q) (e : TypeId) (f : Nat → List SV) (hf : ∀ (i : Nat) (r : List Value), rows[i]? = some r → f i = r.map svOf) :
  den β (.slc false id 0 0 rows.length) v ∧ (Obj.row ⟨false, false, e, ks.length, rows.length, f⟩).holds β w q := by
 obtain ⟨_, hok, ⟨a, c, rfl, hc, hp⟩, hm⟩ := h;refine ⟨?_, ?_⟩
 ·simp only [den, slcDen, Bool.false_eq_true, if_false];refine ⟨a, c, rfl, hc, fun h => ?_⟩;obtain ⟨L, h1, h2⟩ := hp h;exact ⟨L, hq.trans h1, by rw [h2]; simp⟩
 ·rcases hm with hm | ⟨L, h1, h2, h3, h4⟩
  ·exact .inl hm
  ·refine .inr ⟨L, h1, h2, h3, fun i hi => ?_, fun h => by cases h⟩;have hi' : i < rows.length := hi;have hr := List.getElem?_eq_getElem hi';have hfi := hf i _ hr;have hoki := hok _ (List.getElem_mem hi')
   show (f i).length = ks.length ∧ ∀ (j : Nat) (s : SV), (f i)[j]? = some s → _
   rw [hfi];refine ⟨by rw [List.length_map]; exact okRow_len hoki, fun j s hs => ?_⟩;rw [List.getElem?_map, Option.map_eq_some_iff] at hs;obtain ⟨u, hu, rfl⟩ := hs;obtain ⟨k, hk⟩ := okRow_get hoki j u hu;obtain ⟨g1, g2, _⟩ := FK.den (β := β) hk;refine ⟨g2, u, ?_, g1⟩;rw [h2];exact h4 i _ hr j u hu
def strData {H : Type} (ss : List ByteArray) : DataW H := .agg (ss.map fun s => .lit (.string s.data.toList))
theorem cells_of_strs {H : Type} {enc : TypeId × Value → H} {P : Program} {w : World} {base : Nat} {sp : Nat → Bool} {held : Bool} {fuel : Nat} {t e : TypeId} {n : Nat} {cs : List Value} {ss : List ByteArray} {p : List MemPlace}
  (ht : P.underlying t = some (.array n e)) (he : P.underlying e = some .string) (hce : P.cellsOf e = 1) (hct : P.cellsOf t = n)
  (h : DataW.trod enc P w base sp held fuel t cs = some (strData ss, p)) : cs = ss.map Value.string := by
 cases fuel with
 |zero => simp [DataW.trod] at h
 |succ fuel =>
  simp only [DataW.trod, ht, hce, hct, Nat.mul_one] at h
  split at h
  ·rename_i hl;obtain ⟨xs, hm, hx⟩ := Option.map_eq_some_iff.1 h
   have hxs : xs.map (·.1) = ss.map fun s => (DataW.lit (.string s.data.toList) : DataW H) := by
    have := congrArg Prod.fst hx;simpa [strData] using this
   have hxl : xs.length = n := by simpa using Lib.mapM_length hm
   have hzl : ss.length = n := by
    have := congrArg List.length hxs;simp at this;omega
   apply List.ext_getElem?;intro i
   by_cases hi : i < n
   ·obtain ⟨b, hb, hf⟩ := Lib.mapM_at hm i i (by simp [hi]);obtain ⟨z, hc, rfl, _⟩ := DataW.trod_string he hf
    have h1 : cs[i]? = some (.string z) := by
     have := congrArg (·[0]?) hc;simpa [List.getElem?_take, List.getElem?_drop] using this
    have h2 : (xs.map (·.1))[i]? = some (DataW.lit (.string z.data.toList) : DataW H) := by simp [hb]
    rw [hxs] at h2;simp only [List.getElem?_map, Option.map_eq_some_iff, DataW.lit.injEq, Lit.string.injEq] at h2;obtain ⟨z', hz', he'⟩ := h2
    have : z' = z := by
     cases z' with
     |mk a => cases z with
      |mk b => congr 1; exact Array.toList_inj.1 he'
    subst this;simp [h1, hz']
   ·rw [List.getElem?_eq_none (by omega), List.getElem?_eq_none (by simp; omega)]
  ·cases h
/-- The one table is the one that the row lists. -/
theorem tabs_of_laid {P : Program} {W : World} {name : String} {g : Nat} {t e : TypeId} (hg : P.globalNamed name = some g) (hty : (P.globals[g]?).map (·.type) = some t) (ht : P.underlying t = some (.array 6 e)) (he : P.underlying e = some .string) (hce : P.cellsOf e = 1) (hct : P.cellsOf t = 6)
  (hone : (List.range P.globals.size).all (fun i => !tabG P i || i == g) = true) (h : laidMet P [(name, strData letters)] W) : ∀ i, tabG P i = true → i < W.heap.size ∧ TabAt W i := by
 obtain ⟨ps, ⟨g', t', cs, fuel, p, q, hg', ht', hvar, hd, _, _⟩, _⟩ := h;obtain rfl := Option.some.inj (hg.symm.trans hg');obtain rfl := Option.some.inj (hty.symm.trans ht');have hcs := cells_of_strs ht he hce hct hd;intro i hi
 have hlt : i < P.globals.size := by
  rcases Nat.lt_or_ge i P.globals.size with h | h
  ·exact h
  ·unfold tabG at hi; rw [Array.getElem?_eq_none h] at hi; cases hi
 have h1 := List.all_eq_true.1 hone i (List.mem_range.2 hlt);rw [hi] at h1;have : i = g := by simpa using h1
 subst this
 have hat : TabAt W i := fun j s hj => by
  have := World.var?_cell hg hvar j;rw [this, ← Array.getElem?_toList, hcs, List.getElem?_map, hj]
  rfl
 refine ⟨?_, hat⟩;have h0 := hat 0 _ (show letters[0]? = some _ from rfl);unfold World.cell? at h0;rcases Nat.lt_or_ge i W.heap.size with h | h
 ·exact h
 ·simp [Array.getElem?_eq_none h] at h0
end Go.Sk

set_option linter.unusedSimpArgs false
set_option linter.unusedVariables false
set_option maxRecDepth 4000
namespace Go.Sk
open Go.RowKit Go.WideShapes Go.ChangeShapes
section
variable {H : Type} {enc : TypeId × Value → H} {P : Program} {w : World} {base : Nat} {sp : Nat → Bool} {held : Bool}
end
end Go.Sk

set_option linter.unusedSimpArgs false
set_option linter.unusedVariables false
set_option maxRecDepth 4000
namespace Go.Proofs
open Go.Sk
theorem hasB_false {xs : List Int} {v : Int} : hasB xs v = false ↔ v ∉ xs := by
 rw [← hasB_iff]; cases hasB xs v <;> simp
/-- From a cell over Rights to a cell. -/
inductive Rea (cs : List Cl) : Int → Int → Prop
 |refl (c : Int) : Rea cs c c
 |step (a c : Int) (h0 : 0 ≤ a) (h1 : a ≠ 1) (h2 : z1n cs a (rt cs a) = true) (h : Rea cs (rt cs a) c) : Rea cs a c
theorem Rea.le {cs : List Cl} {a c : Int} (h : Rea cs a c) : a = c ∨ z1n cs a c = true := by
 induction h with
 |refl => exact .inl rfl
 |step a c h0 h1 h2 _ ih =>
  rcases ih with e | e
  ·exact .inr (e ▸ h2)
  ·exact .inr (z3a h2 e)
theorem Rea.next {cs : List Cl} {a c : Int} (h : Rea cs a c) (hne : a ≠ c) : 0 ≤ a ∧ a ≠ 1 ∧ z1n cs a (rt cs a) = true ∧ Rea cs (rt cs a) c := by
 cases h with
 |refl => exact absurd rfl hne
 |step _ _ h0 h1 h2 h => exact ⟨h0, h1, h2, h⟩
/-- A change of Rights: if from each cell on the way one still comes to the end. -/
theorem Rea.chg {cs ds : List Cl} {a c : Int} (h : Rea cs a c) (H : ∀ i, i ≠ c → Rea cs i c → Rea ds (rt cs i) c → Rea ds i c) : Rea ds a c := by
 induction h with
 |refl => exact .refl _
 |step a c h0 h1 h2 h3 ih =>
  by_cases e : a = c
  ·subst e; exact .refl _
  ·exact H a e (.step a c h0 h1 h2 h3) (ih H)
theorem Core.reach {cs : List Cl} {l : List Int} (h : Core cs l) {c : Int} (hc : c ∈ 0 :: l) : ∀ (k : Nat) {a : Int}, a ∈ 0 :: l → (a = c ∨ z1n cs a c = true) → meas cs a < k → Rea cs a c
 |k + 1, a, ha, hac, hk => by
  rcases hac with e | e
  ·subst e; exact .refl _
  ·have h1 : a ≠ 1 := (z2l.1 e).2.1;obtain ⟨g1, g2⟩ := h.next_mem ha h1;refine .step a c (h.rng0 ha).1 h1 g2 (h.reach hc k (List.mem_cons_of_mem _ g1) ?_ (by have := meas_lt (h.rng _ g1) g2; omega));rcases h.above ha h1 hc with f | f | f | f
   ·exact absurd f.symm (z5b e)
   ·have := less_asym e; rw [f] at this; cases this
   ·exact .inl f.symm
   ·exact .inr f
/-- From the head's neighbour one comes to each member. -/
theorem Core.fromHead {cs : List Cl} {l : List Int} (h : Core cs l) {c : Int} (h2 : 2 ≤ c) (hn : c < cs.length) (hg : gn cs c = false) : Rea cs (rt cs 0) c := by
 have hc := h.inl c h2 hn hg;have h0 : (0 : Int) ∈ 0 :: l := List.mem_cons_self ..;have hl : z1n cs 0 c = true := z2l.2 ⟨by omega, by omega, by omega, .inl rfl⟩;exact ((h.reach (List.mem_cons_of_mem _ hc) _ h0 (.inr hl) (Nat.lt_succ_self _)).next (by omega)).2.2.2
/-- A step, and the way to a cell that is a member behind it. -/
theorem Inv.rea {cs ds : List Cl} {ps : List Pr} {l l' : List Int} {y : Pr} (h : Inv cs ps l) {p : Nat} (hp : p < ps.length) (ha : actP (pr ps p) = true) (t : Tr cs p (pr ps p) ds y) (h' : Core ds l') {a c : Int} (h2 : 2 ≤ c) (hn : c < cs.length) (hg : gn ds c = false) (hr : Rea cs a c) : Rea ds a c := by
 have hv := z5d h.vb;have hx := h.prc p hp ha;have ok := hv.proc p hp;have hB := h.beside p hp ha;have hk := (h.marks hp ha t).1;have hcl : c ∈ 0 :: l' := h'.live (by omega) (by rw [hk.len]; exact hn) hg
 have same : ∀ i, i ≠ c → Rea cs i c → rt ds i = rt cs i → Rea ds (rt cs i) c → Rea ds i c := fun i hne g e ih => by
  obtain ⟨f0, f1, f2, f3⟩ := g.next hne;exact .step _ _ f0 f1 (by rw [hk.less, e]; exact f2) (by rw [e]; exact ih)
 have all : (∀ i : Int, 0 ≤ i → rt ds i = rt cs i) → Rea ds a c := fun e => hr.chg fun i hne g ih => same i hne g (e i (g.next hne).1) ih
 cases t with
 |adv e hl => exact all fun _ _ => rfl
 |seek e hl hk => exact all fun _ _ => rfl
 |aim e hl hk => exact all fun _ _ => rfl
 |lockP e hf => exact all fun i hi => rt_setK ok.pred hi
 |lockS e hf => exact all fun i hi => rt_setK ok.succ hi
 |found e hk => exact all fun _ _ => rfl
 |again e hk hb => exact all fun _ _ => rfl
 |ins e hk hb hs => exact all fun _ _ => rfl
 |rem e hk hb hs => exact all fun _ _ => rfl
 |no e hk hb c1 c2 => exact all fun _ _ => rfl
 |retry e => exact all fun i _ => rt_unlk ..
 |rel e => exact all fun i _ => rt_unlk ..
 |lockN e hf => exact all fun i hi => rt_setK (rt_in hv ok.cell.1 ok.cell.2) hi
 |link2 e => exact all fun i hi => z4x ok.succ hi
 |un2 e => exact all fun i hi => z4x ok.next hi
 |un0 e => exact all fun i hi => rt_setG ok.cell hi
 |link0 e =>
  obtain ⟨k1, hcs, hgs, hrp⟩ := hx.i67 (.inl e);have hkF := key_setF cs (pr ps p).cell (pr ps p).pred;have hrF : 0 ≤ (pr ps p).cell ∧ (pr ps p).cell < (z5e cs (pr ps p).cell (pr ps p).pred).length := by rw [hkF.len]; exact ok.cell
  have hrt : ∀ i : Int, 0 ≤ i → rt (z28 (z5e cs (pr ps p).cell (pr ps p).pred) (pr ps p).cell (pr ps p).succ) i = if i = (pr ps p).cell then (pr ps p).succ else rt cs i := fun i hi => by rw [rt_setR hrF hi, z4x ok.cell hi]
  have hgn : ∀ i : Int, 0 ≤ i → gn (z28 (z5e cs (pr ps p).cell (pr ps p).pred) (pr ps p).cell (pr ps p).succ) i = gn cs i := fun i hi => by rw [gn_setR hrF hi, z5r ok.cell hi]
  refine hr.chg fun i hne g ih => ?_
  by_cases ei : i = (pr ps p).cell
  ·subst ei
   have hlc : z1n cs (pr ps p).cell c = true := by
    rcases g.le with f | f
    ·exact absurd f hne
    ·exact f
   have hsm : (pr ps p).succ ∈ 0 :: l' := h'.live ok.succ.1 (by rw [hk.len]; exact ok.succ.2) (by rw [hgn _ ok.succ.1]; exact hgs);have hc0 : c ∈ 0 :: l := h.core.live (by omega) hn (by rw [← hgn c (by omega)]; exact hg);have hpm := hB.pm (by omega) (by omega)
   have hsc : (pr ps p).succ = c ∨ z1n cs (pr ps p).succ c = true := by
    rcases h.core.above hpm (z2l.1 hx.pl).2.1 hc0 with f | f | f | f
    ·have := z3a hx.pl hlc; rw [f, lessC_irr] at this; cases this
    ·have := less_asym f; rw [z3a hx.pl hlc] at this; cases this
    ·exact .inl (hrp.symm.trans f.symm)
    ·exact .inr (hrp ▸ f)
   have e1 := hrt _ ok.cell.1;rw [if_pos rfl] at e1;refine .step _ _ ok.cell.1 (by have := hx.c2; omega) (by rw [hk.less, e1]; exact hcs) ?_;rw [e1];exact h'.reach hcl _ hsm (hsc.imp id fun f => by rw [hk.less]; exact f) (Nat.lt_succ_self _)
  ·exact same i hne g (by rw [hrt i (g.next hne).1, if_neg ei]) ih
 |link1 e =>
  obtain ⟨k1, hcs, hgs, hrp⟩ := hx.i67 (.inr e);obtain ⟨hrc, hlc⟩ := hx.i7 e;have hkR := z6f cs (pr ps p).pred (pr ps p).cell;have hcR : 0 ≤ (pr ps p).cell ∧ (pr ps p).cell < (z28 cs (pr ps p).pred (pr ps p).cell).length := by rw [hkR.len]; exact ok.cell
  have hrt : ∀ i : Int, 0 ≤ i → rt (setU (z28 cs (pr ps p).pred (pr ps p).cell) (pr ps p).cell) i = if i = (pr ps p).pred then (pr ps p).cell else rt cs i := fun i hi => by rw [rt_setU hcR hi, rt_setR ok.pred hi]
  refine hr.chg fun i hne g ih => ?_
  by_cases ei : i = (pr ps p).pred
  ·subst ei;have e1 := hrt _ ok.pred.1;rw [if_pos rfl] at e1;have e2 := hrt _ ok.cell.1;rw [if_neg (z5b hx.pl).symm, hrc] at e2;rw [hrp] at ih;refine .step _ _ ok.pred.1 (z2l.1 hx.pl).2.1 (by rw [hk.less, e1]; exact hx.pl) ?_;rw [e1];refine .step _ _ ok.cell.1 (by have := hx.c2; omega) (by rw [hk.less, e2]; exact hcs) ?_;rw [e2]; exact ih
  ·exact same i hne g (by rw [hrt i (g.next hne).1, if_neg ei]) ih
 |un1 e =>
  obtain ⟨k2, hsc, hrp⟩ := hx.r9 (.inr (.inr e));obtain ⟨hnr, hgn, hcl2⟩ := hx.r10 (.inr e);have hgc := hx.r11 e;have hrt : ∀ i : Int, 0 ≤ i → rt (z28 cs (pr ps p).pred (pr ps p).next) i = if i = (pr ps p).pred then (pr ps p).next else rt cs i := fun i hi => rt_setR ok.pred hi;refine hr.chg fun i hne g ih => ?_
  by_cases ei : i = (pr ps p).pred
  ·subst ei;have e1 := hrt _ ok.pred.1;rw [if_pos rfl] at e1;rw [hrp] at ih
   have hcne : (pr ps p).cell ≠ c := fun f => by
    subst f;rw [gn_setR ok.pred ok.cell.1, hgc] at hg; cases hg
   obtain ⟨f0, f1, f2, f3⟩ := ih.next hcne;rw [hrt _ ok.cell.1, if_neg (z5b hx.pl).symm, ← hnr] at f2 f3;refine .step _ _ ok.pred.1 (z2l.1 hx.pl).2.1 (by rw [hk.less, e1]; exact z3a hx.pl hcl2) ?_;rw [e1]; exact f3
  ·exact same i hne g (by rw [hrt i (g.next hne).1, if_neg ei]) ih
/-- What is known of a process: w, m: at some moment since its start the cell was a member, was none. -/
structure MJ (cs : List Cl) (x : Pr) (w m : Bool) : Prop where
 a1 : x.phase = 1 → m = false → Rea cs x.succ x.cell
 b1 : x.phase = 4 → x.kind = 3 → m = false → x.succ = x.cell
 a2 : x.phase = 18 → x.kind = 3 → (x.res = true → w = true) ∧ (x.res = false → m = true)
 a3 : x.phase = 18 → x.kind = 1 → x.res = false → w = true
 a4 : x.phase = 18 → x.kind = 2 → x.res = false → m = true
 a5 : x.phase = 13 → x.kind = 1 → x.res = false → w = true
 a6 : x.phase = 13 → x.kind = 2 → x.res = false → m = true
theorem MJ.mono {cs ds : List Cl} {x : Pr} {w m w' m' : Bool} (h : MJ cs x w m) (hr : x.phase = 1 → m' = false → Rea cs x.succ x.cell → Rea ds x.succ x.cell) (hw : w = true → w' = true) (hm : m = true → m' = true) : MJ ds x w' m' := by
 have hm' : m' = false → m = false := fun e => by cases m with | false => rfl | true => rw [hm rfl] at e; cases e
 exact ⟨fun a b => hr a b (h.a1 a (hm' b)), fun a b c => h.b1 a b (hm' c), fun a b => ⟨fun c => hw ((h.a2 a b).1 c), fun c => hm ((h.a2 a b).2 c)⟩, fun a b c => hw (h.a3 a b c), fun a b c => hm (h.a4 a b c), fun a b c => hw (h.a5 a b c), fun a b c => hm (h.a6 a b c)⟩
theorem MJ.dull {cs : List Cl} {x : Pr} {w m : Bool} (h1 : x.phase ≠ 1) (h4 : x.phase = 4 → x.kind ≠ 3) (h13 : x.phase ≠ 13) (h18 : x.phase ≠ 18) : MJ cs x w m :=
 ⟨fun e => absurd e h1, fun e e2 => absurd e2 (h4 e), fun e => absurd e h18, fun e => absurd e h18, fun e => absurd e h18, fun e => absurd e h13, fun e => absurd e h13⟩
/-- Which processes are looked at behind a call for process q. -/
def cQ (ps : List Pr) (q : Int) (j : Nat) : Bool := actP (pr ps j) || (j : Int) == q
/-- What is so of a process before it is looked at. -/
def PreJ (cs : List Cl) (ps : List Pr) (mem : List Int) (q : Int) (j : Nat) (w m : Bool) : Prop :=
 MJ cs (pr ps j) (w || (cQ ps q j && hasB mem (pr ps j).cell)) (m || (cQ ps q j && !hasB mem (pr ps j).cell))
theorem stepR_idle {cs : List Cl} {ps : List Pr} {q : Int} (hv : z2r cs ps = true) (h : z3y cs ps q = false) : z3u cs ps q = (cs, ps) := by
 rw [z3y, hv, Bool.true_and] at h;rw [z3u, hv, h]; rfl
theorem mem_has {cs : List Cl} {ps : List Pr} (hv : z2r cs ps = true) {c : Int} (h2 : 2 ≤ c) (hn : c < cs.length) : hasB (z1b cs ps) c = !gn cs c := by
 cases hg : gn cs c with
 |false => exact hasB_iff.2 ((membersK_mem hv).2 ⟨h2, hn, hg⟩)
 |true => exact hasB_false.2 fun h => by have := ((membersK_mem hv).1 h).2.2; rw [hg] at this; cases this
theorem PreJ.step {cs : List Cl} {ps : List Pr} {l : List Int} {q : Int} {W M : List Bool} (h : Inv cs ps l) (hm : ∀ j, j < ps.length → MJ cs (pr ps j) (bAt W j) (bAt M j)) :
  (∃ l', Inv (z3u cs ps q).1 (z3u cs ps q).2 l') ∧ (z3u cs ps q).2.length = ps.length ∧ ∀ j, j < ps.length → PreJ (z3u cs ps q).1 (z3u cs ps q).2 (z1b (z3u cs ps q).1 (z3u cs ps q).2) q j (bAt W j) (bAt M j) := by
 cases hok : z3y cs ps q with
 |false =>
  rw [stepR_idle h.vb hok];refine ⟨⟨l, h⟩, rfl, fun j hj => (hm j hj).mono (fun _ _ g => g) (fun e => by rw [e]; rfl) fun e => by rw [e]; rfl⟩
 |true =>
  obtain ⟨hq, hqn, ha, hT, hr, l', hI⟩ := h.act_step hok;have hMq := hm _ hqn;have hv := z5d h.vb;have hP := h.prc _ hqn ha;have hO := hv.proc _ hqn;obtain ⟨hke, _⟩ := h.marks hqn ha hT;rw [hr];dsimp only;refine ⟨⟨l', hI⟩, List.length_set, fun j hj => ?_⟩
  by_cases e : j = q.toNat
  ·subst e
   have hc : cQ (ps.set q.toNat (z22 cs (pr ps q.toNat))) q q.toNat = true := by
    rw [cQ, show ((q.toNat : Nat) : Int) = q by omega]; simp
   unfold PreJ;rw [hc, Bool.true_and, Bool.true_and];rw [z61 hqn];have hrea : ∀ {a c : Int}, 2 ≤ c → c < cs.length → gn (z21 cs q.toNat (pr ps q.toNat)) c = false → Rea cs a c → Rea (z21 cs q.toNat (pr ps q.toNat)) a c := fun {a c} g1 g2 g3 g4 => h.rea hqn ha hT hI.core g1 g2 g3 g4;have hmem : ∀ c : Int, 2 ≤ c → c < cs.length → hasB (z1b (z21 cs q.toNat (pr ps q.toNat)) (ps.set q.toNat (z22 cs (pr ps q.toNat)))) c = !gn (z21 cs q.toNat (pr ps q.toNat)) c := fun c g1 g2 => mem_has hI.vb g1 (by rw [hke.len]; exact g2);have hhead := fun {c : Int} (g1 : 2 ≤ c) (g2 : c < cs.length) => hI.core.fromHead g1 (by rw [hke.len]; exact g2)
   generalize z21 cs q.toNat (pr ps q.toNat) = ds at *
   generalize z22 cs (pr ps q.toNat) = y at *
   generalize z1b ds (ps.set q.toNat y) = mem at *
   have c2 := hP.c2;have hcm := hmem _ c2 hO.cell.2
   cases hT with
   |adv g hl =>
    refine ⟨fun _ b => ?_, fun f => ?_, fun f => ?_, fun f => ?_, fun f => ?_, fun f => ?_, fun f => ?_⟩
    ·rw [Bool.or_eq_false_iff] at b;exact ((hMq.a1 g b.1).next (z5b hl)).2.2.2
    all_goals (dsimp only at f; omega)
   |seek g hl hk =>
    refine ⟨fun f => ?_, fun _ _ b => ?_, fun f => ?_, fun f => ?_, fun f => ?_, fun f => ?_, fun f => ?_⟩
    ·dsimp only at f; omega
    ·rw [Bool.or_eq_false_iff] at b;rcases (hMq.a1 g b.1).le with f | f
     ·exact f
     ·rw [hl] at f; cases f
    all_goals (dsimp only at f; omega)
   |aim g hl hk => exact MJ.dull (by dsimp only; omega) (fun f => by dsimp only at f; omega) (by dsimp only; omega) (by dsimp only; omega)
   |lockP g hf => exact MJ.dull (by dsimp only; omega) (fun f => by dsimp only at f; omega) (by dsimp only; omega) (by dsimp only; omega)
   |lockS g hf => exact MJ.dull (by dsimp only; omega) (fun _ => hP.k3 (by omega) (by omega)) (by dsimp only; omega) (by dsimp only; omega)
   |found g hk =>
    refine ⟨fun f => ?_, fun f => ?_, fun _ _ => ⟨fun f => ?_, fun f => ?_⟩, fun _ f => ?_, fun _ f => ?_, fun f => ?_, fun f => ?_⟩
    ·dsimp only at f; omega
    ·dsimp only at f; omega
    ·simp only [Bool.and_eq_true, beq_iff_eq, Bool.not_eq_true'] at f
     show (_ || hasB mem (pr ps q.toNat).cell) = true
     rw [hcm, f.2]; simp
    ·show (_ || !hasB mem (pr ps q.toNat).cell) = true
     rw [hcm]
     cases hg : gn cs (pr ps q.toNat).cell with
     |true => simp
     |false =>
      have f1 : ¬ (pr ps q.toNat).succ = (pr ps q.toNat).cell := fun f2 => by rw [hg, f2] at f; simp at f
      cases hb : bAt M q.toNat with
      |true => rfl
      |false => exact absurd (hMq.b1 g hk hb) f1
    ·dsimp only at f; omega
    ·dsimp only at f; omega
    ·dsimp only at f; omega
    ·dsimp only at f; omega
   |again g hk hb => exact MJ.dull (by dsimp only; omega) (fun f => by dsimp only at f; omega) (by dsimp only; omega) (by dsimp only; omega)
   |ins g hk hb hs => exact MJ.dull (by dsimp only; omega) (fun f => by dsimp only at f; omega) (by dsimp only; omega) (by dsimp only; omega)
   |rem g hk hb hs => exact MJ.dull (by dsimp only; omega) (fun f => by dsimp only at f; omega) (by dsimp only; omega) (by dsimp only; omega)
   |no g hk hb k1 k2 =>
    obtain ⟨b1, b2, b3⟩ := fail_iff.1 hb;refine ⟨fun f => ?_, fun f => ?_, fun f => ?_, fun f => ?_, fun f => ?_, fun _ f _ => ?_, fun _ f _ => ?_⟩
    ·dsimp only at f; omega
    ·dsimp only at f; omega
    ·dsimp only at f; omega
    ·dsimp only at f; omega
    ·dsimp only at f; omega
    ·show (_ || hasB mem (pr ps q.toNat).cell) = true
     rw [hcm, ← k1 f, b2]; simp
    ·show (_ || !hasB mem (pr ps q.toNat).cell) = true
     rw [hcm]
     cases hg : gn cs (pr ps q.toNat).cell with
     |true => simp
     |false =>
      exfalso
      have hpm := h.core.live hO.pred.1 hO.pred.2 b1;have hcl := h.core.live hO.cell.1 hO.cell.2 hg;have hcs := (dst_of h.vb).total hO.succ hO.cell (k2 f) (hP.ge (by omega));exact h.core.gap hpm hP.pl (b3 ▸ hcs) hcl
   |retry g =>
    refine ⟨fun _ b => ?_, fun f => ?_, fun f => ?_, fun f => ?_, fun f => ?_, fun f => ?_, fun f => ?_⟩
    ·rw [Bool.or_eq_false_iff] at b;have b2 : (!hasB mem (pr ps q.toNat).cell) = false := b.2;rw [hcm, Bool.not_not] at b2;have := hhead c2 hO.cell.2 b2;rw [rt_unlk] at this;exact this
    all_goals (dsimp only at f; omega)
   |link0 g => exact MJ.dull (by dsimp only; omega) (fun f => by dsimp only at f; omega) (by dsimp only; omega) (by dsimp only; omega)
   |link1 g => exact MJ.dull (by dsimp only; omega) (fun f => by dsimp only at f; omega) (by dsimp only; omega) (by dsimp only; omega)
   |link2 g =>
    refine ⟨fun f => ?_, fun f => ?_, fun f => ?_, fun f => ?_, fun f => ?_, (fun _ _ f => by cases f), fun _ _ f => by cases f⟩
    all_goals (dsimp only at f; omega)
   |lockN g hf => exact MJ.dull (by dsimp only; omega) (fun f => by dsimp only at f; omega) (by dsimp only; omega) (by dsimp only; omega)
   |un0 g => exact MJ.dull (by dsimp only; omega) (fun f => by dsimp only at f; omega) (by dsimp only; omega) (by dsimp only; omega)
   |un1 g => exact MJ.dull (by dsimp only; omega) (fun f => by dsimp only at f; omega) (by dsimp only; omega) (by dsimp only; omega)
   |un2 g =>
    refine ⟨fun f => ?_, fun f => ?_, fun f => ?_, fun f => ?_, fun f => ?_, (fun _ _ f => by cases f), fun _ _ f => by cases f⟩
    all_goals (dsimp only at f; omega)
   |rel g =>
    refine ⟨fun f => ?_, fun f => ?_, fun _ f => absurd f (hP.k3 (by omega) (by omega)), fun _ f1 f2 => ?_, fun _ f1 f2 => ?_, fun f => ?_, fun f => ?_⟩
    ·dsimp only at f; omega
    ·dsimp only at f; omega
    ·rw [hMq.a5 g f1 f2]; rfl
    ·rw [hMq.a6 g f1 f2]; rfl
    ·dsimp only at f; omega
    ·dsimp only at f; omega
  ·unfold PreJ;rw [z5n (Ne.symm e)];refine (hm j hj).mono (fun g1 g2 g3 => ?_) (fun e => by rw [e]; rfl) fun e => by rw [e]; rfl
   have haj : actP (pr ps j) = true := act_iff.2 (by omega)
   have hcj : cQ (ps.set q.toNat (z22 cs (pr ps q.toNat))) q j = true := by
    rw [cQ, z5n (Ne.symm e), haj]; rfl
   have c2 := (h.prc j hj haj).c2;have hcl := (hv.proc j hj).cell.2;rw [Bool.or_eq_false_iff, hcj, Bool.true_and, mem_has hI.vb c2 (by rw [hke.len]; exact hcl), Bool.not_not] at g2;exact h.rea hqn ha hT hI.core c2 hcl g2.2 g3
theorem bAt_set {l : List Bool} {k j : Nat} {b : Bool} (h : k < l.length) : bAt (l.set k b) j = if j = k then b else bAt l j := by
 simp only [bAt, List.getD]
 by_cases e : j = k
 ·subst e; simp [h]
 ·rw [List.getElem?_set_ne (Ne.symm e), if_neg e]
theorem PreJ.start {cs : List Cl} {ps : List Pr} {l : List Int} {q k c : Int} {W M : List Bool} (h : Inv cs ps l) (he : z36 cs ps q k c = 0) (hW : W.length = ps.length) (hM : M.length = ps.length) (hm : ∀ j, j < ps.length → MJ cs (pr ps j) (bAt W j) (bAt M j)) :
  (∃ l', Inv (z2d cs ps q k c).1 (z2d cs ps q k c).2 l') ∧ (z2d cs ps q k c).2.length = ps.length ∧ ∀ j, j < ps.length → PreJ (z2d cs ps q k c).1 (z2d cs ps q k c).2 (z1b (z2d cs ps q k c).1 (z2d cs ps q k c).2) q j (bAt (W.set q.toNat false) j) (bAt (M.set q.toNat false) j) := by
 have hI := h.start he;obtain ⟨_, hp, hc, hk, _⟩ := startE_zero he;have hqn : q.toNat < ps.length := by omega
 rw [z2d, if_pos he];dsimp only;refine ⟨⟨l, hI⟩, z64 .., fun j hj => ?_⟩;unfold PreJ;rw [bAt_set (by omega), bAt_set (by omega)]
 by_cases e : j = q.toNat
 ·subst e;have hx : pr (startP cs ps q k c) q.toNat = ⟨k, c, 1, 0, (cl cs 0).right, 0, false⟩ := by unfold startP; rw [z61 hqn]
  have hcq : cQ (startP cs ps q k c) q q.toNat = true := by
   rw [cQ, show ((q.toNat : Nat) : Int) = q by omega]; simp
  rw [hcq, if_pos rfl, if_pos rfl, hx];refine ⟨fun _ b => ?_, (fun f => by cases f), (fun f => by cases f), (fun f => by cases f), (fun f => by cases f), (fun f => by cases f), fun f => by cases f⟩;dsimp only at b;rw [Bool.false_or, Bool.true_and, mem_has hI.vb hc.1 hc.2, Bool.not_not] at b;exact hI.core.fromHead hc.1 hc.2 b
 ·have hx : pr (startP cs ps q k c) j = pr ps j := by unfold startP; rw [z5n (Ne.symm e)]
  rw [hx, if_neg e, if_neg e];exact (hm j hj).mono (fun _ _ g => g) (fun e => by rw [e]; rfl) fun e => by rw [e]; rfl
end Go.Proofs

set_option linter.unusedSimpArgs false
set_option linter.unusedVariables false
set_option maxRecDepth 4000
namespace Go.Proofs
open Go.Sk
end Go.Proofs

set_option linter.unusedSimpArgs false
set_option linter.unusedVariables false
set_option maxRecDepth 4000
namespace Go.Proofs
open Go.Sk
set_option maxHeartbeats 8000000 in
theorem keeps_spec (ls : List Int) (hx : ls.length ≤ 9223372036854775807) :
  z19 Tryd.prog 4 [.slc false 0 0 0 ls.length] ⟨1, [(0, zk ls)]⟩ (fun s _ => s = .bool true) := by
 refine z19.ofC false 39 [.tmp 2] Tryd.func4 rfl rfl Tryd.ntmps4 Tryd.results4 rfl ?_;intro w0 own0 β0 Q hQ hQn;simp only [z2e];refine Cs.seq ?_;refine Cs.reg [0] rfl ?_;intro K hK;(refine z11 z5 ?_; repeat (with_reducible apply ai;exact z4));refine z7 (z6 (hK _ _ ?_)); clear hK K;refine Cs.seq ?_;refine Cs.reg [3] rfl ?_;intro K hK;(refine z11 z5 ?_; repeat (with_reducible apply ai;exact z4));refine z11 z5 ?_;repeat (with_reducible apply ai;exact z4)
 refine z1x (new_spec ls hx) (id) ?_;rintro s0 H0 ⟨m, hm, rfl, rfl⟩ s1 H1 hs1 hH1;obtain ⟨hs2, hH2⟩ := z2z hs1 hH1;clear hs1 hH1;subst hs2 hH2;repeat (with_reducible apply ai;exact z4)
 (refine z11 z5 ?_; repeat (with_reducible apply ai;exact z4));refine z7 (z6 (hK _ _ ?_)); clear hK K;refine Cs.seq ?_;refine Cs.reg [3, 4, 5] rfl ?_;intro K hK;(refine z11 z5 ?_; repeat (with_reducible apply ai;exact z4));refine z11 z5 ?_;repeat (with_reducible apply ai;exact z4)
 refine z1x (made_spec ls m 0 hx hm (Nat.zero_le _)) (fun k => if k = 0 then 1 else 0) ?_;rintro s0 H0 ⟨keys, inn, np, at1, ⟨ha1, hmk⟩, rfl, rfl⟩ s1 H1 hs1 hH1;obtain ⟨hs2, hH2⟩ := z2z hs1 hH1;clear hs1 hH1;subst hs2 hH2;repeat (with_reducible apply ai;exact z4)
 have hk6 := hmk.len;have hp4 := hmk.four;have hI0 := inv_made hmk;iterate 6 (refine z11 z5 ?_; repeat (with_reducible apply ai;exact z4))
 refine z7 (z6 (hK _ _ ?_)); clear hK K;refine Cs.seq ?_;refine Cs.seq ?_;refine Cs.reg [3, 4, 20] rfl ?_;intro K hK;iterate 4 (refine z11 z5 ?_; repeat (with_reducible apply ai;exact z4))
 refine z5 ?_;refine z2i rfl rfl ?_;refine z2h ?_;refine ⟨fun _ => ?_, fun h => (by cases h)⟩;refine z11 id ?_;repeat (with_reducible apply ai;exact z4)
 have hcl := z15 keys inn keys.length;have hpl : (List.replicate np noPr).length = np := List.length_replicate
 generalize newK keys inn keys.length = cs0 at *
 generalize List.replicate np noPr = ps0 at *
 generalize ordN keys inn keys.length = l0 at *
 rw [← hcl, ← hpl];rw [← hpl] at hp4;refine z1x (check_specL cs0 ps0 cs0.length ps0.length rfl rfl (by omega) (by omega)) (fun k => k + 2) ?_;rintro s0 H0 ⟨rfl, rfl⟩ s1 H1 hs1 hH1;obtain ⟨hs2, hH2⟩ := z2z hs1 hH1;clear hs1 hH1;subst hs2 hH2;repeat (with_reducible apply ai;exact z4)
 rw [hI0.check];iterate 2 (refine z11 z5 ?_; repeat (with_reducible apply ai;exact z4))
 refine z7 (z6 (hK _ _ ?_)); clear hK K;refine Cs.cond _ rfl ?_ ?_
 ·intro h20
  exfalso; cases h20
 ·intro h20
  
  refine Cs.skip ?_;refine Cs.seq ?_;refine Cs.seq ?_;refine Cs.reg [3, 4, 6] rfl ?_;intro K hK;(refine z11 z5 ?_; repeat (with_reducible apply ai;exact z4));refine z7 (z6 (hK _ _ ?_)); clear hK K;refine Cs.block ?_;intro Q0 hN0 hX0 hR0 hE0;refine Cs.loop (σ := (List Cl × List Pr) × Nat × Nat) (fun σ => (∃ l, Inv σ.1.1 σ.1.2 l) ∧ σ.2.1 ≤ m ∧ σ.2.2 ≤ 90) (fun σ => 90 - σ.2.2) (fun σ => [(3, .ptr 1 0 0 0), (4, .ptr 4 0 0 0), (6, .int .i64 σ.2.2)]) (fun σ => ⟨5, [(1, zn 0 m σ.2.1), (4, zo 2 σ.1.1.length 3 σ.1.2.length), (3, zl σ.1.2), (2, zj σ.1.1), (0, zk ls)]⟩) ((cs0, ps0), at1, 0) ⟨⟨l0, hI0⟩, ha1, Nat.zero_le _⟩ (ρ := id) (z5q id) ?_;rintro ⟨⟨cs, ps⟩, at2, i⟩ hi QL1 hL1 hRL1 hEL1;refine Cs.seq ?_;refine Cs.seq ?_;refine Cs.reg [3, 4, 6, 26] rfl ?_;intro K hK
  have hk6 : ((∃ l, Inv cs ps l) ∧ at2 ≤ m ∧ i ≤ 90) → ∀ B : Bool, (B = true → i < 90) → K [(3, .ptr 1 0 0 0), (4, .ptr 4 0 0 0), (6, .int .i64 i), (26, .bool B)] ⟨5, [(1, zn 0 m at2), (4, zo 2 cs.length 3 ps.length), (3, zl ps), (2, zj cs), (0, zk ls)]⟩ := by
   intro hi B hB;obtain ⟨⟨l1, hI⟩, hi3, hi4⟩ := hi;have hln := hI.lens;refine hK _ _ ?_;clear hK K;refine Cs.cond _ rfl ?_ ?_
   ·intro h26;have hi90 := hB h26;refine Cs.skip ?_;refine Cs.seq ?_;refine Cs.block ?_;intro Q1 hN1 hX1 hR1 hE1;refine Cs.seq ?_;refine Cs.reg [3, 4, 6] rfl ?_;intro K hK;iterate 2 (refine z11 z5 ?_; repeat (with_reducible apply ai;exact z4))
    refine z11 z5 ?_;repeat (with_reducible apply ai;exact z4)
    refine z1x (play_spec ls m at2 hx hm hi3 cs ps (by omega) (by omega) 1 (by omega)) (fun k => if k = 0 then 1 else if k = 1 then 0 else k) ?_;rintro s0 H0 ⟨_ | _, ⟨us, vs⟩, at3, kk, ⟨h1, h2, h3⟩, rfl, rfl⟩ s1 H1 hs1 hH1
    all_goals simp only [plS, plH, Bool.false_eq_true, if_false, if_true] at hs1 hH1
    all_goals obtain ⟨hs2, hH2⟩ := z2z hs1 hH1
    all_goals clear hs1 hH1
    all_goals subst hs2 hH2
    all_goals repeat (with_reducible apply ai;exact z4)
    all_goals (have hl := h2.len; dsimp only at hl; obtain ⟨l2, hI2⟩ := h2.inv ⟨l1, hI⟩; dsimp only at hI2)
    ·skip
     iterate 4 (refine z11 z5 ?_; repeat (with_reducible apply ai;exact z4))
     refine z7 (z6 (hK _ _ ?_)); clear hK K;refine Cs.seq ?_;refine Cs.reg [3, 4, 6, 37] rfl ?_;intro K hK;(refine z11 z5 ?_; repeat (with_reducible apply ai;exact z4));refine z11 z5 ?_;repeat (with_reducible apply ai;exact z4)
     refine z1x (check_specL us vs us.length vs.length rfl rfl (by omega) (by omega)) (fun k => k + 5) ?_;rintro s0 H0 ⟨rfl, rfl⟩ s1 H1 hs1 hH1;obtain ⟨hs2, hH2⟩ := z2z hs1 hH1;clear hs1 hH1;subst hs2 hH2;repeat (with_reducible apply ai;exact z4)
     rw [hI2.check];(refine z11 z5 ?_; repeat (with_reducible apply ai;exact z4));refine z7 (z6 (hK _ _ ?_)); clear hK K;refine Cs.cond _ rfl ?_ ?_
     ·intro h37
      exfalso; cases h37
     ·intro h37
      
      refine Cs.skip ?_;refine Cs.nil ?_;refine hN1 _ _ ?_;refine Cs.reg [3, 4, 6] rfl ?_;intro K hK;iterate 3 (refine z11 z5 ?_; repeat (with_reducible apply ai;exact z4))
      refine z7 (z6 (hK _ _ ?_)); clear hK K;refine Cs.nil ?_;refine hL1 _ _ ?_;rw [show (i : Int) + 1 = ((i + 1 : Nat) : Int) from by omega];refine ⟨((us, vs), at3, i + 1), ⟨⟨⟨l2, hI2⟩, h1, by dsimp only; omega⟩, by dsimp only; omega⟩, fun k => if k = 2 then 5 else if k = 3 then 6 else k, (LmDm.g1 (fun k => if k = 2 then 5 else if k = 3 then 6 else k))⟩
    ·skip
     iterate 4 (refine z11 z5 ?_; repeat (with_reducible apply ai;exact z4))
     refine z7 (z6 (hK _ _ ?_)); clear hK K;refine Cs.seq ?_;have h4 : us = cs ∧ vs = ps := by simpa using h3 rfl
     obtain ⟨rfl, rfl⟩ := h4;refine Cs.reg [3, 4, 6, 37] rfl ?_;intro K hK;(refine z11 z5 ?_; repeat (with_reducible apply ai;exact z4));refine z11 z5 ?_;repeat (with_reducible apply ai;exact z4)
     refine z1x (check_specL us vs us.length vs.length rfl rfl (by omega) (by omega)) (fun k => k + 2) ?_;rintro s0 H0 ⟨rfl, rfl⟩ s1 H1 hs1 hH1;obtain ⟨hs2, hH2⟩ := z2z hs1 hH1;clear hs1 hH1;subst hs2 hH2;repeat (with_reducible apply ai;exact z4)
     rw [hI2.check];(refine z11 z5 ?_; repeat (with_reducible apply ai;exact z4));refine z7 (z6 (hK _ _ ?_)); clear hK K;refine Cs.cond _ rfl ?_ ?_
     ·intro h37
      exfalso; cases h37
     ·intro h37
      
      refine Cs.skip ?_;refine Cs.nil ?_;refine hN1 _ _ ?_;refine Cs.reg [3, 4, 6] rfl ?_;intro K hK;iterate 3 (refine z11 z5 ?_; repeat (with_reducible apply ai;exact z4))
      refine z7 (z6 (hK _ _ ?_)); clear hK K;refine Cs.nil ?_;refine hL1 _ _ ?_;rw [show (i : Int) + 1 = ((i + 1 : Nat) : Int) from by omega];refine ⟨((us, vs), at3, i + 1), ⟨⟨⟨l2, hI2⟩, h1, by dsimp only; omega⟩, by dsimp only; omega⟩, id, (z5q id)⟩
   ·intro h26
    
    refine Cs.exit ?_;refine hEL1 _ _ _ ?_;refine hX0 _ _ ?_;refine Cs.seq ?_;refine Cs.reg [2] rfl ?_;intro K hK;refine z11 z5 ?_;repeat (with_reducible apply ai;exact z4)
    refine z1x (sane_spec) (id) ?_;rintro s0 H0 ⟨rfl, rfl⟩ s1 H1 hs1 hH1;obtain ⟨hs2, hH2⟩ := z2z hs1 hH1;clear hs1 hH1;subst hs2 hH2;repeat (with_reducible apply ai;exact z4)
    (refine z11 z5 ?_; repeat (with_reducible apply ai;exact z4));refine z7 (z6 (hK _ _ ?_)); clear hK K;refine Cs.ret ?_;refine hQ _ _ ?_;refine z17.mk (H' := ⟨1, []⟩) (.inl rfl) ?_;refine LmCm.ou ?_;repeat (with_reducible apply ai;exact z4)
    refine ⟨zh, (z5q id), LmDm.r3, ?_⟩
    all_goals first | trivial | rfl | exact ⟨rfl, trivial⟩
  iterate 4 (refine z11 z5 ?_; repeat (with_reducible apply ai;exact z4))
  refine z5 ?_;refine z2i rfl rfl ?_;refine z2h ?_
  first | refine z2b ?_ ?_ | refine (fun (h1 : false = true → _) (h2 : false = false → _) => And.intro h1 fun _ => h2 rfl) ?_ ?_
  ·intro hg4
   first
    |(simp at hg4; done)
    |skip
     try replace hg4 := z9 hg4
     refine z11 id ?_;repeat (with_reducible apply ai;exact z4)
     refine z1x (left_spec ls m at2) (fun k => if k = 0 then 1 else 0) ?_;rintro s0 H0 ⟨⟨b, rfl⟩, rfl⟩ s1 H1 hs1 hH1;obtain ⟨hs2, hH2⟩ := z2z hs1 hH1;clear hs1 hH1;subst hs2 hH2;repeat (with_reducible apply ai;exact z4)
     (refine z11 z5 ?_; repeat (with_reducible apply ai;exact z4));refine z7 ?_;refine z6 ?_;refine hk6 hi _ ?_;intro hb; simp at hb <;> omega
  ·intro hg4;refine ⟨.bool false, ?_⟩
   first
    |(simp at hg4; done)
    |skip
     try replace hg4 := z9 hg4
     (refine z11 z5 ?_; repeat (with_reducible apply ai;exact z4));refine z7 ?_;refine z6 ?_;refine hk6 hi _ ?_;intro hb; simp at hb hg4 <;> omega
end Go.Proofs

set_option linter.unusedSimpArgs false
set_option linter.unusedVariables false
set_option maxRecDepth 4000
namespace Go.Proofs.YtdfdidinfaefmaaDoor
open Go.ChangeShapes Go.WideShapes Go.RowKit Go.Sk Go.Proofs
theorem own : ownKnob Tryd.prog.godebug = none := by kernel_rfl
theorem laid : laidOutB Tryd.prog = true := by kernel_rfl
theorem rowed : mapsRowed Tryd.prog = true := by kernel_rfl
theorem fullS : ∀ t e, t < Tryd.prog.types.size → Tryd.prog.underlying t = some (.slice e) → 0 < Tryd.prog.cellsOf e := slices_full_of _ (by kernel_rfl)
theorem uInts : Tryd.prog.underlying 22 = some (.slice 3) := by kernel_rfl
theorem uStr : Tryd.prog.underlying 9 = some .string := by kernel_rfl
theorem uBool : Tryd.prog.underlying 4 = some .bool := by kernel_rfl
theorem fInt : flatB Tryd.prog 3 [.i .i64] = true := by kernel_rfl
theorem gTab : Tryd.prog.globalNamed "skipgraph/skipgraphworld.letters" = some 0 := by kernel_rfl
theorem gTabType : (Tryd.prog.globals[0]?).map (·.type) = some 86 := by kernel_rfl
theorem uTab : Tryd.prog.underlying 86 = some (.array 6 9) := by kernel_rfl
theorem cTab : Tryd.prog.cellsOf 86 = 6 := by kernel_rfl
theorem cStr : Tryd.prog.cellsOf 9 = 1 := by kernel_rfl
theorem oneTab : (List.range Tryd.prog.globals.size).all (fun i => !tabG Tryd.prog i || i == 0) = true := by kernel_rfl
theorem tabs {W : World} (h : laidMetH Tryd.prog [("skipgraph/skipgraphworld.letters", Rows.laid_skipgraph_skipgraphworld_letters)] W) : ∀ i, tabG Tryd.prog i = true → i < W.heap.size ∧ TabAt W i :=
 tabs_of_laid gTab gTabType uTab uStr cStr cTab oneTab h
def toInt : List Value → Int
 |[.int _ z] => z
 |_ => 0
def toInts (rows : List (List Value)) : List Int := rows.map toInt
theorem ints_rows {w : World} {v : Value} {q : Option Sk.Loc} {rows : List (List Value)} (h : RwIn w v q [.i .i64] rows) (i : Nat) (r : List Value) (hr : rows[i]? = some r) : ints (toInts rows) i = r.map svOf := by
 have hok := h.ok r (List.mem_of_getElem? hr);rcases r with _ | ⟨v, _ | ⟨v', r⟩⟩
 ·exact hok.elim
 ·obtain ⟨⟨z, rfl, _⟩, _⟩ := hok;simp only [ints, nth, toInts, List.getD, List.getElem?_map, hr, Option.map_some, Option.getD_some, toInt, List.map_cons, List.map_nil, svOf]
 ·exact hok.2.elim
theorem ints_in {β : Env} {w : World} {v : Value} {q : Option Sk.Loc} {rows : List (List Value)} (h : RwIn w v q [.i .i64] rows) {id : Nat} (hq : β id 0 = q) :
  den β (.slc false id 0 0 (toInts rows).length) v ∧ (Sk.Obj.row ⟨false, false, 3, 1, (toInts rows).length, ints (toInts rows)⟩).holds β w q := by
 have := rows_in h hq 3 (ints (toInts rows)) (ints_rows h);simpa [toInts] using this
theorem ints_len {w : World} {v : Value} {q : Option Sk.Loc} {rows : List (List Value)} (h : RwIn w v q [.i .i64] rows) : (toInts rows).length ≤ 9223372036854775807 := by
 have := h.len;simpa [toInts, maxLen] using this
theorem ints_ltO (m : Nat) (xs : List Int) : (Sk.Obj.row ⟨false, false, 3, 1, xs.length, ints xs⟩).lt m := Sk.Obj.lt_row.2 fun i _ => by simp [ints, SV.ltL, SV.lt]
/-- A world for the witness: the table holds the six letters. -/
noncomputable def z5l (os : Os) : World :=
  { World.holding Tryd.prog os ⟨#[], #[], []⟩ with heap := (World.holding Tryd.prog os ⟨#[], #[], []⟩).heap.modify 0 fun
      | .cells _ t frozen => .cells (letters.map Value.string).toArray t frozen
      | o => o }
end Go.Proofs.YtdfdidinfaefmaaDoor

set_option linter.unusedSimpArgs false
set_option linter.unusedVariables false
set_option maxRecDepth 4000
namespace Go.Proofs.YtdfdidinfaefmaaDoor.lockedKeepsTop
open Go.ChangeShapes Go.WideShapes Go.RowKit Go.Sk Go.Proofs
theorem top (W : World) (v0 : Value) (q0 : Option Sk.Loc) (r0 : List (List Value)) (h0 : RwIn W v0 q0 [.i .i64] r0)
  (htab : ∀ i, tabG Tryd.prog i = true → i < W.heap.size ∧ TabAt W i) : Calls Tryd.prog 4 #[v0] W fun e w' => e = .returned (.bool true) ∧ Below W.heap.size W w' := by
 let β : Env := fun _ _ => q0
 obtain ⟨a0, b0⟩ := ints_in (β := β) (id := 0) h0 rfl;refine z19.top (Ent.of Tryd.func4 (by kernel_rfl) (by kernel_rfl)) (keeps_spec (toInts r0) (ints_len h0)) β W [v0] (fun id k o ho => ?_) ⟨v0, [], a0, rfl, rfl⟩ (by simp [SV.ltL, SV.lt]) htab;obtain ⟨c, F, hf, hk, rfl⟩ := z3s ho;simp only [Sk.find, zk, one] at hf
 split at hf
 ·rename_i e; subst e; cases hf
  exact ⟨rfl, by show (0 : Nat) < 1; omega, ints_ltO _ _, b0⟩
 ·cases hf
theorem contract (H : Type) (enc : TypeId × Value → H) (W : World) (base : Nat) (args : Array Value) (ds gs : List (DataW H)) (before : List MemPlace)
  (hval : ∀ (j : Nat) t v, Tryd.f4.params[j]? = some t → args[j]? = some v → Value.okWide Tryd.prog W .any base t v)
  (hW : DataW.Whole enc Tryd.prog Tryd.f4.params.toList Rows.lockedKeepsSpec.vars false W args.toList ds gs before) (hL : laidMetH Tryd.prog Rows.lockedKeepsRow.laid W) :
  Calls Tryd.prog 4 args W fun e W' => ∃ v, e = .returned v ∧ Rows.lockedKeepsSpec.post enc Tryd.prog Tryd.f4 false true false false W args v W' := by
 have hW1 := hW;obtain ⟨p, q, hA0, hV, rfl, _, _⟩ := hW;have hA : DataW.TrodAll enc Tryd.prog W 0 (fun _ => true) true Tryd.f4.params.toList args.toList ds p := hA0;have hval1 : ∀ (j : Nat) t v, Tryd.f4.params[j]? = some t → args[j]? = some v → Value.okWide Tryd.prog W .any base t v := hval;rw [Tryd.params4] at hA hval1;obtain ⟨v0, vs0, d0, ds0, p0, q0, ha0, rfl, rfl, h0, r0⟩ := trodAll_cons hA;obtain ⟨rfl, rfl, rfl⟩ := trodAll_nil r0;obtain rfl : args = #[v0] := by cases args; simp_all
 obtain ⟨_, _, x0⟩ := rows_open uInts fInt (by simp) (hval1 0 _ v0 rfl rfl) h0;refine (top W v0 _ _ x0 (tabs hL)).mono fun e W1 ⟨he, hb⟩ => ?_;subst he;refine ⟨_, rfl, law_post laid rowed fullS (by decide +kernel) rfl hW1 hb rfl uBool fun ds hd => ?_⟩;have hd1 : ds.length = 1 := hd
 match ds, hd1 with
 |[_], _ => rfl
theorem laid_met (os : Os) : laidMet Tryd.prog Rows.lockedKeepsRow.laid ((z5l os).forCall (fun _ _ => 0) ⟨#[], #[.slice none 0 0], []⟩).memory :=
 laidMet_of_run' 8 (by kernel_rfl) (by kernel_rfl)
theorem reads (os : Os) {H : Type} (enc : TypeId × Value → H) : ∃ places, DataW.whole enc Tryd.prog ((z5l os).forCall (fun _ _ => 0) ⟨#[], #[.slice none 0 0], []⟩).memory Tryd.f4.params.toList Rows.lockedKeepsSpec.vars false #[Value.slice none 0 0].toList 8 = some ([.nil], [], places) :=
 ⟨[], by kernel_rfl⟩
set_option maxRecDepth 100000 in
theorem lifted (os : Os) (started : os.Started) (H : Type) (enc : TypeId × Value → H) (F : Stop.Interp) :
  ReturnsInHanded {} Tryd.checked os 4 .any ((OpenSpec.ofChange Rows.lockedKeepsSpec).preRow enc Tryd.prog Tryd.f4 Rows.lockedKeepsRow.domain false Rows.lockedKeepsRow.laid) (((OpenSpec.ofChange Rows.lockedKeepsSpec).at F).post enc Tryd.prog Tryd.f4 false true false false) := by
 obtain ⟨places, hx⟩ := reads os enc
 refine returnsInHanded_of_row (C := Tryd.checked) (s := OpenSpec.ofChange Rows.lockedKeepsSpec) own started (by kernel_rfl) Tryd.func4
  (witness_row_at (enc := enc) (C := Tryd.checked) false (z5l os) #[.slice none 0 0] rfl (by kernel_rfl) (by kernel_rfl) (by kernel_rfl)
   (OpenSpec.preRow_of_cond 8 hx (by kernel_rfl) (fun k hk => by cases hk) (by kernel_rfl) (laid_met os))) ?_
 intro W base args ds gs before hval hW _ _ _ hL _ _;exact contract H enc W base args ds gs before hval hW hL
theorem said : Rows.LockedKeepsSaid :=
 OpenClaim.holds_of_cond 4 Tryd.f4 rfl rfl rfl rfl rfl rfl rfl ⟨rfl, rfl, rfl, rfl, rfl⟩ rfl rfl rfl rfl rfl (by kernel_rfl) Tryd.func4 (by kernel_rfl)
  (of_decide_eq_true (by kernel_rfl)) (by unfold Func.isWrapper; first | (rw [if_pos (by decide +kernel)]; kernel_rfl) | (rw [if_neg (by decide +kernel)]; exact ⟨rfl, rfl⟩))
  (fun os started H enc _ F => by rw [OpenClaim.pre_eq_preRow]; exact lifted os started H enc F)
theorem plain (f : FuncId) (fn : Func) (hf : Tryd.pinned.checked.prog.funcNamed "skipgraph/skipgraphlaw11.LockedKeeps" = some f) (hfn : Tryd.pinned.checked.prog.funcs[f]? = some fn) :
  false = Tryd.pinned.checked.prog.looks [] ∧ ∀ (j : Nat) t, fn.params[j]? = some t → Tryd.pinned.checked.prog.wantsStandIn t = false := by
 obtain rfl : f = 4 := Option.some.inj ((show Tryd.prog.funcNamed "skipgraph/skipgraphlaw11.LockedKeeps" = some 4 by kernel_rfl).symm.trans hf) |>.symm
 obtain rfl : fn = Tryd.f4 := (Option.some.inj (Tryd.func4.symm.trans hfn)).symm;refine ⟨by kernel_rfl, fun j t ht => ?_⟩;rw [Tryd.params4] at ht;have hm : t ∈ [22] := by simpa using Array.mem_of_getElem? ht
 have hall : ([22].all fun u => !Tryd.prog.wantsStandIn u) = true := by kernel_rfl
 exact (show Tryd.prog.wantsStandIn t = false by simpa using List.all_eq_true.1 hall t hm)
theorem proved : Rows.LockedKeepsCardSaid :=
 Claim7.holds_tied_plain_at .later [] _ _ _ _ said (fun _ h => by cases h) (by kernel_rfl) (fun _ h => by cases h) lockedKeeps_row_tie rfl ⟨rfl, rfl⟩ (by kernel_rfl) rfl plain (by kernel_rfl)
end Go.Proofs.YtdfdidinfaefmaaDoor.lockedKeepsTop
#print axioms Go.Proofs.YtdfdidinfaefmaaDoor.lockedKeepsTop.proved
