/-
  LockedMoments: for every input the law returns true, and the input reads as before.
  Conditions: those that each statement names.
-/
import Derived.Test.YtdfdidinfaefmaaDoorQlb
import Derived.Test.YtdfdidinfaefmaaDoorChecked
import Derived.Below
import Derived.ChangeSame
import Derived.ChangeSlices
import Derived.ReadAgain
import Derived.OpenShut
import Derived.JoinedOf
import Derived.Handed
import Derived.Deep.Slices
import Derived.Lib.LaidTab
import Derived.Test.YtdfdidinfaefmaaDoorQle
import Derived.Test.YtdfdidinfaefmaaDoorRows
import Derived.Test.YtdfdidinfaefmaaDoorCards
import Derived.Test.YtdfdidinfaefmaaDoorTie
import Derived.WalkKit
import Derived.ProofKit
import Derived.Deep.DeepHandedRow
set_option linter.unusedSimpArgs false
set_option linter.unusedVariables false
set_option maxRecDepth 4000
namespace Go.Sk
open Go.RowKit
section
variable {X : Cx} {ops : Array Oper} {K : Fr → AH → Prop} {Q : Exit → Act → World → Prop} {Wf Uq : List (List Nat)}
end
variable {X : Cx} {Q : Exit → Fr → AH → Prop} {fr : Fr} {H : AH} {l : List Code}
end Go.Sk

set_option linter.unusedSimpArgs false
set_option linter.unusedVariables false
set_option maxRecDepth 4000
namespace Go.Sk
open Go.RowKit Go.WideShapes Go.ChangeShapes
theorem below_sameAt {w w' : World} (h : Below w.heap.size w w') {p : MemPlace} (hp : p.block < w.heap.size) : w.sameAt w' p := by
 cases p with
 |cell b off => exact World.cell?_of_block (h.block b hp)
 |map b => exact h.block b hp
section
variable {H : Type} {enc : TypeId × Value → H} {P : Program}
theorem trodAll_carry {w w' : World} {base : Nat} {sp : Nat → Bool} {held : Bool} : ∀ {ts : List TypeId} {vs : List Value} {ds : List (DataW H)} {ps : List MemPlace}, DataW.TrodAll enc P w base sp held ts vs ds ps → (∀ p ∈ ps, w.sameAt w' p) →
  DataW.TrodAll enc P w' base sp held ts vs ds ps
 |[], [], [], _, h, _ => h
 |_ :: _, _ :: _, _ :: _, _, ⟨p, q, ⟨n, h1⟩, h2, e⟩, hs =>
  ⟨p, q, ⟨n, DataW.trod_carry n _ _ _ h1 fun x hx => hs x (by rw [e]; exact List.mem_append_left _ hx)⟩, trodAll_carry h2 (fun x hx => hs x (by rw [e]; exact List.mem_append_right _ hx)), e⟩
theorem trodAll_len {w : World} {base : Nat} {sp : Nat → Bool} {held : Bool} : ∀ {ts : List TypeId} {vs : List Value} {ds : List (DataW H)} {ps : List MemPlace}, DataW.TrodAll enc P w base sp held ts vs ds ps → ds.length = ts.length
 |[], [], [], _, _ => rfl
 |_ :: _, _ :: _, _ :: _, _, ⟨_, _, _, h2, _⟩ => by simp [trodAll_len h2]
theorem law_post {f : Func} {s : ChangeSpec} {apart fresh handsOn again : Bool} {W W' : World} {args : Array Value} {ds gs : List (DataW H)} {before : List MemPlace} (hl : laidOutB P = true) (hm : mapsRowed P = true)
  (hz : ∀ t e, t < P.types.size → P.underlying t = some (.slice e) → 0 < P.cellsOf e) (hts : ∀ t ∈ f.params.toList, t < P.types.size) (hv : s.vars = [])
  (hW : DataW.Whole enc P f.params.toList s.vars apart W args.toList ds gs before) (hb : Below W.heap.size W W') {tb : TypeId} (hres : f.resultTypes = #[tb]) (hbool : P.underlying tb = some .bool)
  (hfn : ∀ ds : List (DataW H), ds.length = f.params.toList.length → s.fn H ds = { results := [.lit (.bool true)], args := ds }) : s.post enc P f apart fresh handsOn again W args (.bool true) W' := by
 have hW' := hW;obtain ⟨p, q, hA, hV, rfl, hfz, hnd⟩ := hW;rw [hv] at hV
 have hq : gs = [] ∧ q = [] := by
  cases gs with
  |nil => exact ⟨rfl, hV⟩
  |cons _ _ => exact hV.elim
 obtain ⟨rfl, rfl⟩ := hq;have hfn' := hfn (ds ++ []) (by rw [List.append_nil]; exact trodAll_len hA);have hlt : ∀ x ∈ p, x.block < W.heap.size := DataW.TrodAll.lt hA
 have hargs : ∀ sp : Nat → Bool, (∀ x ∈ p ++ [], sp x.block = true) → DataW.TrodAll enc P W' 0 sp true f.params.toList args.toList ds p := fun sp hsp =>
  trodAll_carry (DataW.TrodAll.respare (kids_rows hl hm) hz hts hA fun x hx => hsp x (List.mem_append_left _ hx)) fun x hx => below_sameAt hb (hlt x hx)
 have hrl : ((Value.bool true).resultList f.resultTypes.size) = [.bool true] := by rw [hres]; rfl
 have hres' : ∀ (b : Nat) (sp : Nat → Bool) (hd : Bool), DataW.TrodAll enc P W' b sp hd f.resultTypes.toList ((Value.bool true).resultList f.resultTypes.size) (s.fn H (ds ++ [])).results [] := fun b sp hd => by
  rw [hrl, hfn', hres];exact trodAll_mk1 (shut_bool hbool true)
 have hvars : ∀ sp : Nat → Bool, DataW.TrodVars enc P W' sp s.vars (s.fn H (ds ++ [])).vars [] := fun sp => by rw [hfn', hv]; rfl
 have hargs' : ∀ sp : Nat → Bool, (∀ x ∈ p ++ [], sp x.block = true) → DataW.TrodAll enc P W' 0 sp true f.params.toList args.toList (s.fn H (ds ++ [])).args p := fun sp hsp => by
  rw [hfn']; simpa using hargs sp hsp
 have hold : ∀ x ∈ p ++ [], (fun b => decide (b < W.heap.size)) x.block = true := fun x hx => by simpa using hlt x (by simpa using hx)
 refine ⟨ds, [], p ++ [], [], p, [], hW', hres' _ _ _, hargs' _ hold, hvars _, World.keptBut_mono (fun x hx => ⟨hx, ?_⟩) (hb.frame (· ∈ p ++ [])), fun _ => ⟨?_, _, _, ([] ++ p) ++ [], ⟨[] ++ p, [], trodAll_append (hargs' _ (fun _ _ => rfl)) (hres' _ _ _), hvars _, rfl, ?_, ?_⟩, ?_⟩⟩
 ·exact .inr (.inl (by simpa using hx))
 ·intro j t r ht hr;rw [hrl] at hr;rw [hres] at ht
  cases j with
  |zero => simp at ht hr; subst ht hr; exact okWide_bool_mk hbool _
  |succ j => simp at hr
 ·intro b off hp;have hin : MemPlace.cell b off ∈ p ++ [] := by simpa using hp
  rw [hb.frozen (hlt _ (by simpa using hin))];exact hfz b off hin
 ·intro ha;simpa using hnd ha
 ·intro x hx _;simpa using hx
end
theorem z19.top {P : Program} {f : FuncId} {args : List SV} {H0 : AH} (hent : Ent P f) (hF : z19 P f args H0 (fun s _ => s = .bool true)) (β : Env) (w : World) (vs : List Value)
  (hh : ∀ id k o, look H0.os id k = some o → o.own = false ∧ id < H0.nxt ∧ o.lt H0.nxt ∧ o.holds β w (β id k)) (hd : z4b β args vs) (hl : SV.ltL H0.nxt args) (htab : ∀ g, tabG P g = true → g < w.heap.size ∧ TabAt w g) :
  Calls P f vs.toArray w fun e w' => e = .returned (.bool true) ∧ Below w.heap.size w w' := by
 let own0 : Nat → Nat → Prop := fun id k => ∃ o, look H0.os id k = some o ∧ o.own = true
 let X : Cx := { P := P, n := 0, w0 := w, own0 := own0, m0 := H0.nxt, β0 := β }
 have no : ∀ id k o, look H0.os id k = some o → ¬ o.own = true := fun id k o h => by rw [(hh id k o h).1]; simp
 have no0 : ∀ id k, ¬ own0 id k := fun id k ⟨o, h1, h2⟩ => no id k o h1 h2
 have hS : St X β H0 w := {
  os := rfl, tape := rfl, output := rfl, size := Nat.le_refl _, fix := fun _ _ _ => rfl
  holds := fun id k o h => (hh id k o h).2.2.2
  sep := fun id k id' k' o o' L L' h _ ho => absurd ho (no id k o h)
  old := fun _ _ _ => rfl
  mine := fun id k o L h ho => absurd ho (no id k o h)
  keep := fun id k h => absurd h (no0 id k)
  m0 := Nat.le_refl _
  lt := fun id k o h => ⟨(hh id k o h).2.1, (hh id k o h).2.2.1⟩
  tabs := fun g hg => ⟨(htab g hg).1, (htab g hg).2, fun id k _ h _ => absurd h (no0 id k)⟩ }
 refine ((hF X β w vs rfl rfl rfl rfl rfl hS hd hl).calls hent).mono fun e w' ⟨v, he, β', s, H', hs, _, hdv, _, hS'⟩ => ?_;subst hs;simp only [den] at hdv;subst hdv
 exact ⟨he, hS'.os, hS'.tape, hS'.output, hS'.size, fun b hb => hS'.old b hb fun id k o L h ho hβ => by
  rcases hS'.mine id k o L h ho hβ with ⟨_, h1⟩ | ⟨_, h2⟩
  ·exact absurd h1 (no0 id k)
  ·have : w.heap.size ≤ L.blk := h2
   omega⟩
end Go.Sk

set_option linter.unusedSimpArgs false
set_option linter.unusedVariables false
set_option maxRecDepth 4000
namespace Go.Sk
open Go.RowKit Go.WideShapes Go.ChangeShapes
/-- The kinds of one-cell fields. -/
inductive FK where
 |i (k : IntKind) | s | b
def FK.is (P : Program) (t : TypeId) : FK → Bool
 |.i k => match P.underlying t with | some (.int k') => k' == k | _ => false
 |.s => match P.underlying t with | some .string => true | _ => false
 |.b => match P.underlying t with | some .bool => true | _ => false
/-- A value of the kind. -/
def FK.ok : FK → Value → Prop
 |.i k, v => ∃ z, v = .int k z ∧ (Lit.int k z).wf = true
 |.s, v => ∃ x : ByteArray, v = .string x ∧ x.size ≤ maxLen
 |.b, v => ∃ x, v = .bool x
def svOf : Value → SV
 |.int k z => .int k z
 |.string x => .str x
 |.bool x => .bool x
 |v => .raw v
theorem FK.den {β : Env} {k : FK} {v : Value} (h : k.ok v) : den β (svOf v) v ∧ (svOf v).scalar = true ∧ ∀ m, (svOf v).lt m := by
 cases k <;> simp only [FK.ok] at h
 ·obtain ⟨z, rfl, _⟩ := h; exact ⟨rfl, rfl, fun _ => trivial⟩
 ·obtain ⟨z, rfl, _⟩ := h; exact ⟨rfl, rfl, fun _ => trivial⟩
 ·obtain ⟨z, rfl⟩ := h; exact ⟨rfl, rfl, fun _ => trivial⟩
/-- Cells of the kinds. -/
def okRow : List FK → List Value → Prop
 |[], [] => True
 |k :: ks, v :: vs => k.ok v ∧ okRow ks vs
 |_, _ => False
theorem okRow_len : ∀ {ks : List FK} {vs : List Value}, okRow ks vs → vs.length = ks.length
 |[], [], _ => rfl
 |_ :: _, _ :: _, h => by simp [okRow_len h.2]
 |[], _ :: _, h => h.elim
 |_ :: _, [], h => h.elim
theorem okRow_get : ∀ {ks : List FK} {vs : List Value}, okRow ks vs → ∀ (j : Nat) (v : Value), vs[j]? = some v → ∃ k : FK, k.ok v
 |[], [], _, j, v, h => by simp at h
 |k :: _, _ :: _, h, j, v, hj => by
  cases j with
  |zero => simp at hj; subst hj; exact ⟨k, h.1⟩
  |succ j => simp at hj; exact okRow_get h.2 j v hj
 |[], _ :: _, h, _, _, _ => h.elim
 |_ :: _, [], h, _, _, _ => h.elim
def fldsB (P : Program) (fs : Array Field) : Nat → List FK → Bool
 |i, [] => i == fs.size
 |i, k :: ks => (match fs[i]? with | some f => f.offset == i && P.cellsOf f.type == 1 && k.is P f.type | none => false) && fldsB P fs (i + 1) ks
/-- A type of one cell, or a struct of such fields. -/
def flatB (P : Program) (t : TypeId) (ks : List FK) : Bool :=
 P.cellsOf t == ks.length && (match P.underlying t with
  |some (.struct fs) => fldsB P fs 0 ks
  |_ => match ks with | [k] => k.is P t | _ => false)
section
variable {H : Type} {enc : TypeId × Value → H} {P : Program} {w : World} {base : Nat} {sp : Nat → Bool} {held : Bool}
theorem one_open {k : FK} {t : TypeId} {fuel : Nat} {cs : List Value} {x : DataW H × List MemPlace} (hk : k.is P t = true) (h : DataW.trod enc P w base sp held fuel t cs = some x) : ∃ v, cs = [v] ∧ k.ok v := by
 cases k <;> simp only [FK.is] at hk
 ·split at hk
  ·rename_i k' hu;obtain rfl := eq_of_beq hk;obtain ⟨n, rfl, _, hw⟩ := DataW.trod_int hu h;exact ⟨_, rfl, n, rfl, hw⟩
  ·cases hk
 ·split at hk
  ·rename_i hu;obtain ⟨s, rfl, _, hs⟩ := DataW.trod_string hu h;exact ⟨_, rfl, s, rfl, hs⟩
  ·cases hk
 ·split at hk
  ·rename_i hu;obtain ⟨b, rfl, _⟩ := DataW.trod_bool hu h;exact ⟨_, rfl, b, rfl⟩
  ·cases hk
theorem flds_open {fs : Array Field} {n : Nat} {cs : List Value} {xs : List (DataW H × List MemPlace)} (hx : xs.length = fs.size) (hf : ∀ (i : Nat) (f : Field), fs[i]? = some f → DataW.trod enc P w base sp held n f.type ((cs.drop f.offset).take (P.cellsOf f.type)) = xs[i]?) :
  ∀ (ks : List FK) (i : Nat), fldsB P fs i ks = true → i + ks.length = cs.length → okRow ks (cs.drop i)
 |[], i, _, hl => by rw [List.drop_eq_nil_of_le (by simp at hl; omega)]; trivial
 |k :: ks, i, h, hl => by
  simp only [fldsB, Bool.and_eq_true] at h;obtain ⟨h1, h2⟩ := h;simp only [List.length_cons] at hl
  split at h1
  ·rename_i f hfi;simp only [Bool.and_eq_true, beq_iff_eq] at h1;obtain ⟨⟨h3, h4⟩, h5⟩ := h1;have h6 := hf i f hfi;have hi : i < xs.length := by rw [hx]; exact (Array.getElem?_eq_some_iff.1 hfi).1
   rw [h3, h4, List.getElem?_eq_getElem hi] at h6;obtain ⟨v, hv, hok⟩ := one_open h5 h6;rw [List.drop_eq_getElem_cons (by omega), List.take_succ_cons, List.take_zero] at hv;rw [List.drop_eq_getElem_cons (by omega)];have : cs[i] = v := by simpa using hv
   rw [this];exact ⟨hok, flds_open hx hf ks (i + 1) h2 (by omega)⟩
  ·cases h1
theorem flat_open {t : TypeId} {ks : List FK} {fuel : Nat} {cs : List Value} {x : DataW H × List MemPlace} (hb : flatB P t ks = true) (h : DataW.trod enc P w base sp held fuel t cs = some x) : okRow ks cs := by
 simp only [flatB, Bool.and_eq_true, beq_iff_eq] at hb;obtain ⟨hc, hb⟩ := hb
 split at hb
 ·rename_i fs hu;obtain ⟨xs, m, _, _, hl, hxl, hf⟩ := DataW.trod_struct hu h;have := flds_open hxl hf ks 0 hb (by omega);rwa [List.drop_zero] at this
 ·split at hb
  ·rename_i k;obtain ⟨v, rfl, hok⟩ := one_open hb h;exact ⟨hok, trivial⟩
  ·cases hb
/-- A slice of rows that came in. -/
structure RwIn (w : World) (v : Value) (q : Option Loc) (ks : List FK) (rows : List (List Value)) : Prop where
 len : rows.length ≤ maxLen
 ok : ∀ r ∈ rows, okRow ks r
 val : ∃ a c, v = .slice a rows.length c ∧ rows.length ≤ c ∧ (0 < rows.length → ∃ L, q = some L ∧ a = some ⟨L.blk, L.off, none⟩)
 mem : (rows.length = 0 ∧ q = none) ∨ ∃ L, q = some L ∧ L.sz = ks.length ∧ L.blk < w.heap.size ∧ ∀ (i : Nat) (r : List Value), rows[i]? = some r → ∀ (j : Nat) (u : Value), r[j]? = some u → w.cell? ⟨L.blk, L.off + i * ks.length + j, none⟩ = some u
theorem rows_open {t e : TypeId} {ks : List FK} {v : Value} {d : DataW H} {p : List MemPlace} (ht : P.underlying t = some (.slice e)) (hb : flatB P e ks = true) (hk0 : 0 < ks.length) {b0 : Nat}
  (hval : Value.okWide P w .any b0 t v) (h : DataW.Trod enc P w base sp held t v d p) : ∃ q rows, RwIn w v q ks rows := by
 obtain ⟨n, hn⟩ := h;obtain ⟨a0, l0, c0, rfl⟩ := okWide_slice ht hval;have hce : P.cellsOf e = ks.length := by simp only [flatB, Bool.and_eq_true, beq_iff_eq] at hb; exact hb.1
 have hcs : (Value.slice a0 l0 c0).cells.toList = [Value.slice a0 l0 c0] := rfl;rw [hcs] at hn;rcases Deep.open_slice ht hn with ⟨hv, _⟩ | ⟨a, len, cap, m, n', D, Pl, hv, hbb, hlc, hcm, hmm, _, hel⟩
 ·cases hv
  exact ⟨none, [], ⟨by simp, by simp, ⟨none, 0, rfl, by simp, by simp⟩, .inl ⟨rfl, rfl⟩⟩⟩
 ·cases hv
  have hml : l0 ≤ m := by rw [hmm]; split <;> omega
  obtain ⟨R, hR⟩ := Deep.choose_lt (α := List Value) (p := fun i cs => w.cells? base (a.add (i * P.cellsOf e)) (P.cellsOf e) = some cs ∧ DataW.trod enc P w base sp held n' e cs = some (D i, Pl i)) hel;have hrl : ((List.range l0).map R).length = l0 := by simp
  have hget : ∀ i r, ((List.range l0).map R)[i]? = some r → i < l0 ∧ r = R i := fun i r h => by
   simp only [List.getElem?_map, Option.map_eq_some_iff] at h;obtain ⟨k, h1, h2⟩ := h
   have hi : i < l0 := by
    rcases Nat.lt_or_ge i l0 with h | h
    ·exact h
    ·rw [List.getElem?_eq_none (by simpa using h)] at h1; cases h1
   rw [List.getElem?_range hi] at h1
   cases h1
   exact ⟨hi, h2.symm⟩
  have hok : ∀ i, i < m → okRow ks (R i) := fun i hi => flat_open hb (hR i hi).2
  have hrow : ∀ r ∈ (List.range l0).map R, okRow ks r := fun r hr => by
   obtain ⟨i, hi, rfl⟩ := List.mem_map.1 hr;exact hok i (by have := List.mem_range.1 hi; omega)
  by_cases h0 : l0 = 0
  ·subst h0;exact ⟨none, [], ⟨by simp, by simp, ⟨some a, c0, rfl, by simp, by simp⟩, .inl ⟨rfl, rfl⟩⟩⟩
  ·have hcell : ∀ i, i < l0 → ∀ (j : Nat) (u : Value), (R i)[j]? = some u → w.cell? ((a.add (i * ks.length)).add j) = some u := fun i hi j u hj => by
    obtain ⟨h1, h2⟩ := hR i (by omega);obtain ⟨_, hlen, hc⟩ := World.cells?_some h1;have hjl : j < P.cellsOf e := by rw [← hlen]; exact (List.getElem?_eq_some_iff.1 hj).1
    rw [← hce, hc j hjl];exact hj
   have hr0 : ∃ u, (R 0)[0]? = some u := by
    have := okRow_len (hok 0 (by omega));exact ⟨_, List.getElem?_eq_getElem (by omega)⟩
   obtain ⟨u0, hu0⟩ := hr0;have hc0 := hcell 0 (by omega) 0 u0 hu0;have hsp : a.spot = none := World.cell?_spot (by unfold Addr.add at hc0; simpa using hc0);obtain ⟨b, o, s0⟩ := a;simp only at hsp;subst hsp
   have hblk : b < w.heap.size := by
    rw [z6x, z6x] at hc0;unfold World.cell? at hc0;rcases Nat.lt_or_ge b w.heap.size with h | h
    ·exact h
    ·simp [Array.getElem?_eq_none h] at hc0
   refine ⟨some ⟨b, o, ks.length, 0⟩, (List.range l0).map R, ⟨by omega, hrow, ⟨some ⟨b, o, none⟩, c0, by rw [hrl], by omega, fun _ => ⟨_, rfl, rfl⟩⟩, .inr ⟨_, rfl, rfl, hblk, fun i r hr j u hj => ?_⟩⟩⟩;obtain ⟨hi, rfl⟩ := hget i r hr;have := hcell i hi j u hj;rw [z6x, z6x] at this;exact this
end
/-- The rows as the walk's names have them. -/
theorem rows_in {β : Env} {w : World} {v : Value} {q : Option Loc} {ks : List FK} {rows : List (List Value)} (h : RwIn w v q ks rows) {id : Nat} (hq : β id 0 = q) (e : TypeId) (f : Nat → List SV) (hf : ∀ (i : Nat) (r : List Value), rows[i]? = some r → f i = r.map svOf) :
  den β (.slc false id 0 0 rows.length) v ∧ (Obj.row ⟨false, false, e, ks.length, rows.length, f⟩).holds β w q := by
 obtain ⟨_, hok, ⟨a, c, rfl, hc, hp⟩, hm⟩ := h;refine ⟨?_, ?_⟩
 ·simp only [den, slcDen, Bool.false_eq_true, if_false];refine ⟨a, c, rfl, hc, fun h => ?_⟩;obtain ⟨L, h1, h2⟩ := hp h;exact ⟨L, hq.trans h1, by rw [h2]; simp⟩
 ·rcases hm with hm | ⟨L, h1, h2, h3, h4⟩
  ·exact .inl hm
  ·refine .inr ⟨L, h1, h2, h3, fun i hi => ?_, fun h => by cases h⟩;have hi' : i < rows.length := hi;have hr := List.getElem?_eq_getElem hi';have hfi := hf i _ hr;have hoki := hok _ (List.getElem_mem hi')
   show (f i).length = ks.length ∧ ∀ (j : Nat) (s : SV), (f i)[j]? = some s → _
   rw [hfi];refine ⟨by rw [List.length_map]; exact okRow_len hoki, fun j s hs => ?_⟩;rw [List.getElem?_map, Option.map_eq_some_iff] at hs;obtain ⟨u, hu, rfl⟩ := hs;obtain ⟨k, hk⟩ := okRow_get hoki j u hu;obtain ⟨g1, g2, _⟩ := FK.den (β := β) hk;refine ⟨g2, u, ?_, g1⟩;rw [h2];exact h4 i _ hr j u hu
def strData {H : Type} (ss : List ByteArray) : DataW H := .agg (ss.map fun s => .lit (.string s.data.toList))
theorem cells_of_strs {H : Type} {enc : TypeId × Value → H} {P : Program} {w : World} {base : Nat} {sp : Nat → Bool} {held : Bool} {fuel : Nat} {t e : TypeId} {n : Nat} {cs : List Value} {ss : List ByteArray} {p : List MemPlace}
  (ht : P.underlying t = some (.array n e)) (he : P.underlying e = some .string) (hce : P.cellsOf e = 1) (hct : P.cellsOf t = n)
  (h : DataW.trod enc P w base sp held fuel t cs = some (strData ss, p)) : cs = ss.map Value.string := by
 cases fuel with
 |zero => simp [DataW.trod] at h
 |succ fuel =>
  simp only [DataW.trod, ht, hce, hct, Nat.mul_one] at h
  split at h
  ·rename_i hl;obtain ⟨xs, hm, hx⟩ := Option.map_eq_some_iff.1 h
   have hxs : xs.map (·.1) = ss.map fun s => (DataW.lit (.string s.data.toList) : DataW H) := by
    have := congrArg Prod.fst hx;simpa [strData] using this
   have hxl : xs.length = n := by simpa using Lib.mapM_length hm
   have hzl : ss.length = n := by
    have := congrArg List.length hxs;simp at this;omega
   apply List.ext_getElem?;intro i
   by_cases hi : i < n
   ·obtain ⟨b, hb, hf⟩ := Lib.mapM_at hm i i (by simp [hi]);obtain ⟨z, hc, rfl, _⟩ := DataW.trod_string he hf
    have h1 : cs[i]? = some (.string z) := by
     have := congrArg (·[0]?) hc;simpa [List.getElem?_take, List.getElem?_drop] using this
    have h2 : (xs.map (·.1))[i]? = some (DataW.lit (.string z.data.toList) : DataW H) := by simp [hb]
    rw [hxs] at h2;simp only [List.getElem?_map, Option.map_eq_some_iff, DataW.lit.injEq, Lit.string.injEq] at h2;obtain ⟨z', hz', he'⟩ := h2
    have : z' = z := by
     cases z' with
     |mk a => cases z with
      |mk b => congr 1; exact Array.toList_inj.1 he'
    subst this;simp [h1, hz']
   ·rw [List.getElem?_eq_none (by omega), List.getElem?_eq_none (by simp; omega)]
  ·cases h
/-- The one table is the one that the row lists. -/
theorem tabs_of_laid {P : Program} {W : World} {name : String} {g : Nat} {t e : TypeId} (hg : P.globalNamed name = some g) (hty : (P.globals[g]?).map (·.type) = some t) (ht : P.underlying t = some (.array 6 e)) (he : P.underlying e = some .string) (hce : P.cellsOf e = 1) (hct : P.cellsOf t = 6)
  (hone : (List.range P.globals.size).all (fun i => !tabG P i || i == g) = true) (h : laidMet P [(name, strData letters)] W) : ∀ i, tabG P i = true → i < W.heap.size ∧ TabAt W i := by
 obtain ⟨ps, ⟨g', t', cs, fuel, p, q, hg', ht', hvar, hd, _, _⟩, _⟩ := h;obtain rfl := Option.some.inj (hg.symm.trans hg');obtain rfl := Option.some.inj (hty.symm.trans ht');have hcs := cells_of_strs ht he hce hct hd;intro i hi
 have hlt : i < P.globals.size := by
  rcases Nat.lt_or_ge i P.globals.size with h | h
  ·exact h
  ·unfold tabG at hi; rw [Array.getElem?_eq_none h] at hi; cases hi
 have h1 := List.all_eq_true.1 hone i (List.mem_range.2 hlt);rw [hi] at h1;have : i = g := by simpa using h1
 subst this
 have hat : TabAt W i := fun j s hj => by
  have := World.var?_cell hg hvar j;rw [this, ← Array.getElem?_toList, hcs, List.getElem?_map, hj]
  rfl
 refine ⟨?_, hat⟩;have h0 := hat 0 _ (show letters[0]? = some _ from rfl);unfold World.cell? at h0;rcases Nat.lt_or_ge i W.heap.size with h | h
 ·exact h
 ·simp [Array.getElem?_eq_none h] at h0
end Go.Sk

set_option linter.unusedSimpArgs false
set_option linter.unusedVariables false
set_option maxRecDepth 4000
namespace Go.Sk
open Go.RowKit Go.WideShapes Go.ChangeShapes
section
variable {H : Type} {enc : TypeId × Value → H} {P : Program} {w : World} {base : Nat} {sp : Nat → Bool} {held : Bool}
end
end Go.Sk

set_option linter.unusedSimpArgs false
set_option linter.unusedVariables false
set_option maxRecDepth 4000
namespace Go.Sk
open Go.RowKit
variable {X : Cx} {Q : Exit → Fr → AH → Prop} {fr : Fr} {H : AH} {l : List Code}
theorem Cs.regG {c : Code} {id : Nat} {ops : List Oper} (keep : List Nat) (hd : dstOk X.n ops = true)
  (h : ∀ K : Fr → AH → Prop, (∀ fr H, Cs X (c :: l) Q fr H → K fr H) → (∀ fr H F G ρ, z24 X ρ fr H F G → K F G → K fr H) → runL X.P X.wrap X.m0 ops.toArray ops fr H (fun fr H => K (prune keep fr) H)) : Cs X (.region id ops.toArray false :: c :: l) Q fr H :=
 Cw.reg keep hd (h (fun fr H => Cs X (c :: l) Q fr H) (fun _ _ h => h) (fun _ _ _ _ _ hg hk => Cs.give _ hg hk))
/-- A guarded test gets a name. -/
theorem absG {P : Program} {wr : Bool} {m0 : Nat} {ops : Array Oper} {l : List Oper} {t : Nat} {g z : Bool} {fr : Fr} {H : AH} {K : Fr → AH → Prop} (h : ∀ b, z = b → runL P wr m0 ops l ((t, .gd g (.bool b)) :: fr) H K) : runL P wr m0 ops l ((t, .gd g (.bool z)) :: fr) H K := h z rfl
end Go.Sk

set_option linter.unusedSimpArgs false
set_option linter.unusedVariables false
set_option maxRecDepth 4000
namespace Go.Proofs
open Go.Sk
theorem hasB_false {xs : List Int} {v : Int} : hasB xs v = false ↔ v ∉ xs := by
 rw [← hasB_iff]; cases hasB xs v <;> simp
/-- From a cell over Rights to a cell. -/
inductive Rea (cs : List Cl) : Int → Int → Prop
 |refl (c : Int) : Rea cs c c
 |step (a c : Int) (h0 : 0 ≤ a) (h1 : a ≠ 1) (h2 : z1n cs a (rt cs a) = true) (h : Rea cs (rt cs a) c) : Rea cs a c
theorem Rea.le {cs : List Cl} {a c : Int} (h : Rea cs a c) : a = c ∨ z1n cs a c = true := by
 induction h with
 |refl => exact .inl rfl
 |step a c h0 h1 h2 _ ih =>
  rcases ih with e | e
  ·exact .inr (e ▸ h2)
  ·exact .inr (z3a h2 e)
theorem Rea.next {cs : List Cl} {a c : Int} (h : Rea cs a c) (hne : a ≠ c) : 0 ≤ a ∧ a ≠ 1 ∧ z1n cs a (rt cs a) = true ∧ Rea cs (rt cs a) c := by
 cases h with
 |refl => exact absurd rfl hne
 |step _ _ h0 h1 h2 h => exact ⟨h0, h1, h2, h⟩
/-- A change of Rights: if from each cell on the way one still comes to the end. -/
theorem Rea.chg {cs ds : List Cl} {a c : Int} (h : Rea cs a c) (H : ∀ i, i ≠ c → Rea cs i c → Rea ds (rt cs i) c → Rea ds i c) : Rea ds a c := by
 induction h with
 |refl => exact .refl _
 |step a c h0 h1 h2 h3 ih =>
  by_cases e : a = c
  ·subst e; exact .refl _
  ·exact H a e (.step a c h0 h1 h2 h3) (ih H)
theorem Core.reach {cs : List Cl} {l : List Int} (h : Core cs l) {c : Int} (hc : c ∈ 0 :: l) : ∀ (k : Nat) {a : Int}, a ∈ 0 :: l → (a = c ∨ z1n cs a c = true) → meas cs a < k → Rea cs a c
 |k + 1, a, ha, hac, hk => by
  rcases hac with e | e
  ·subst e; exact .refl _
  ·have h1 : a ≠ 1 := (z2l.1 e).2.1;obtain ⟨g1, g2⟩ := h.next_mem ha h1;refine .step a c (h.rng0 ha).1 h1 g2 (h.reach hc k (List.mem_cons_of_mem _ g1) ?_ (by have := meas_lt (h.rng _ g1) g2; omega));rcases h.above ha h1 hc with f | f | f | f
   ·exact absurd f.symm (z5b e)
   ·have := less_asym e; rw [f] at this; cases this
   ·exact .inl f.symm
   ·exact .inr f
/-- From the head's neighbour one comes to each member. -/
theorem Core.fromHead {cs : List Cl} {l : List Int} (h : Core cs l) {c : Int} (h2 : 2 ≤ c) (hn : c < cs.length) (hg : gn cs c = false) : Rea cs (rt cs 0) c := by
 have hc := h.inl c h2 hn hg;have h0 : (0 : Int) ∈ 0 :: l := List.mem_cons_self ..;have hl : z1n cs 0 c = true := z2l.2 ⟨by omega, by omega, by omega, .inl rfl⟩;exact ((h.reach (List.mem_cons_of_mem _ hc) _ h0 (.inr hl) (Nat.lt_succ_self _)).next (by omega)).2.2.2
/-- A step, and the way to a cell that is a member behind it. -/
theorem Inv.rea {cs ds : List Cl} {ps : List Pr} {l l' : List Int} {y : Pr} (h : Inv cs ps l) {p : Nat} (hp : p < ps.length) (ha : actP (pr ps p) = true) (t : Tr cs p (pr ps p) ds y) (h' : Core ds l') {a c : Int} (h2 : 2 ≤ c) (hn : c < cs.length) (hg : gn ds c = false) (hr : Rea cs a c) : Rea ds a c := by
 have hv := z5d h.vb;have hx := h.prc p hp ha;have ok := hv.proc p hp;have hB := h.beside p hp ha;have hk := (h.marks hp ha t).1;have hcl : c ∈ 0 :: l' := h'.live (by omega) (by rw [hk.len]; exact hn) hg
 have same : ∀ i, i ≠ c → Rea cs i c → rt ds i = rt cs i → Rea ds (rt cs i) c → Rea ds i c := fun i hne g e ih => by
  obtain ⟨f0, f1, f2, f3⟩ := g.next hne;exact .step _ _ f0 f1 (by rw [hk.less, e]; exact f2) (by rw [e]; exact ih)
 have all : (∀ i : Int, 0 ≤ i → rt ds i = rt cs i) → Rea ds a c := fun e => hr.chg fun i hne g ih => same i hne g (e i (g.next hne).1) ih
 cases t with
 |adv e hl => exact all fun _ _ => rfl
 |seek e hl hk => exact all fun _ _ => rfl
 |aim e hl hk => exact all fun _ _ => rfl
 |lockP e hf => exact all fun i hi => rt_setK ok.pred hi
 |lockS e hf => exact all fun i hi => rt_setK ok.succ hi
 |found e hk => exact all fun _ _ => rfl
 |again e hk hb => exact all fun _ _ => rfl
 |ins e hk hb hs => exact all fun _ _ => rfl
 |rem e hk hb hs => exact all fun _ _ => rfl
 |no e hk hb c1 c2 => exact all fun _ _ => rfl
 |retry e => exact all fun i _ => rt_unlk ..
 |rel e => exact all fun i _ => rt_unlk ..
 |lockN e hf => exact all fun i hi => rt_setK (rt_in hv ok.cell.1 ok.cell.2) hi
 |link2 e => exact all fun i hi => z4x ok.succ hi
 |un2 e => exact all fun i hi => z4x ok.next hi
 |un0 e => exact all fun i hi => rt_setG ok.cell hi
 |link0 e =>
  obtain ⟨k1, hcs, hgs, hrp⟩ := hx.i67 (.inl e);have hkF := key_setF cs (pr ps p).cell (pr ps p).pred;have hrF : 0 ≤ (pr ps p).cell ∧ (pr ps p).cell < (z5e cs (pr ps p).cell (pr ps p).pred).length := by rw [hkF.len]; exact ok.cell
  have hrt : ∀ i : Int, 0 ≤ i → rt (z28 (z5e cs (pr ps p).cell (pr ps p).pred) (pr ps p).cell (pr ps p).succ) i = if i = (pr ps p).cell then (pr ps p).succ else rt cs i := fun i hi => by rw [rt_setR hrF hi, z4x ok.cell hi]
  have hgn : ∀ i : Int, 0 ≤ i → gn (z28 (z5e cs (pr ps p).cell (pr ps p).pred) (pr ps p).cell (pr ps p).succ) i = gn cs i := fun i hi => by rw [gn_setR hrF hi, z5r ok.cell hi]
  refine hr.chg fun i hne g ih => ?_
  by_cases ei : i = (pr ps p).cell
  ·subst ei
   have hlc : z1n cs (pr ps p).cell c = true := by
    rcases g.le with f | f
    ·exact absurd f hne
    ·exact f
   have hsm : (pr ps p).succ ∈ 0 :: l' := h'.live ok.succ.1 (by rw [hk.len]; exact ok.succ.2) (by rw [hgn _ ok.succ.1]; exact hgs);have hc0 : c ∈ 0 :: l := h.core.live (by omega) hn (by rw [← hgn c (by omega)]; exact hg);have hpm := hB.pm (by omega) (by omega)
   have hsc : (pr ps p).succ = c ∨ z1n cs (pr ps p).succ c = true := by
    rcases h.core.above hpm (z2l.1 hx.pl).2.1 hc0 with f | f | f | f
    ·have := z3a hx.pl hlc; rw [f, lessC_irr] at this; cases this
    ·have := less_asym f; rw [z3a hx.pl hlc] at this; cases this
    ·exact .inl (hrp.symm.trans f.symm)
    ·exact .inr (hrp ▸ f)
   have e1 := hrt _ ok.cell.1;rw [if_pos rfl] at e1;refine .step _ _ ok.cell.1 (by have := hx.c2; omega) (by rw [hk.less, e1]; exact hcs) ?_;rw [e1];exact h'.reach hcl _ hsm (hsc.imp id fun f => by rw [hk.less]; exact f) (Nat.lt_succ_self _)
  ·exact same i hne g (by rw [hrt i (g.next hne).1, if_neg ei]) ih
 |link1 e =>
  obtain ⟨k1, hcs, hgs, hrp⟩ := hx.i67 (.inr e);obtain ⟨hrc, hlc⟩ := hx.i7 e;have hkR := z6f cs (pr ps p).pred (pr ps p).cell;have hcR : 0 ≤ (pr ps p).cell ∧ (pr ps p).cell < (z28 cs (pr ps p).pred (pr ps p).cell).length := by rw [hkR.len]; exact ok.cell
  have hrt : ∀ i : Int, 0 ≤ i → rt (setU (z28 cs (pr ps p).pred (pr ps p).cell) (pr ps p).cell) i = if i = (pr ps p).pred then (pr ps p).cell else rt cs i := fun i hi => by rw [rt_setU hcR hi, rt_setR ok.pred hi]
  refine hr.chg fun i hne g ih => ?_
  by_cases ei : i = (pr ps p).pred
  ·subst ei;have e1 := hrt _ ok.pred.1;rw [if_pos rfl] at e1;have e2 := hrt _ ok.cell.1;rw [if_neg (z5b hx.pl).symm, hrc] at e2;rw [hrp] at ih;refine .step _ _ ok.pred.1 (z2l.1 hx.pl).2.1 (by rw [hk.less, e1]; exact hx.pl) ?_;rw [e1];refine .step _ _ ok.cell.1 (by have := hx.c2; omega) (by rw [hk.less, e2]; exact hcs) ?_;rw [e2]; exact ih
  ·exact same i hne g (by rw [hrt i (g.next hne).1, if_neg ei]) ih
 |un1 e =>
  obtain ⟨k2, hsc, hrp⟩ := hx.r9 (.inr (.inr e));obtain ⟨hnr, hgn, hcl2⟩ := hx.r10 (.inr e);have hgc := hx.r11 e;have hrt : ∀ i : Int, 0 ≤ i → rt (z28 cs (pr ps p).pred (pr ps p).next) i = if i = (pr ps p).pred then (pr ps p).next else rt cs i := fun i hi => rt_setR ok.pred hi;refine hr.chg fun i hne g ih => ?_
  by_cases ei : i = (pr ps p).pred
  ·subst ei;have e1 := hrt _ ok.pred.1;rw [if_pos rfl] at e1;rw [hrp] at ih
   have hcne : (pr ps p).cell ≠ c := fun f => by
    subst f;rw [gn_setR ok.pred ok.cell.1, hgc] at hg; cases hg
   obtain ⟨f0, f1, f2, f3⟩ := ih.next hcne;rw [hrt _ ok.cell.1, if_neg (z5b hx.pl).symm, ← hnr] at f2 f3;refine .step _ _ ok.pred.1 (z2l.1 hx.pl).2.1 (by rw [hk.less, e1]; exact z3a hx.pl hcl2) ?_;rw [e1]; exact f3
  ·exact same i hne g (by rw [hrt i (g.next hne).1, if_neg ei]) ih
/-- What is known of a process: w, m: at some moment since its start the cell was a member, was none. -/
structure MJ (cs : List Cl) (x : Pr) (w m : Bool) : Prop where
 a1 : x.phase = 1 → m = false → Rea cs x.succ x.cell
 b1 : x.phase = 4 → x.kind = 3 → m = false → x.succ = x.cell
 a2 : x.phase = 18 → x.kind = 3 → (x.res = true → w = true) ∧ (x.res = false → m = true)
 a3 : x.phase = 18 → x.kind = 1 → x.res = false → w = true
 a4 : x.phase = 18 → x.kind = 2 → x.res = false → m = true
 a5 : x.phase = 13 → x.kind = 1 → x.res = false → w = true
 a6 : x.phase = 13 → x.kind = 2 → x.res = false → m = true
theorem MJ.mono {cs ds : List Cl} {x : Pr} {w m w' m' : Bool} (h : MJ cs x w m) (hr : x.phase = 1 → m' = false → Rea cs x.succ x.cell → Rea ds x.succ x.cell) (hw : w = true → w' = true) (hm : m = true → m' = true) : MJ ds x w' m' := by
 have hm' : m' = false → m = false := fun e => by cases m with | false => rfl | true => rw [hm rfl] at e; cases e
 exact ⟨fun a b => hr a b (h.a1 a (hm' b)), fun a b c => h.b1 a b (hm' c), fun a b => ⟨fun c => hw ((h.a2 a b).1 c), fun c => hm ((h.a2 a b).2 c)⟩, fun a b c => hw (h.a3 a b c), fun a b c => hm (h.a4 a b c), fun a b c => hw (h.a5 a b c), fun a b c => hm (h.a6 a b c)⟩
theorem MJ.dull {cs : List Cl} {x : Pr} {w m : Bool} (h1 : x.phase ≠ 1) (h4 : x.phase = 4 → x.kind ≠ 3) (h13 : x.phase ≠ 13) (h18 : x.phase ≠ 18) : MJ cs x w m :=
 ⟨fun e => absurd e h1, fun e e2 => absurd e2 (h4 e), fun e => absurd e h18, fun e => absurd e h18, fun e => absurd e h18, fun e => absurd e h13, fun e => absurd e h13⟩
/-- Which processes are looked at behind a call for process q. -/
def cQ (ps : List Pr) (q : Int) (j : Nat) : Bool := actP (pr ps j) || (j : Int) == q
/-- What is so of a process before it is looked at. -/
def PreJ (cs : List Cl) (ps : List Pr) (mem : List Int) (q : Int) (j : Nat) (w m : Bool) : Prop :=
 MJ cs (pr ps j) (w || (cQ ps q j && hasB mem (pr ps j).cell)) (m || (cQ ps q j && !hasB mem (pr ps j).cell))
theorem stepR_idle {cs : List Cl} {ps : List Pr} {q : Int} (hv : z2r cs ps = true) (h : z3y cs ps q = false) : z3u cs ps q = (cs, ps) := by
 rw [z3y, hv, Bool.true_and] at h;rw [z3u, hv, h]; rfl
theorem mem_has {cs : List Cl} {ps : List Pr} (hv : z2r cs ps = true) {c : Int} (h2 : 2 ≤ c) (hn : c < cs.length) : hasB (z1b cs ps) c = !gn cs c := by
 cases hg : gn cs c with
 |false => exact hasB_iff.2 ((membersK_mem hv).2 ⟨h2, hn, hg⟩)
 |true => exact hasB_false.2 fun h => by have := ((membersK_mem hv).1 h).2.2; rw [hg] at this; cases this
theorem PreJ.step {cs : List Cl} {ps : List Pr} {l : List Int} {q : Int} {W M : List Bool} (h : Inv cs ps l) (hm : ∀ j, j < ps.length → MJ cs (pr ps j) (bAt W j) (bAt M j)) :
  (∃ l', Inv (z3u cs ps q).1 (z3u cs ps q).2 l') ∧ (z3u cs ps q).2.length = ps.length ∧ ∀ j, j < ps.length → PreJ (z3u cs ps q).1 (z3u cs ps q).2 (z1b (z3u cs ps q).1 (z3u cs ps q).2) q j (bAt W j) (bAt M j) := by
 cases hok : z3y cs ps q with
 |false =>
  rw [stepR_idle h.vb hok];refine ⟨⟨l, h⟩, rfl, fun j hj => (hm j hj).mono (fun _ _ g => g) (fun e => by rw [e]; rfl) fun e => by rw [e]; rfl⟩
 |true =>
  obtain ⟨hq, hqn, ha, hT, hr, l', hI⟩ := h.act_step hok;have hMq := hm _ hqn;have hv := z5d h.vb;have hP := h.prc _ hqn ha;have hO := hv.proc _ hqn;obtain ⟨hke, _⟩ := h.marks hqn ha hT;rw [hr];dsimp only;refine ⟨⟨l', hI⟩, List.length_set, fun j hj => ?_⟩
  by_cases e : j = q.toNat
  ·subst e
   have hc : cQ (ps.set q.toNat (z22 cs (pr ps q.toNat))) q q.toNat = true := by
    rw [cQ, show ((q.toNat : Nat) : Int) = q by omega]; simp
   unfold PreJ;rw [hc, Bool.true_and, Bool.true_and];rw [z61 hqn];have hrea : ∀ {a c : Int}, 2 ≤ c → c < cs.length → gn (z21 cs q.toNat (pr ps q.toNat)) c = false → Rea cs a c → Rea (z21 cs q.toNat (pr ps q.toNat)) a c := fun {a c} g1 g2 g3 g4 => h.rea hqn ha hT hI.core g1 g2 g3 g4;have hmem : ∀ c : Int, 2 ≤ c → c < cs.length → hasB (z1b (z21 cs q.toNat (pr ps q.toNat)) (ps.set q.toNat (z22 cs (pr ps q.toNat)))) c = !gn (z21 cs q.toNat (pr ps q.toNat)) c := fun c g1 g2 => mem_has hI.vb g1 (by rw [hke.len]; exact g2);have hhead := fun {c : Int} (g1 : 2 ≤ c) (g2 : c < cs.length) => hI.core.fromHead g1 (by rw [hke.len]; exact g2)
   generalize z21 cs q.toNat (pr ps q.toNat) = ds at *
   generalize z22 cs (pr ps q.toNat) = y at *
   generalize z1b ds (ps.set q.toNat y) = mem at *
   have c2 := hP.c2;have hcm := hmem _ c2 hO.cell.2
   cases hT with
   |adv g hl =>
    refine ⟨fun _ b => ?_, fun f => ?_, fun f => ?_, fun f => ?_, fun f => ?_, fun f => ?_, fun f => ?_⟩
    ·rw [Bool.or_eq_false_iff] at b;exact ((hMq.a1 g b.1).next (z5b hl)).2.2.2
    all_goals (dsimp only at f; omega)
   |seek g hl hk =>
    refine ⟨fun f => ?_, fun _ _ b => ?_, fun f => ?_, fun f => ?_, fun f => ?_, fun f => ?_, fun f => ?_⟩
    ·dsimp only at f; omega
    ·rw [Bool.or_eq_false_iff] at b;rcases (hMq.a1 g b.1).le with f | f
     ·exact f
     ·rw [hl] at f; cases f
    all_goals (dsimp only at f; omega)
   |aim g hl hk => exact MJ.dull (by dsimp only; omega) (fun f => by dsimp only at f; omega) (by dsimp only; omega) (by dsimp only; omega)
   |lockP g hf => exact MJ.dull (by dsimp only; omega) (fun f => by dsimp only at f; omega) (by dsimp only; omega) (by dsimp only; omega)
   |lockS g hf => exact MJ.dull (by dsimp only; omega) (fun _ => hP.k3 (by omega) (by omega)) (by dsimp only; omega) (by dsimp only; omega)
   |found g hk =>
    refine ⟨fun f => ?_, fun f => ?_, fun _ _ => ⟨fun f => ?_, fun f => ?_⟩, fun _ f => ?_, fun _ f => ?_, fun f => ?_, fun f => ?_⟩
    ·dsimp only at f; omega
    ·dsimp only at f; omega
    ·simp only [Bool.and_eq_true, beq_iff_eq, Bool.not_eq_true'] at f
     show (_ || hasB mem (pr ps q.toNat).cell) = true
     rw [hcm, f.2]; simp
    ·show (_ || !hasB mem (pr ps q.toNat).cell) = true
     rw [hcm]
     cases hg : gn cs (pr ps q.toNat).cell with
     |true => simp
     |false =>
      have f1 : ¬ (pr ps q.toNat).succ = (pr ps q.toNat).cell := fun f2 => by rw [hg, f2] at f; simp at f
      cases hb : bAt M q.toNat with
      |true => rfl
      |false => exact absurd (hMq.b1 g hk hb) f1
    ·dsimp only at f; omega
    ·dsimp only at f; omega
    ·dsimp only at f; omega
    ·dsimp only at f; omega
   |again g hk hb => exact MJ.dull (by dsimp only; omega) (fun f => by dsimp only at f; omega) (by dsimp only; omega) (by dsimp only; omega)
   |ins g hk hb hs => exact MJ.dull (by dsimp only; omega) (fun f => by dsimp only at f; omega) (by dsimp only; omega) (by dsimp only; omega)
   |rem g hk hb hs => exact MJ.dull (by dsimp only; omega) (fun f => by dsimp only at f; omega) (by dsimp only; omega) (by dsimp only; omega)
   |no g hk hb k1 k2 =>
    obtain ⟨b1, b2, b3⟩ := fail_iff.1 hb;refine ⟨fun f => ?_, fun f => ?_, fun f => ?_, fun f => ?_, fun f => ?_, fun _ f _ => ?_, fun _ f _ => ?_⟩
    ·dsimp only at f; omega
    ·dsimp only at f; omega
    ·dsimp only at f; omega
    ·dsimp only at f; omega
    ·dsimp only at f; omega
    ·show (_ || hasB mem (pr ps q.toNat).cell) = true
     rw [hcm, ← k1 f, b2]; simp
    ·show (_ || !hasB mem (pr ps q.toNat).cell) = true
     rw [hcm]
     cases hg : gn cs (pr ps q.toNat).cell with
     |true => simp
     |false =>
      exfalso
      have hpm := h.core.live hO.pred.1 hO.pred.2 b1;have hcl := h.core.live hO.cell.1 hO.cell.2 hg;have hcs := (dst_of h.vb).total hO.succ hO.cell (k2 f) (hP.ge (by omega));exact h.core.gap hpm hP.pl (b3 ▸ hcs) hcl
   |retry g =>
    refine ⟨fun _ b => ?_, fun f => ?_, fun f => ?_, fun f => ?_, fun f => ?_, fun f => ?_, fun f => ?_⟩
    ·rw [Bool.or_eq_false_iff] at b;have b2 : (!hasB mem (pr ps q.toNat).cell) = false := b.2;rw [hcm, Bool.not_not] at b2;have := hhead c2 hO.cell.2 b2;rw [rt_unlk] at this;exact this
    all_goals (dsimp only at f; omega)
   |link0 g => exact MJ.dull (by dsimp only; omega) (fun f => by dsimp only at f; omega) (by dsimp only; omega) (by dsimp only; omega)
   |link1 g => exact MJ.dull (by dsimp only; omega) (fun f => by dsimp only at f; omega) (by dsimp only; omega) (by dsimp only; omega)
   |link2 g =>
    refine ⟨fun f => ?_, fun f => ?_, fun f => ?_, fun f => ?_, fun f => ?_, (fun _ _ f => by cases f), fun _ _ f => by cases f⟩
    all_goals (dsimp only at f; omega)
   |lockN g hf => exact MJ.dull (by dsimp only; omega) (fun f => by dsimp only at f; omega) (by dsimp only; omega) (by dsimp only; omega)
   |un0 g => exact MJ.dull (by dsimp only; omega) (fun f => by dsimp only at f; omega) (by dsimp only; omega) (by dsimp only; omega)
   |un1 g => exact MJ.dull (by dsimp only; omega) (fun f => by dsimp only at f; omega) (by dsimp only; omega) (by dsimp only; omega)
   |un2 g =>
    refine ⟨fun f => ?_, fun f => ?_, fun f => ?_, fun f => ?_, fun f => ?_, (fun _ _ f => by cases f), fun _ _ f => by cases f⟩
    all_goals (dsimp only at f; omega)
   |rel g =>
    refine ⟨fun f => ?_, fun f => ?_, fun _ f => absurd f (hP.k3 (by omega) (by omega)), fun _ f1 f2 => ?_, fun _ f1 f2 => ?_, fun f => ?_, fun f => ?_⟩
    ·dsimp only at f; omega
    ·dsimp only at f; omega
    ·rw [hMq.a5 g f1 f2]; rfl
    ·rw [hMq.a6 g f1 f2]; rfl
    ·dsimp only at f; omega
    ·dsimp only at f; omega
  ·unfold PreJ;rw [z5n (Ne.symm e)];refine (hm j hj).mono (fun g1 g2 g3 => ?_) (fun e => by rw [e]; rfl) fun e => by rw [e]; rfl
   have haj : actP (pr ps j) = true := act_iff.2 (by omega)
   have hcj : cQ (ps.set q.toNat (z22 cs (pr ps q.toNat))) q j = true := by
    rw [cQ, z5n (Ne.symm e), haj]; rfl
   have c2 := (h.prc j hj haj).c2;have hcl := (hv.proc j hj).cell.2;rw [Bool.or_eq_false_iff, hcj, Bool.true_and, mem_has hI.vb c2 (by rw [hke.len]; exact hcl), Bool.not_not] at g2;exact h.rea hqn ha hT hI.core c2 hcl g2.2 g3
theorem bAt_set {l : List Bool} {k j : Nat} {b : Bool} (h : k < l.length) : bAt (l.set k b) j = if j = k then b else bAt l j := by
 simp only [bAt, List.getD]
 by_cases e : j = k
 ·subst e; simp [h]
 ·rw [List.getElem?_set_ne (Ne.symm e), if_neg e]
theorem PreJ.start {cs : List Cl} {ps : List Pr} {l : List Int} {q k c : Int} {W M : List Bool} (h : Inv cs ps l) (he : z36 cs ps q k c = 0) (hW : W.length = ps.length) (hM : M.length = ps.length) (hm : ∀ j, j < ps.length → MJ cs (pr ps j) (bAt W j) (bAt M j)) :
  (∃ l', Inv (z2d cs ps q k c).1 (z2d cs ps q k c).2 l') ∧ (z2d cs ps q k c).2.length = ps.length ∧ ∀ j, j < ps.length → PreJ (z2d cs ps q k c).1 (z2d cs ps q k c).2 (z1b (z2d cs ps q k c).1 (z2d cs ps q k c).2) q j (bAt (W.set q.toNat false) j) (bAt (M.set q.toNat false) j) := by
 have hI := h.start he;obtain ⟨_, hp, hc, hk, _⟩ := startE_zero he;have hqn : q.toNat < ps.length := by omega
 rw [z2d, if_pos he];dsimp only;refine ⟨⟨l, hI⟩, z64 .., fun j hj => ?_⟩;unfold PreJ;rw [bAt_set (by omega), bAt_set (by omega)]
 by_cases e : j = q.toNat
 ·subst e;have hx : pr (startP cs ps q k c) q.toNat = ⟨k, c, 1, 0, (cl cs 0).right, 0, false⟩ := by unfold startP; rw [z61 hqn]
  have hcq : cQ (startP cs ps q k c) q q.toNat = true := by
   rw [cQ, show ((q.toNat : Nat) : Int) = q by omega]; simp
  rw [hcq, if_pos rfl, if_pos rfl, hx];refine ⟨fun _ b => ?_, (fun f => by cases f), (fun f => by cases f), (fun f => by cases f), (fun f => by cases f), (fun f => by cases f), fun f => by cases f⟩;dsimp only at b;rw [Bool.false_or, Bool.true_and, mem_has hI.vb hc.1 hc.2, Bool.not_not] at b;exact hI.core.fromHead hc.1 hc.2 b
 ·have hx : pr (startP cs ps q k c) j = pr ps j := by unfold startP; rw [z5n (Ne.symm e)]
  rw [hx, if_neg e, if_neg e];exact (hm j hj).mono (fun _ _ g => g) (fun e => by rw [e]; rfl) fun e => by rw [e]; rfl
theorem MJ.made (cs : List Cl) (w m : Bool) : MJ cs noPr w m :=
 MJ.dull (by decide) (fun e => by cases e) (by decide) (by decide)
/-- The law's own test. -/
def badM (x : Pr) (w m : Bool) : Bool := x.phase == 18 && (x.kind == 3 && (x.res && !w || !x.res && !m) || x.kind == 1 && !x.res && !w || x.kind == 2 && !x.res && !m)
theorem MJ.fine {cs : List Cl} {x : Pr} {w m : Bool} (h : MJ cs x w m) : badM x w m = false := by
 cases hb : badM x w m with
 |false => rfl
 |true =>
  simp only [badM, Bool.and_eq_true, Bool.or_eq_true, beq_iff_eq, Bool.not_eq_true'] at hb;obtain ⟨h1, h2⟩ := hb;rcases h2 with (⟨h2, h3⟩ | ⟨⟨h2, h3⟩, h4⟩) | ⟨⟨h2, h3⟩, h4⟩
  ·obtain ⟨a, b⟩ := h.a2 h1 h2;rcases h3 with ⟨h3, h4⟩ | ⟨h3, h4⟩
   ·rw [a h3] at h4; cases h4
   ·rw [b h3] at h4; cases h4
  ·rw [h.a3 h1 h2 h3] at h4; cases h4
  ·rw [h.a4 h1 h2 h3] at h4; cases h4
end Go.Proofs

set_option linter.unusedSimpArgs false
set_option linter.unusedVariables false
set_option maxRecDepth 4000
namespace Go.Proofs
open Go.Sk
theorem startR_len (cs : List Cl) (ps : List Pr) (p k c : Int) : (z2d cs ps p k c).1.length ≤ cs.length ∧ (z2d cs ps p k c).2.length ≤ ps.length := by
 unfold z2d
 split
 ·exact ⟨Nat.le_refl _, Nat.le_of_eq (z64 ..)⟩
 ·simp
theorem stepR_len (cs : List Cl) (ps : List Pr) (p : Int) : (z3u cs ps p).1.length ≤ cs.length ∧ (z3u cs ps p).2.length ≤ ps.length := by
 unfold z3u
 split
 ·simp
 ·split
  ·simp only [stepC_length, List.length_set]; omega
  ·simp
theorem membersK_most (cs : List Cl) (ps : List Pr) : (z1b cs ps).length ≤ cs.length + 1 := by
 unfold z1b
 split
 ·rw [srtR_length];rcases memsC_len cs cs.length with h | h
  ·omega
  ·rw [h]; simp
 ·simp
end Go.Proofs

set_option linter.unusedSimpArgs false
set_option linter.unusedVariables false
set_option maxRecDepth 4000
namespace Go.Proofs
open Go.Sk
end Go.Proofs

set_option linter.unusedSimpArgs false
set_option linter.unusedVariables false
set_option maxRecDepth 4000
namespace Go.Proofs
open Go.Sk
theorem LmGm.ca {P : Program} {f : FuncId} {args args0 : List SV} {H0 H : AH} {R : SV → AH → Prop} {dr : Bool} {W : List Nat} {k : SV → AH → Prop} (hF : z19 P f args0 H0 R) (ρ : Nat → Nat)
  (hk : ∀ s0 H1, R s0 H1 → ∀ s1 H2, s1 = s0.ren (z5o H0.nxt H.nxt ρ) → H2 = after H0.nxt ρ H0 H H1 → k s1 H2)
  (a1 : SV.wkL args (SV.renL ρ args0) := by simp [SV.wkL, SV.wk, SV.renL, SV.ren, z14, zj, z16, zl, zp, zo, zt, zy, zq, z8, zi, zf, zx, zk, zd, zb, ze, Cl.sv, Pr.sv, ints]) (a2 : SV.ltL H.nxt (SV.renL ρ args0) := by simp [SV.renL, SV.ren, SV.ltL, SV.lt, z14, zj, z16, zl, zp, zo, zt, zy, zq, z8, zi, zf, zx, zk, zd, zb, ze, Cl.sv, Pr.sv, ints]) (a3 : SV.ltL H0.nxt args0 := by simp [SV.ltL, SV.lt, z14, zj, z16, zl, zp, zo, zt, zy, zq, z8, zi, zf, zx, zk, zd, zb, ze, Cl.sv, Pr.sv, ints])
  (a4 : (List.range H0.nxt).all (fun id => decide (ρ id < H.nxt)) = true := by exact rfl) (a5 : z1a ρ H0.nxt H.os H0.os := by simp [z1a, Sk.find, one, z1j, z1o, z27, SV.renL, SV.ren, Obj.lt_row, SV.ltL, SV.lt, z14, zj, z16, zl, zp, zo, zt, zy, zq, z8, zi, zf, zx, zk, zd, zb, ze, Cl.sv, Pr.sv, ints]) (a6 : z6p ρ H0.os = true := by exact rfl) (a7 : z2a H0.os := by simp [z2a, one, Obj.own, z14, zj, z16, zl, zp, zo, zt, zy, zq, z8, zi, zf, zx, zk, zd, zb, ze, Cl.sv, Pr.sv, ints])
  (a8 : (H0.os.map (·.1)).Nodup := by simp) (a9 : ∀ x ∈ H0.os, (x.2.2 0).own = true → (Sk.find H.os (ρ x.1)).map (·.1) = some x.2.1 := by simp [one, Obj.own, Sk.find, z14, zj, z16, zl, zp, zo, zt, zy, zq, z8, zi, zf, zx, zk, zd, zb, ze, Cl.sv, Pr.sv, ints]) (a10 : dr = true → (z1p ρ H0.os).all (fun id => W.contains id) = true := by simp [z1p, one, Obj.own, z14, zj, z16, zl, zp, zo, zt, zy, zq, z8, zi, zf, zx, zk, zd, zb, ze, Cl.sv, Pr.sv, ints]) : callK P f args H dr W k :=
 z55 hF ρ a1 a2 a3 a4 a5 a6 a7 a8 a9 a10 hk
theorem LmGm.af {s e e1 : SV} {H g g1 : AH} (h1 : s = e) (h2 : H = g) (a1 : e = e1 := by simp only [after, z5o, id, z2q, reduceCtorEq, Nat.reduceEqDiff, Nat.one_ne_zero, Nat.zero_ne_one, z3n, z23, z1p, one, Obj.own, Obj.ren, Row.ren, SV.ren, SV.renL, List.map_cons, List.map_nil, List.nil_append, List.cons_append, ↓reduceIte, Nat.reduceLT, Nat.reduceAdd, Nat.reduceSub, Nat.reduceEqDiff, Nat.add_zero, Bool.false_eq_true, Tryd.tyInt, Tryd.szInt, Tryd.zInt, Tryd.tyInts, Tryd.szInts, Tryd.tyErr, Tryd.szErr, Tryd.zErr, Tryd.tyBool, Tryd.szBool, Tryd.zBool, Tryd.tyStr, Tryd.szStr, Tryd.tyCl, Tryd.szCl, Tryd.zCl, Tryd.tyPr, Tryd.szPr, Tryd.zPr, Tryd.tyCls, Tryd.szCls, Tryd.tyPrs, Tryd.szPrs, Tryd.tyLs, Tryd.szLs, Tryd.zLs, z14, zj, z16, zl, zp, zo, zt, zy, zq, z4l, z4m, z4n, z4o, z4p, z4q, z4r, z4s, z4t, z4u, z4v, z4w, z1z, z20, Cl.sv, Pr.sv, zk, zd, z1c, z1r, z1y, z1h, z26, z2t, z1h]; exact rfl) (a2 : g = g1 := by simp only [after, z5o, id, z2q, reduceCtorEq, Nat.reduceEqDiff, Nat.one_ne_zero, Nat.zero_ne_one, z3n, z23, z1p, one, Obj.own, Obj.ren, Row.ren, SV.ren, SV.renL, List.map_cons, List.map_nil, List.nil_append, List.cons_append, ↓reduceIte, Nat.reduceLT, Nat.reduceAdd, Nat.reduceSub, Nat.reduceEqDiff, Nat.add_zero, Bool.false_eq_true, Tryd.tyInt, Tryd.szInt, Tryd.zInt, Tryd.tyInts, Tryd.szInts, Tryd.tyErr, Tryd.szErr, Tryd.zErr, Tryd.tyBool, Tryd.szBool, Tryd.zBool, Tryd.tyStr, Tryd.szStr, Tryd.tyCl, Tryd.szCl, Tryd.zCl, Tryd.tyPr, Tryd.szPr, Tryd.zPr, Tryd.tyCls, Tryd.szCls, Tryd.tyPrs, Tryd.szPrs, Tryd.tyLs, Tryd.szLs, Tryd.zLs, z14, zj, z16, zl, zp, zo, zt, zy, zq, z4l, z4m, z4n, z4o, z4p, z4q, z4r, z4s, z4t, z4u, z4v, z4w, z1z, z20, Cl.sv, Pr.sv, zk, zd, z1c, z1r, z1y, z1h, z26, z2t, z1h]; exact rfl) : s = e1 ∧ H = g1 := ⟨h1.trans a1, h2.trans a2⟩
theorem LmGm.g0 {X : Cx} {fr : Fr} {H : AH} {fr1 : Fr} {H1 : AH} (ρ : Nat → Nat) (a1 : z1g ρ H1.nxt fr fr1 := by simp [z1g, Sk.get, z3t, SV.lt, SV.ltL, z14, zj, z16, zl, zp, zo, zt, zy, zq, z8, zi, zf, zx, zk, zd, zb, ze, Cl.sv, Pr.sv, ints]) (a2 : z1a ρ H1.nxt H.os H1.os := by simp [z1a, Sk.find, one, z1j, z1o, z27, Obj.lt_row, SV.ltL, SV.lt, z14, zj, z16, zl, zp, zo, zt, zy, zq, z8, zi, zf, zx, zk, zd, zb, ze, Cl.sv, Pr.sv, ints]) (a3 : z6p ρ H1.os = true := by exact rfl)
  (a4 : z2a H1.os := by simp [z2a, one, z14, zj, z16, zl, zp, zo, zt, zy, zq, z8, zi, zf, zx, zk, zd, zb, ze, Cl.sv, Pr.sv, ints]) (a5 : (List.range X.m0).all (fun id => ρ id == id) = true := by exact rfl) (a6 : X.m0 ≤ H1.nxt := by exact Nat.le_of_ble_eq_true rfl) (a7 : z2a H.os := by simp [z2a, one, Obj.own, z14, zj, z16, zl, zp, zo, zt, zy, zq, z8, zi, zf, zx, zk, zd, zb, ze, Cl.sv, Pr.sv, ints])
  (a8 : z2o X.m0 H.os H1.os := by simp [z2o, one, Obj.own, Sk.find, z14, zj, z16, zl, zp, zo, zt, zy, zq, z8, zi, zf, zx, zk, zd, zb, ze, Cl.sv, Pr.sv, ints]) (a9 : bigB X.m0 ρ H1.os = true := by exact rfl) : z24 X ρ fr H fr1 H1 := z24.mk' ρ a1 a2 a3 a4 a5 a6 a7 a8 a9
theorem LmGm.r3 {a : Prop} (h : a := by simp [z5u, one, Obj.own, z14, zj, z16, zl, zp, zo, zt, zy, zq, z8, zi, zf, zx, zk, zd, zb, ze, Cl.sv, Pr.sv, ints]) : a := h
theorem LmGm.o {a b c : Prop} (r : a → c) (h : b) (e : a = b := by simp only [stp, isQ, z5c, Sk.get, Sk.put, z3e, z1v, ↓reduceIte, reduceCtorEq, Nat.reduceEqDiff, true_and, and_true, true_implies, implies_true, forall_const, imp_self, Bool.false_eq_true, false_implies, false_and, and_false, Bool.false_and, Bool.and_false, qop, grdK, List.getElem?_toArray, List.getElem?_cons_zero, List.getElem?_cons_succ, beq_true, beq_false, beq_self_eq_true, Bool.and_true, Bool.true_and, Bool.not_true, Bool.not_false, Bool.not_not, Bool.and_eq_true, Bool.not_eq_true', Bool.not_eq_false', z2j, Bool.cond_true_left, Bool.cond_false_left, Bool.cond_true_right, Bool.cond_false_right, cond_true, cond_false, and_imp, z5m, Sk.find, one, Kd.agg, List.contains_nil, List.contains_cons, Nat.reduceBEq, Bool.or_false, Bool.true_or, Bool.or_true, Bool.false_or, ite_self, Nat.lt_one_iff, Nat.zero_add, Nat.add_zero, Nat.reduceAdd, Nat.reduceMul, Nat.reduceSub, Nat.reduceLT, Nat.reduceLeDiff, Nat.le_refl, Nat.zero_le, ne_eq, Nat.one_ne_zero, not_false_eq_true, not_true_eq_false, Int.toNat_natCast, Int.reduceToNat, List.length_cons, List.length_nil, and_self, Kd.slice.injEq, exists_eq', Option.map_some, Option.some.injEq, List.drop_zero, List.drop_succ_cons, List.take_succ_cons, List.take_zero, List.take_nil, List.drop_nil, List.nil_append, List.cons_append, List.append_nil, List.append_eq, List.all_cons, List.all_nil, spl, z3k, SV.cells, SV.scalar, binK, z70, z6z, intK, z3v, strK, z4a, z6y, z58, unK, z6r, z4d, z4e, z6l, z4f, z4g, optK, z4i, bndK, Option.isSome_some, Option.isSome_none, Nat.sub_zero, or_true, true_or, z49, z4c, z6b, z4z, lenK, z2k.len, z62, mmK, z32, eop, copyK, srcK, z2u, setO, z54, z3c, z2q, z43, boxK, z3d, z3z, z4j, updF, mkK, z6j, z2k.ofKd, z6k, z2k.add, z2k.okKd, z4h, z2k.has, Tryd.tyInt, Tryd.szInt, Tryd.zInt, Tryd.tyInts, Tryd.szInts, Tryd.tyErr, Tryd.szErr, Tryd.zErr, Tryd.tyBool, Tryd.szBool, Tryd.zBool, Tryd.tyStr, Tryd.szStr, Tryd.tyCl, Tryd.szCl, Tryd.zCl, Tryd.tyPr, Tryd.szPr, Tryd.zPr, Tryd.tyCls, Tryd.szCls, Tryd.tyPrs, Tryd.szPrs, Tryd.tyLs, Tryd.szLs, Tryd.zLs, z14, zj, z16, zl, zp, zo, zt, zy, zq, z4l, z4m, z4n, z4o, z4p, z4q, z4r, z4s, z4t, z4u, z4v, z4w, z1z, z20, Cl.sv, Pr.sv, zk, zd, z1c, z1r, z1y, ints]; exact rfl) : c := r (Eq.mpr e h)
theorem has_spec (xs : List Int) (v : Int) (n : Nat) (hn : xs.length = n) (hx : n ≤ 9223372036854775807) :
  z19 Tryd.prog 58 [.slc false 0 0 0 n, .int .i64 v] ⟨1, [(0, zk xs)]⟩ (fun s H1 => s = .bool (hasB xs v) ∧ H1 = ⟨1, []⟩) := by
 subst hn;refine z19.ofC false 18 [.tmp 4] Tryd.func58 rfl rfl Tryd.ntmps58 Tryd.results58 rfl ?_;intro w0 own0 β0 Q hQ hQn;simp only [z2e];refine Cs.seq ?_;refine Cs.reg [0, 1] rfl ?_;intro K hK;(refine LmGm.o z5 ?_; repeat (with_reducible apply ai;exact z4));refine z7 (z6 (hK _ _ ?_)); clear hK K;refine Cs.seq ?_;refine Cs.seq ?_;refine Cs.reg [0, 1, 5] rfl ?_;intro K hK;(refine LmGm.o z5 ?_; repeat (with_reducible apply ai;exact z4));refine z7 (z6 (hK _ _ ?_)); clear hK K;refine Cs.block ?_;intro Q0 hN0 hX0 hR0 hE0;refine Cs.loop (σ := Nat) (fun i => i ≤ xs.length ∧ ∀ j, j < i → (v == nth xs j) = false) (fun i => xs.length - i) (fun i => [(0, .slc false 0 0 0 xs.length), (1, .int .i64 v), (5, .int .i64 i)]) (fun i => ⟨1, [(0, zk xs)]⟩) 0 ⟨by omega, by omega⟩ (ρ := id) (LmGm.g0 id) ?_;rintro i hi QL1 hL1 hRL1 hEL1;refine Cs.seq ?_;refine Cs.seq ?_;refine Cs.reg [0, 1, 5, 9] rfl ?_;intro K hK;iterate 4 (refine LmGm.o z5 ?_; repeat (with_reducible apply ai;exact z4))
 refine z7 (z6 (hK _ _ ?_)); clear hK K;refine Cs.cond _ rfl ?_ ?_
 ·intro h9
  try replace h9 := z9 h9
  refine Cs.skip ?_;refine Cs.seq ?_;refine Cs.block ?_;intro Q1 hN1 hX1 hR1 hE1;refine Cs.seq ?_;refine Cs.reg [0, 1, 5, 17] rfl ?_;intro K hK;iterate 6 (refine LmGm.o z5 ?_; repeat (with_reducible apply ai;exact z4))
  refine z7 (z6 (hK _ _ ?_)); clear hK K;refine Cs.cond _ rfl ?_ ?_
  ·intro h17
   try replace h17 := z9 h17
   refine Cs.seq ?_;refine Cs.reg [4] rfl ?_;intro K hK;(refine LmGm.o z5 ?_; repeat (with_reducible apply ai;exact z4));refine z7 (z6 (hK _ _ ?_)); clear hK K;refine Cs.ret ?_;refine hR1 _ _ ?_;refine hRL1 _ _ ?_;refine hR0 _ _ ?_;refine hQ _ _ ?_;refine z17.mk (H' := ⟨1, []⟩) (.inl rfl) ?_;refine zu ?_;repeat (with_reducible apply ai;exact z4)
   refine ⟨zh, (LmGm.g0 id), LmGm.r3, ?_⟩;have : hasB xs v = true := z2w (i := i) (by omega) (by simp; omega);exact ⟨by rw [this], by trivial⟩
  ·intro h17
   try replace h17 := z9 h17
   refine Cs.skip ?_;refine Cs.nil ?_;refine hN1 _ _ ?_;refine Cs.reg [0, 1, 5] rfl ?_;intro K hK;iterate 3 (refine LmGm.o z5 ?_; repeat (with_reducible apply ai;exact z4))
   refine z7 (z6 (hK _ _ ?_)); clear hK K;refine Cs.nil ?_;refine hL1 _ _ ?_;refine ⟨i + 1, ⟨⟨by omega, fun j hj => ?_⟩, by omega⟩, id, (LmGm.g0 id)⟩
   by_cases h : j = i
   ·subst h; simp; omega
   ·exact hi.2 j (by omega)
 ·intro h9
  try replace h9 := z9 h9
  refine Cs.exit ?_;refine hEL1 _ _ _ ?_;refine hX0 _ _ ?_;refine Cs.seq ?_;refine Cs.reg [4] rfl ?_;intro K hK;(refine LmGm.o z5 ?_; repeat (with_reducible apply ai;exact z4));refine z7 (z6 (hK _ _ ?_)); clear hK K;refine Cs.ret ?_;refine hQ _ _ ?_;refine z17.mk (H' := ⟨1, []⟩) (.inl rfl) ?_;refine zu ?_;repeat (with_reducible apply ai;exact z4)
  refine ⟨zh, (LmGm.g0 id), LmGm.r3, ?_⟩;have : hasB xs v = false := z2s fun j hj => hi.2 j (by omega);exact ⟨by rw [this], by trivial⟩
theorem lhas_spec (xs : List Int) (v : Int) (n : Nat) (hn : xs.length = n) (hx : n ≤ 9223372036854775807) :
  z19 Tryd.prog 27 [.slc false 0 0 0 n, .int .i64 v] ⟨1, [(0, zk xs)]⟩ (fun s H1 => s = .bool (hasB xs v) ∧ H1 = ⟨1, []⟩) := by
 refine z19.ofC false 8 [.tmp 4] Tryd.func27 rfl rfl Tryd.ntmps27 Tryd.results27 rfl ?_;intro w0 own0 β0 Q hQ hQn;simp only [z2e];refine Cs.seq ?_;refine Cs.reg [0, 1] rfl ?_;intro K hK;(refine LmGm.o z5 ?_; repeat (with_reducible apply ai;exact z4));refine z7 (z6 (hK _ _ ?_)); clear hK K;refine Cs.seq ?_;refine Cs.reg [4] rfl ?_;intro K hK;iterate 2 (refine LmGm.o z5 ?_; repeat (with_reducible apply ai;exact z4))
 refine LmGm.o z5 ?_;repeat (with_reducible apply ai;exact z4)
 refine LmGm.ca (has_spec xs v n hn hx) (id) ?_;rintro s0 H0 ⟨rfl, rfl⟩ s1 H1 hs1 hH1;obtain ⟨hs2, hH2⟩ := LmGm.af hs1 hH1;clear hs1 hH1;subst hs2 hH2;repeat (with_reducible apply ai;exact z4)
 (refine LmGm.o z5 ?_; repeat (with_reducible apply ai;exact z4));refine z7 (z6 (hK _ _ ?_)); clear hK K;refine Cs.ret ?_;refine hQ _ _ ?_;refine z17.mk (H' := ⟨1, []⟩) (.inl rfl) ?_;refine zu ?_;repeat (with_reducible apply ai;exact z4)
 refine ⟨zh, (LmGm.g0 id), LmGm.r3, ?_⟩
 first | trivial | exact ⟨rfl, by trivial⟩
theorem bos_put {l : List Bool} {k : Nat} (h : k < l.length) (b : Bool) : (fun i => if i = k then [SV.bool b] else [SV.bool (bAt l i)]) = bos (l.set k b) := by
 funext i
 simp only [bos];rw [bAt_set h]
 split <;> rfl
theorem bos_rep (n : Nat) : (fun _ => [SV.bool false] : Nat → List SV) = bos (List.replicate n false) := by
 funext i
 simp only [bos, bAt, List.getD, List.getElem?_replicate]
 split <;> rfl
theorem bAt_rep (n i : Nat) : bAt (List.replicate n false) i = false := by
 simp only [bAt, List.getD, List.getElem?_replicate]
 split <;> rfl
/-- Has the process changed the members? -/
def dOf (x : Pr) : Bool := x.res || x.phase == 8 || x.phase == 11 || x.phase == 12
/-- What did tells of the processes. -/
def DI (ps : List Pr) (did : List Bool) : Prop := did.length = ps.length ∧ ∀ q, q < ps.length → (pr ps q).kind ≠ 3 → bAt did q = dOf (pr ps q)
theorem DI.set {ps : List Pr} {did : List Bool} {q : Nat} {y : Pr} {b : Bool} (hd : DI ps did) (hq : q < ps.length) (hy : y.kind ≠ 3 → b = dOf y) : DI (ps.set q y) (did.set q b) := by
 refine ⟨by rw [List.length_set, List.length_set, hd.1], fun j hj hk => ?_⟩;rw [List.length_set] at hj;rw [bAt_set (by rw [hd.1]; exact hq)]
 by_cases e : j = q
 ·subst e;rw [z61 hq] at hk ⊢;rw [if_pos rfl];exact hy hk
 ·rw [z5n (Ne.symm e)] at hk ⊢;rw [if_neg e];exact hd.2 j hj hk
theorem DI.keep {ps : List Pr} {did : List Bool} {q : Nat} {y : Pr} (hd : DI ps did) (hq : q < ps.length) (hy : y.kind ≠ 3 → y.kind = (pr ps q).kind ∧ dOf y = dOf (pr ps q)) : DI (ps.set q y) did := by
 refine ⟨by rw [List.length_set, hd.1], fun j hj hk => ?_⟩;rw [List.length_set] at hj
 by_cases e : j = q
 ·subst e;rw [z61 hq] at hk ⊢;obtain ⟨h1, h2⟩ := hy hk;rw [h2];exact hd.2 j hj (by rw [← h1]; exact hk)
 ·rw [z5n (Ne.symm e)] at hk ⊢;exact hd.2 j hj hk
theorem DI.step {cs : List Cl} {ps : List Pr} {l : List Int} {did : List Bool} {q : Int} (h : Inv cs ps l) (hd : DI ps did) (hq : 0 ≤ q ∧ q < ps.length) :
  (∃ l', Inv (z3u cs ps q).1 (z3u cs ps q).2 l') ∧ (z3u cs ps q).2.length = ps.length ∧
  ((z3y cs ps q && (pr ps q.toNat).phase == 7) = true → hasB (z1b cs ps) (pr ps q.toNat).cell = false ∧ hasB (z1b (z3u cs ps q).1 (z3u cs ps q).2) (pr ps q.toNat).cell = true ∧ (z1b (z3u cs ps q).1 (z3u cs ps q).2).length = (z1b cs ps).length + 1 ∧ DI (z3u cs ps q).2 (did.set q.toNat true)) ∧
  ((z3y cs ps q && (pr ps q.toNat).phase == 10) = true → hasB (z1b cs ps) (pr ps q.toNat).cell = true ∧ hasB (z1b (z3u cs ps q).1 (z3u cs ps q).2) (pr ps q.toNat).cell = false ∧ (z1b (z3u cs ps q).1 (z3u cs ps q).2).length + 1 = (z1b cs ps).length ∧ DI (z3u cs ps q).2 (did.set q.toNat true)) ∧
  ((z3y cs ps q && (pr ps q.toNat).phase == 7) = false → (z3y cs ps q && (pr ps q.toNat).phase == 10) = false → z1b cs ps = z1b (z3u cs ps q).1 (z3u cs ps q).2 ∧ DI (z3u cs ps q).2 did) := by
 have hqn : q.toNat < ps.length := by omega
 cases hok : z3y cs ps q with
 |false =>
  rw [stepR_idle h.vb hok];exact ⟨⟨l, h⟩, rfl, (fun e => by cases e), (fun e => by cases e), fun _ _ => ⟨rfl, hd⟩⟩
 |true =>
  obtain ⟨_, _, ha, hT, hr, l', hI⟩ := h.act_step hok;have hv := z5d h.vb;have hP := h.prc _ hqn ha;have hO := hv.proc _ hqn;have c2 := hP.c2;obtain ⟨hke, hm⟩ := h.marks hqn ha hT;rw [hr];dsimp only;refine ⟨⟨l', hI⟩, List.length_set, ?_⟩;simp only [Bool.true_and, beq_iff_eq, beq_eq_false_iff_ne];have hh1 := mem_has h.vb c2 hO.cell.2;have hh2 := mem_has hI.vb c2 (by rw [hke.len]; exact hO.cell.2);have hl1 := membersK_len h.vb;have hl2 := membersK_len hI.vb;have hcg := fun g => membersK_congr h.vb hI.vb hke g;have hkd : ∀ {ds y}, Tr cs q.toNat (pr ps q.toNat) ds y → y.kind = (pr ps q.toNat).kind := fun {ds y} t => by cases t <;> rfl
  have hkd := hkd hT;have hdq := hd.2 _ hqn
  generalize z21 cs q.toNat (pr ps q.toNat) = ds at *
  generalize z22 cs (pr ps q.toNat) = y at *
  rcases hm with ⟨m1, m2, m3, m4, m5⟩ | ⟨m1, m2, m3, m4, m5⟩ | ⟨m1, m2, m3, m4, m5⟩
  ·refine ⟨fun e => absurd e m2, fun e => absurd e m3, fun _ _ => ⟨(hcg fun i h1 _ => m1 i (by omega)).symm, hd.keep hqn fun k3 => ⟨hkd, ?_⟩⟩⟩
   cases hT with
   |adv e hl => rfl
   |seek e hl hk => exact absurd hk k3
   |aim e hl hk => simp [dOf, e]
   |lockP e hf => simp [dOf, e]
   |lockS e hf => simp [dOf, e]
   |found e hk => exact absurd hk k3
   |again e hk hb => simp [dOf, e]
   |ins e hk hb hs => simp [dOf, e]
   |rem e hk hb hs => simp [dOf, e]
   |no e hk hb c1 c2 => simp [dOf, e]
   |retry e => simp [dOf, e]
   |link0 e => simp [dOf, e]
   |link1 e => exact absurd e m2
   |link2 e => simp [dOf, e]
   |lockN e hf => simp [dOf, e]
   |un0 e => exact absurd e m3
   |un1 e => simp [dOf, e]
   |un2 e => simp [dOf, e]
   |rel e => simp [dOf, e]
  ·refine ⟨fun _ => ⟨by rw [hh1, m4]; rfl, ?_, ?_, hd.set hqn fun _ => by rw [m2]; simp [dOf]⟩, fun e => by omega, fun e => absurd m1 e⟩
   ·rw [hh2, m5 _ hO.cell.1, if_pos rfl]; rfl
   ·rw [hl1, hl2, hke.len, memsC_grow c2 m4 (by rw [m5 _ hO.cell.1, if_pos rfl]) (fun i h0 hne => by rw [m5 i h0, if_neg hne]), if_pos hO.cell.2]
  ·refine ⟨fun e => by omega, fun _ => ⟨by rw [hh1, m4]; rfl, ?_, ?_, hd.set hqn fun _ => by rw [m2]; simp [dOf]⟩, fun _ e => absurd m1 e⟩
   ·rw [hh2, m5 _ hO.cell.1, if_pos rfl]; rfl
   ·rw [hl1, hl2, hke.len, memsC_grow (cs := ds) (ds := cs) c2 (by rw [m5 _ hO.cell.1, if_pos rfl]) m4 (fun i h0 hne => by rw [m5 i h0, if_neg hne]), if_pos hO.cell.2]
theorem DI.start {cs : List Cl} {ps : List Pr} {did : List Bool} {q k c : Int} (hd : DI ps did) (he : z36 cs ps q k c = 0) : DI (z2d cs ps q k c).2 (did.set q.toNat false) := by
 obtain ⟨_, hp, _⟩ := startE_zero he;rw [z2d, if_pos he];exact hd.set (by omega) fun _ => rfl
theorem DI.made (p : Nat) : DI (List.replicate p noPr) (List.replicate p false) := by
 refine ⟨by simp, fun q _ _ => ?_⟩;rw [noPr_at, bAt_rep]; rfl
end Go.Proofs

set_option linter.unusedSimpArgs false
set_option linter.unusedVariables false
set_option maxRecDepth 4000
namespace Go.Proofs
open Go.Sk
noncomputable def z34 (n : Nat) (l : List Bool) : Nat × (Nat → Sk.Obj) := one (.row ⟨true, false, 4, 1, n, bos l⟩)
end Go.Proofs

set_option linter.unusedSimpArgs false
set_option linter.unusedVariables false
set_option maxRecDepth 4000
namespace Go.Proofs
open Go.Sk
def badN (x : Pr) (w m : Bool) : Bool := x.kind == 3 && (x.res && !w || !x.res && !m) || x.kind == 1 && !x.res && !w || x.kind == 2 && !x.res && !m
theorem MJ.fineN {cs : List Cl} {x : Pr} {w m : Bool} (h : MJ cs x w m) (h18 : x.phase = 18) : badN x w m = false := by
 have := h.fine;rw [badM, h18] at this;exact this
theorem bAt_setB {W : List Bool} {n J j : Nat} {b : Bool} (hW : W.length = n) (hJ : J < n) : bAt (W.set J b) j = if j = J then b else bAt W j := bAt_set (by omega)
theorem z53 {P : Program} {f : FuncId} {args args0 : List SV} {H0 H : AH} {R : SV → AH → Prop} {dr : Bool} {W : List Nat} {k : SV → AH → Prop} (hF : z19 P f args0 H0 R) (ρ : Nat → Nat)
  (hk : ∀ s0 H1, R s0 H1 → ∀ s1 H2, s1 = s0.ren (z5o H0.nxt H.nxt ρ) → H2 = after H0.nxt ρ H0 H H1 → k s1 H2)
  (a1 : SV.wkL args (SV.renL ρ args0) := by simp [SV.wkL, SV.wk, SV.renL, SV.ren, z14, zj, z16, zl, zp, zo, zt, zy, zq, z8, zi, zf, zx, zk, zd, zb, ze, Cl.sv, Pr.sv, ints, zn, zr, z13, z34]) (a2 : SV.ltL H.nxt (SV.renL ρ args0) := by simp [SV.renL, SV.ren, SV.ltL, SV.lt, z14, zj, z16, zl, zp, zo, zt, zy, zq, z8, zi, zf, zx, zk, zd, zb, ze, Cl.sv, Pr.sv, ints, zn, zr, z13, z34]) (a3 : SV.ltL H0.nxt args0 := by simp [SV.ltL, SV.lt, z14, zj, z16, zl, zp, zo, zt, zy, zq, z8, zi, zf, zx, zk, zd, zb, ze, Cl.sv, Pr.sv, ints, zn, zr, z13, z34])
  (a4 : (List.range H0.nxt).all (fun id => decide (ρ id < H.nxt)) = true := by exact rfl) (a5 : z1a ρ H0.nxt H.os H0.os := by simp [z1a, Sk.find, one, z1j, z1o, z27, SV.renL, SV.ren, Obj.lt_row, SV.ltL, SV.lt, z14, zj, z16, zl, zp, zo, zt, zy, zq, z8, zi, zf, zx, zk, zd, zb, ze, Cl.sv, Pr.sv, ints, zn, zr, z13, z34]) (a6 : z6p ρ H0.os = true := by exact rfl) (a7 : z2a H0.os := by simp [z2a, one, Obj.own, z14, zj, z16, zl, zp, zo, zt, zy, zq, z8, zi, zf, zx, zk, zd, zb, ze, Cl.sv, Pr.sv, ints, zn, zr, z13, z34])
  (a8 : (H0.os.map (·.1)).Nodup := by simp) (a9 : ∀ x ∈ H0.os, (x.2.2 0).own = true → (Sk.find H.os (ρ x.1)).map (·.1) = some x.2.1 := by simp [one, Obj.own, Sk.find, z14, zj, z16, zl, zp, zo, zt, zy, zq, z8, zi, zf, zx, zk, zd, zb, ze, Cl.sv, Pr.sv, ints, zn, zr, z13, z34]) (a10 : dr = true → (z1p ρ H0.os).all (fun id => W.contains id) = true := by simp [z1p, one, Obj.own, z14, zj, z16, zl, zp, zo, zt, zy, zq, z8, zi, zf, zx, zk, zd, zb, ze, Cl.sv, Pr.sv, ints, zn, zr, z13, z34]) : callK P f args H dr W k :=
 z55 hF ρ a1 a2 a3 a4 a5 a6 a7 a8 a9 a10 hk
theorem z52 {s e e1 : SV} {H g g1 : AH} (h1 : s = e) (h2 : H = g) (a1 : e = e1 := by simp only [after, z5o, id, z2q, reduceCtorEq, Nat.reduceEqDiff, Nat.one_ne_zero, Nat.zero_ne_one, z3n, z23, z1p, one, Obj.own, Obj.ren, Row.ren, SV.ren, SV.renL, List.map_cons, List.map_nil, List.nil_append, List.cons_append, ↓reduceIte, Nat.reduceLT, Nat.reduceAdd, Nat.reduceSub, Nat.reduceEqDiff, Nat.add_zero, Bool.false_eq_true, Tryd.tyInt, Tryd.szInt, Tryd.zInt, Tryd.tyInts, Tryd.szInts, Tryd.tyErr, Tryd.szErr, Tryd.zErr, Tryd.tyBool, Tryd.szBool, Tryd.zBool, Tryd.tyStr, Tryd.szStr, Tryd.tyCl, Tryd.szCl, Tryd.zCl, Tryd.tyPr, Tryd.szPr, Tryd.zPr, Tryd.tyCls, Tryd.szCls, Tryd.tyPrs, Tryd.szPrs, Tryd.tyLs, Tryd.szLs, Tryd.zLs, z14, zj, z16, zl, zp, zo, zt, zy, zq, z4l, z4m, z4n, z4o, z4p, z4q, z4r, z4s, z4t, z4u, z4v, z4w, z1z, z20, Cl.sv, Pr.sv, zk, zd, z1c, z1r, z1y, Tryd.tyTape, Tryd.szTape, Tryd.zTape, zn, lsS, lsH, Tryd.tyBools, Tryd.szBools, z6a, z34, z1h, z26, z2t, z1h, lsS, lsH, z5g]; exact rfl) (a2 : g = g1 := by simp only [after, z5o, id, z2q, reduceCtorEq, Nat.reduceEqDiff, Nat.one_ne_zero, Nat.zero_ne_one, z3n, z23, z1p, one, Obj.own, Obj.ren, Row.ren, SV.ren, SV.renL, List.map_cons, List.map_nil, List.nil_append, List.cons_append, ↓reduceIte, Nat.reduceLT, Nat.reduceAdd, Nat.reduceSub, Nat.reduceEqDiff, Nat.add_zero, Bool.false_eq_true, Tryd.tyInt, Tryd.szInt, Tryd.zInt, Tryd.tyInts, Tryd.szInts, Tryd.tyErr, Tryd.szErr, Tryd.zErr, Tryd.tyBool, Tryd.szBool, Tryd.zBool, Tryd.tyStr, Tryd.szStr, Tryd.tyCl, Tryd.szCl, Tryd.zCl, Tryd.tyPr, Tryd.szPr, Tryd.zPr, Tryd.tyCls, Tryd.szCls, Tryd.tyPrs, Tryd.szPrs, Tryd.tyLs, Tryd.szLs, Tryd.zLs, z14, zj, z16, zl, zp, zo, zt, zy, zq, z4l, z4m, z4n, z4o, z4p, z4q, z4r, z4s, z4t, z4u, z4v, z4w, z1z, z20, Cl.sv, Pr.sv, zk, zd, z1c, z1r, z1y, Tryd.tyTape, Tryd.szTape, Tryd.zTape, zn, lsS, lsH, Tryd.tyBools, Tryd.szBools, z6a, z34, z1h, z26, z2t, z1h, lsS, lsH, z5g]; exact rfl) : s = e1 ∧ H = g1 := ⟨h1.trans a1, h2.trans a2⟩
theorem LmIm.g1 {X : Cx} {fr : Fr} {H : AH} {fr1 : Fr} {H1 : AH} (ρ : Nat → Nat) (a1 : z1g ρ H1.nxt fr fr1 := by simp [z1g, Sk.get, SV.ren, SV.renL, SV.lt, SV.ltL, z14, zj, z16, zl, zp, zo, zt, zy, zq, z8, zi, zf, zx, zk, zd, zb, ze, Cl.sv, Pr.sv, ints, zn, zr, z13, z34]) (a2 : z1a ρ H1.nxt H.os H1.os := by simp [z1a, Sk.find, one, z1j, z1o, SV.renL, SV.ren, Obj.lt_row, SV.ltL, SV.lt, z14, zj, z16, zl, zp, zo, zt, zy, zq, z8, zi, zf, zx, zk, zd, zb, ze, Cl.sv, Pr.sv, ints, zn, zr, z13, z34]) (a3 : z6p ρ H1.os = true := by exact rfl)
  (a4 : z2a H1.os := by simp [z2a, one, z14, zj, z16, zl, zp, zo, zt, zy, zq, z8, zi, zf, zx, zk, zd, zb, ze, Cl.sv, Pr.sv, ints, zn, zr, z13, z34]) (a5 : (List.range X.m0).all (fun id => ρ id == id) = true := by exact rfl) (a6 : X.m0 ≤ H1.nxt := by exact Nat.le_of_ble_eq_true rfl) (a7 : z2a H.os := by simp [z2a, one, Obj.own, z14, zj, z16, zl, zp, zo, zt, zy, zq, z8, zi, zf, zx, zk, zd, zb, ze, Cl.sv, Pr.sv, ints, zn, zr, z13, z34])
  (a8 : z2o X.m0 H.os H1.os := by simp [z2o, one, Obj.own, Sk.find, z14, zj, z16, zl, zp, zo, zt, zy, zq, z8, zi, zf, zx, zk, zd, zb, ze, Cl.sv, Pr.sv, ints, zn, zr, z13, z34]) (a9 : bigB X.m0 ρ H1.os = true := by exact rfl) : z24 X ρ fr H fr1 H1 := z24.mk' ρ a1 a2 a3 a4 a5 a6 a7 a8 a9
theorem LmIm.g0 {X : Cx} {fr : Fr} {H : AH} {fr1 : Fr} {H1 : AH} (ρ : Nat → Nat) (a1 : z1g ρ H1.nxt fr fr1 := by simp [z1g, Sk.get, z3t, SV.lt, SV.ltL, z14, zj, z16, zl, zp, zo, zt, zy, zq, z8, zi, zf, zx, zk, zd, zb, ze, Cl.sv, Pr.sv, ints, zn, zr, z13, z34]) (a2 : z1a ρ H1.nxt H.os H1.os := by simp [z1a, Sk.find, one, z1j, z1o, z27, Obj.lt_row, SV.ltL, SV.lt, z14, zj, z16, zl, zp, zo, zt, zy, zq, z8, zi, zf, zx, zk, zd, zb, ze, Cl.sv, Pr.sv, ints, zn, zr, z13, z34]) (a3 : z6p ρ H1.os = true := by exact rfl)
  (a4 : z2a H1.os := by simp [z2a, one, z14, zj, z16, zl, zp, zo, zt, zy, zq, z8, zi, zf, zx, zk, zd, zb, ze, Cl.sv, Pr.sv, ints, zn, zr, z13, z34]) (a5 : (List.range X.m0).all (fun id => ρ id == id) = true := by exact rfl) (a6 : X.m0 ≤ H1.nxt := by exact Nat.le_of_ble_eq_true rfl) (a7 : z2a H.os := by simp [z2a, one, Obj.own, z14, zj, z16, zl, zp, zo, zt, zy, zq, z8, zi, zf, zx, zk, zd, zb, ze, Cl.sv, Pr.sv, ints, zn, zr, z13, z34])
  (a8 : z2o X.m0 H.os H1.os := by simp [z2o, one, Obj.own, Sk.find, z14, zj, z16, zl, zp, zo, zt, zy, zq, z8, zi, zf, zx, zk, zd, zb, ze, Cl.sv, Pr.sv, ints, zn, zr, z13, z34]) (a9 : bigB X.m0 ρ H1.os = true := by exact rfl) : z24 X ρ fr H fr1 H1 := z24.mk' ρ a1 a2 a3 a4 a5 a6 a7 a8 a9
theorem LmIm.r3 {a : Prop} (h : a := by simp [z5u, one, Obj.own, z14, zj, z16, zl, zp, zo, zt, zy, zq, z8, zi, zf, zx, zk, zd, zb, ze, Cl.sv, Pr.sv, ints, zn, zr, z13, z34]) : a := h
theorem z18 {a b c : Prop} (r : a → c) (h : b) (e : a = b := by simp only [stp, isQ, z5c, Sk.get, Sk.put, z3e, z1v, ↓reduceIte, reduceCtorEq, Nat.reduceEqDiff, true_and, and_true, true_implies, implies_true, forall_const, imp_self, Bool.false_eq_true, false_implies, false_and, and_false, Bool.false_and, Bool.and_false, qop, grdK, List.getElem?_toArray, List.getElem?_cons_zero, List.getElem?_cons_succ, beq_true, beq_false, beq_self_eq_true, Bool.and_true, Bool.true_and, Bool.not_true, Bool.not_false, Bool.not_not, Bool.and_eq_true, Bool.not_eq_true', Bool.not_eq_false', z2j, Bool.cond_true_left, Bool.cond_false_left, Bool.cond_true_right, Bool.cond_false_right, cond_true, cond_false, and_imp, z5m, Sk.find, one, Kd.agg, List.contains_nil, List.contains_cons, Nat.reduceBEq, Bool.or_false, Bool.true_or, Bool.or_true, Bool.false_or, ite_self, Nat.lt_one_iff, Nat.zero_add, Nat.add_zero, Nat.reduceAdd, Nat.reduceMul, Nat.reduceSub, Nat.reduceLT, Nat.reduceLeDiff, Nat.le_refl, Nat.zero_le, ne_eq, Nat.one_ne_zero, not_false_eq_true, not_true_eq_false, Int.toNat_natCast, Int.reduceToNat, List.length_cons, List.length_nil, and_self, Kd.slice.injEq, exists_eq', Option.map_some, Option.some.injEq, List.drop_zero, List.drop_succ_cons, List.take_succ_cons, List.take_zero, List.take_nil, List.drop_nil, List.nil_append, List.cons_append, List.append_nil, List.append_eq, List.all_cons, List.all_nil, spl, z3k, SV.cells, SV.scalar, binK, z70, z6z, intK, z3v, strK, z4a, z6y, z58, unK, z6r, z4d, z4e, z6l, z4f, z4g, optK, z4i, bndK, Option.isSome_some, Option.isSome_none, Nat.sub_zero, or_true, true_or, z49, z4c, z6b, z4z, lenK, z2k.len, z62, mmK, z32, eop, copyK, srcK, z2u, setO, z54, z3c, z2q, z43, boxK, z3d, z3z, z4j, updF, mkK, z6j, z2k.ofKd, z6k, z2k.add, z2k.okKd, z4h, z2k.has, Tryd.tyInt, Tryd.szInt, Tryd.zInt, Tryd.tyInts, Tryd.szInts, Tryd.tyErr, Tryd.szErr, Tryd.zErr, Tryd.tyBool, Tryd.szBool, Tryd.zBool, Tryd.tyStr, Tryd.szStr, Tryd.tyCl, Tryd.szCl, Tryd.zCl, Tryd.tyPr, Tryd.szPr, Tryd.zPr, Tryd.tyCls, Tryd.szCls, Tryd.tyPrs, Tryd.szPrs, Tryd.tyLs, Tryd.szLs, Tryd.zLs, z14, zj, z16, zl, zp, zo, zt, zy, zq, z4l, z4m, z4n, z4o, z4p, z4q, z4r, z4s, z4t, z4u, z4v, z4w, z1z, z20, Cl.sv, Pr.sv, zk, zd, z1c, z1r, z1y, ints, Tryd.tyTape, Tryd.szTape, Tryd.zTape, zn, lsS, lsH, Tryd.tyBools, Tryd.szBools, z6a, z34]; exact rfl) : c := r (Eq.mpr e h)
set_option maxHeartbeats 8000000 in
theorem moments_spec (ls : List Int) (hx : ls.length ≤ 9223372036854775807) :
  z19 Tryd.prog 6 [.slc false 0 0 0 ls.length] ⟨1, [(0, zk ls)]⟩ (fun s _ => s = .bool true) := by
 refine z19.ofC false 197 [.tmp 2] Tryd.func6 rfl rfl Tryd.ntmps6 Tryd.results6 rfl ?_;intro w0 own0 β0 Q hQ hQn;simp only [z2e];refine Cs.seq ?_;refine Cs.reg [0] rfl ?_;intro K hK;(refine z18 z5 ?_; repeat (with_reducible apply ai;exact z4));refine z7 (z6 (hK _ _ ?_)); clear hK K;refine Cs.seq ?_;refine Cs.reg [3] rfl ?_;intro K hK;(refine z18 z5 ?_; repeat (with_reducible apply ai;exact z4));refine z18 z5 ?_;repeat (with_reducible apply ai;exact z4)
 refine z53 (new_spec ls hx) (id) ?_;rintro s0 H0 ⟨m, hm, rfl, rfl⟩ s1 H1 hs1 hH1;obtain ⟨hs2, hH2⟩ := z52 hs1 hH1;clear hs1 hH1;subst hs2 hH2;repeat (with_reducible apply ai;exact z4)
 (refine z18 z5 ?_; repeat (with_reducible apply ai;exact z4));refine z7 (z6 (hK _ _ ?_)); clear hK K;refine Cs.seq ?_;refine Cs.reg [3, 4, 5] rfl ?_;intro K hK;(refine z18 z5 ?_; repeat (with_reducible apply ai;exact z4));refine z18 z5 ?_;repeat (with_reducible apply ai;exact z4)
 refine z53 (made_spec ls m 0 hx hm (Nat.zero_le _)) (fun k => if k = 0 then 1 else 0) ?_;rintro s0 H0 ⟨keys, inn, np, at1, ⟨ha1, hmk⟩, rfl, rfl⟩ s1 H1 hs1 hH1;obtain ⟨hs2, hH2⟩ := z52 hs1 hH1;clear hs1 hH1;subst hs2 hH2;repeat (with_reducible apply ai;exact z4)
 have hk6 := hmk.len;have hp4 := hmk.four;have hI0 := inv_made hmk;iterate 6 (refine z18 z5 ?_; repeat (with_reducible apply ai;exact z4))
 refine z7 (z6 (hK _ _ ?_)); clear hK K;refine Cs.seq ?_;refine Cs.seq ?_;refine Cs.reg [3, 4, 23] rfl ?_;intro K hK;iterate 2 (refine z18 z5 ?_; repeat (with_reducible apply ai;exact z4))
 refine z7 (z6 (hK _ _ ?_)); clear hK K;refine Cs.cond _ rfl ?_ ?_
 ·intro h23
  exfalso; cases h23
 ·intro h23
  
  refine Cs.skip ?_;refine Cs.seq ?_;have hcl := z15 keys inn keys.length;have hpl : (List.replicate np noPr).length = np := List.length_replicate;have hM0 : ∀ (j : Nat) w m, MJ (newK keys inn keys.length) (pr (List.replicate np noPr) j) w m := fun j w m => by rw [noPr_at]; exact MJ.made ..
  generalize newK keys inn keys.length = cs0 at *
  generalize List.replicate np noPr = ps0 at *
  generalize ordN keys inn keys.length = l0 at *
  rw [← hcl, ← hpl];rw [← hpl] at hp4;refine Cs.regTree [3, 4, 6, 7] (.op 0 (.op 1 (.op 2 (.op 4 (.op 5 (.op 6 (.two 3 7 (.op 8 (.op 7 (.op 9 .done))) (.op 3 (.op 8 (.op 9 .done)))))))))) [[], [0], [0, 1], [0, 1, 2], [], [4], [4, 5], [4, 5, 6], [0, 1, 2, 3], [0, 1, 2, 3, 4, 5, 6, 7, 8]] [[], [], [], [], [], [], [], [], [], []] [[], [], [], [], [], [], [], [], [], []] Tryd.mo rfl rfl (by kernel_rfl) (by kernel_rfl) (by kernel_rfl) rfl (by kernel_rfl) ?_;intro K hK hG
  have hk5 : K [(3, .ptr 1 0 0 0), (4, .ptr 4 0 0 0), (6, .slc true 5 0 0 ps0.length), (7, .slc true 6 0 0 ps0.length)] ⟨7, [(1, zn 0 m at1), (6, one (.row ⟨true, false, 4, 1, ps0.length, fun _ => [.bool false]⟩)), (5, one (.row ⟨true, false, 4, 1, ps0.length, fun _ => [.bool false]⟩)), (4, zo 2 cs0.length 3 ps0.length), (3, zl ps0), (2, zj cs0), (0, zk ls)]⟩ := by
   refine hK _ _ ?_;clear hG hK K;refine Cs.seq ?_;refine Cs.seq ?_;rw [bos_rep ps0.length];refine Cs.reg [3, 4, 6, 7, 8] rfl ?_;intro K hK;(refine z18 z5 ?_; repeat (with_reducible apply ai;exact z4));refine z7 (z6 (hK _ _ ?_)); clear hK K;refine Cs.block ?_;intro Q0 hN0 hX0 hR0 hE0;refine Cs.loop (σ := (List Cl × List Pr) × (List Bool × List Bool) × Nat × Nat) (fun σ => ((∃ l, Inv σ.1.1 σ.1.2 l) ∧ ((σ.1.2.length = ps0.length ∧ σ.1.1.length ≤ 8) ∧ σ.2.1.1.length = ps0.length ∧ σ.2.1.2.length = ps0.length) ∧ ∀ j, j < σ.1.2.length → MJ σ.1.1 (pr σ.1.2 j) (bAt σ.2.1.1 j) (bAt σ.2.1.2 j)) ∧ σ.2.2.1 ≤ m ∧ σ.2.2.2 ≤ 110) (fun σ => 110 - σ.2.2.2) (fun σ => [(3, .ptr 1 0 0 0), (4, .ptr 4 0 0 0), (6, .slc true 5 0 0 ps0.length), (7, .slc true 6 0 0 ps0.length), (8, .int .i64 σ.2.2.2)]) (fun σ => ⟨7, [(1, zn 0 m σ.2.2.1), (6, z34 ps0.length σ.2.1.2), (5, z34 ps0.length σ.2.1.1), (4, zo 2 σ.1.1.length 3 σ.1.2.length), (3, zl σ.1.2), (2, zj σ.1.1), (0, zk ls)]⟩) ((cs0, ps0), (List.replicate ps0.length false, List.replicate ps0.length false), at1, 0) ⟨⟨⟨l0, hI0⟩, ⟨⟨rfl, by dsimp only; omega⟩, List.length_replicate, List.length_replicate⟩, fun j _ => hM0 j _ _⟩, ha1, Nat.zero_le _⟩ (ρ := id) (LmIm.g0 id) ?_;rintro ⟨⟨cs, ps⟩, ⟨W, M⟩, at2, i⟩ hi QL1 hL1 hRL1 hEL1;refine Cs.seq ?_;refine Cs.seq ?_;refine Cs.reg [3, 4, 6, 7, 8, 37] rfl ?_;intro K hK
   have hk7 : (((∃ l, Inv cs ps l) ∧ ((ps.length = ps0.length ∧ cs.length ≤ 8) ∧ W.length = ps0.length ∧ M.length = ps0.length) ∧ ∀ j, j < ps.length → MJ cs (pr ps j) (bAt W j) (bAt M j)) ∧ at2 ≤ m ∧ i ≤ 110) → ∀ B : Bool, (B = true → i < 110) → K [(3, .ptr 1 0 0 0), (4, .ptr 4 0 0 0), (6, .slc true 5 0 0 ps0.length), (7, .slc true 6 0 0 ps0.length), (8, .int .i64 i), (37, .bool B)] ⟨7, [(1, zn 0 m at2), (6, z34 ps0.length M), (5, z34 ps0.length W), (4, zo 2 cs.length 3 ps.length), (3, zl ps), (2, zj cs), (0, zk ls)]⟩ := by
    clear hi;intro hi B hB;obtain ⟨⟨⟨l1, hI⟩, ⟨⟨hpn, hcn⟩, hWn, hMn⟩, hMJ⟩, hi3, hi4⟩ := hi;have hln := hI.lens;refine hK _ _ ?_;clear hK K;refine Cs.cond _ rfl ?_ ?_
    ·intro h37;have hi90 := hB h37;refine Cs.skip ?_;refine Cs.seq ?_;refine Cs.block ?_;intro Q1 hN1 hX1 hR1 hE1;refine Cs.seq ?_;refine Cs.reg [3, 4, 6, 7, 8, 9] rfl ?_;intro K hK;iterate 4 (refine z18 z5 ?_; repeat (with_reducible apply ai;exact z4))
     refine z18 z5 ?_;repeat (with_reducible apply ai;exact z4)
     refine z53 (z25 ls m at2 ps.length hx hm hi3 (by omega)) (fun k => if k = 0 then 1 else 0) ?_;rintro s0 H0 ⟨q, at3, g1, g2, g3, g4, rfl, rfl⟩ s1 H1 hs1 hH1;obtain ⟨hs2, hH2⟩ := z52 hs1 hH1;clear hs1 hH1;subst hs2 hH2;repeat (with_reducible apply ai;exact z4)
     have g5 := g3 (by omega);(refine z18 z5 ?_; repeat (with_reducible apply ai;exact z4));refine z7 (z6 (hK _ _ ?_)); clear hK K;refine Cs.seq ?_;refine Cs.seq ?_;refine Cs.regTree [3, 4, 6, 7, 8, 9, 10, 11] (.op 0 (.op 1 (.op 2 (.op 5 (.op 6 (.op 7 (.op 8 (.two 3 15 (.op 4 (.two 9 15 (.op 10 (.two 11 15 (.op 12 (.op 13 (.op 14 (.op 15 (.op 16 (.op 17 .done)))))) (.op 11 (.op 12 (.op 13 (.op 14 (.op 16 (.op 17 .done)))))))) (.op 9 (.op 10 (.op 11 (.op 12 (.op 13 (.op 14 (.op 16 (.op 17 .done)))))))))) (.op 3 (.op 4 (.op 9 (.op 10 (.op 11 (.op 12 (.op 13 (.op 14 (.op 16 (.op 17 .done)))))))))))))))))) [[], [], [], [2], [2, 3], [], [], [6], [6, 7], [2, 3, 5, 6, 7, 8], [2, 3, 5, 6, 7, 8, 9], [0, 1, 2, 3, 4, 5, 6, 7, 8, 9, 10], [0, 1, 2, 3, 4, 5, 6, 7, 8, 9, 10, 11], [0, 1, 2, 3, 4, 5, 6, 7, 8, 9, 10, 11, 12], [0, 1, 2, 3, 4, 5, 6, 7, 8, 9, 10, 11, 12], [], [0, 1, 2, 3, 4, 5, 6, 7, 8, 9, 10, 11, 12, 13, 15], [0, 1, 2, 3, 4, 5, 6, 7, 8, 9, 10, 11, 12, 13, 14, 15, 16]] [[], [], [], [1], [], [], [], [], [], [1], [], [], [], [], [], [], [], []] [[1], [1], [], [1], [1], [1], [1], [1], [1], [1], [1], [1], [1], [1], [1], [1], [1], [1]] Tryd.mo rfl rfl (by kernel_rfl) (by kernel_rfl) (by kernel_rfl) rfl (by kernel_rfl) ?_;intro K hK hG
     have hk10 : ∀ (kind cell : Int) (at4 : Nat), (at4 ≤ m ∧ 1 ≤ kind ∧ kind ≤ 3 ∧ 2 ≤ cell) → K [(3, .ptr 1 0 0 0), (4, .ptr 4 0 0 0), (6, .slc true 5 0 0 ps0.length), (7, .slc true 6 0 0 ps0.length), (8, .int .i64 i), (9, .int .i64 q), (10, .ptr 9 0 0 0), (11, .int .i64 (z36 cs ps q kind cell))] ⟨10, [(9, zo 7 (z2d cs ps q kind cell).1.length 8 (z2d cs ps q kind cell).2.length), (1, zn 0 m at4), (8, zl (z2d cs ps q kind cell).2), (7, zj (z2d cs ps q kind cell).1), (6, z34 ps0.length M), (5, z34 ps0.length W), (4, zo 2 cs.length 3 ps.length), (3, zl ps), (2, zj cs), (0, zk ls)]⟩ := by
      intro kind cell at4 hkc;obtain ⟨f1, f2, f3, f4⟩ := hkc;refine hK _ _ ?_;clear hG hK K;refine Cs.seq ?_;refine Cs.regG [3, 4, 6, 7, 8, 9, 10, 65] rfl ?_;intro K hK hG
      have hk11 : ∀ (at5 : Nat) (B : Bool), (at5 ≤ m ∧ (B = true → z36 cs ps q kind cell = 0)) → K [(3, .ptr 1 0 0 0), (4, .ptr 4 0 0 0), (6, .slc true 5 0 0 ps0.length), (7, .slc true 6 0 0 ps0.length), (8, .int .i64 i), (9, .int .i64 q), (10, .ptr 9 0 0 0), (65, .bool B)] ⟨10, [(1, zn 0 m at5), (9, zo 7 (z2d cs ps q kind cell).1.length 8 (z2d cs ps q kind cell).2.length), (8, zl (z2d cs ps q kind cell).2), (7, zj (z2d cs ps q kind cell).1), (6, z34 ps0.length M), (5, z34 ps0.length W), (4, zo 2 cs.length 3 ps.length), (3, zl ps), (2, zj cs), (0, zk ls)]⟩ := by
       intro at5 B2 hB2;obtain ⟨hB3, hB4⟩ := hB2;refine hK _ _ ?_;clear hG hK K;refine Cs.meet (σ := (List Cl × List Pr) × (List Bool × List Bool)) (fun σ => (∃ l, Inv σ.1.1 σ.1.2 l) ∧ ((σ.1.2.length = ps0.length ∧ σ.1.1.length ≤ 8) ∧ σ.2.1.length = ps0.length ∧ σ.2.2.length = ps0.length) ∧ ∀ j, j < ps0.length → PreJ σ.1.1 σ.1.2 (z1b σ.1.1 σ.1.2) q j (bAt σ.2.1 j) (bAt σ.2.2 j)) (fun σ => [(3, .ptr 1 0 0 0), (4, .ptr 4 0 0 0), (6, .slc true 5 0 0 ps0.length), (7, .slc true 6 0 0 ps0.length), (8, .int .i64 i), (9, .int .i64 q)]) (fun σ => ⟨9, [(1, zn 0 m at5), (6, z34 ps0.length σ.2.2), (5, z34 ps0.length σ.2.1), (4, zo 7 σ.1.1.length 8 σ.1.2.length), (8, zl σ.1.2), (7, zj σ.1.1), (0, zk ls)]⟩) _ rfl ?_ ?_ ?_
       ·intro h65 QM hM65 hR65 hE65;have he0 := hB4 h65;refine Cs.reg [3, 4, 6, 7, 8, 9] rfl ?_;intro K hK;iterate 8 (refine z18 z5 ?_; repeat (with_reducible apply ai;exact z4))
        rw [bos_put (by omega)];repeat (with_reducible apply ai;exact z4)
        iterate 2 (refine z18 z5 ?_; repeat (with_reducible apply ai;exact z4))
        rw [bos_put (by omega)];repeat (with_reducible apply ai;exact z4)
        refine z7 (z6 (hK _ _ ?_)); clear hK K;refine Cs.nil ?_;refine hM65 _ _ ?_;obtain ⟨k1, k2, k3⟩ := PreJ.start hI he0 (by omega) (by omega) hMJ;exact ⟨(z2d cs ps q kind cell, (W.set q.toNat false, M.set q.toNat false)), ⟨k1, ⟨⟨by dsimp only; omega, by have := (startR_len cs ps q kind cell).1; dsimp only; omega⟩, by rw [List.length_set]; omega, by rw [List.length_set]; omega⟩, fun j hj => k3 j (by omega)⟩, id, (LmIm.g0 id)⟩
       ·intro h65 QM hM65 hR65 hE65
        
        refine Cs.reg [3, 4, 6, 7, 8, 9] rfl ?_;intro K hK;iterate 2 (refine z18 z5 ?_; repeat (with_reducible apply ai;exact z4))
        refine z18 z5 ?_;repeat (with_reducible apply ai;exact z4)
        refine z53 (stepL_spec cs ps cs.length ps.length rfl rfl (by omega) (by omega) q) (fun k => k + 2) ?_;rintro s0 H0 ⟨rfl, rfl⟩ s1 H1 hs1 hH1;obtain ⟨hs2, hH2⟩ := z52 hs1 hH1;clear hs1 hH1;subst hs2 hH2;repeat (with_reducible apply ai;exact z4)
        iterate 4 (refine z18 z5 ?_; repeat (with_reducible apply ai;exact z4))
        refine z7 (z6 (hK _ _ ?_)); clear hK K;refine Cs.nil ?_;refine hM65 _ _ ?_;obtain ⟨k1, k2, k3⟩ := PreJ.step (q := q) hI hMJ;exact ⟨(z3u cs ps q, (W, M)), ⟨k1, ⟨⟨by dsimp only; omega, by have := (stepR_len cs ps q).1; dsimp only; omega⟩, by omega, by omega⟩, fun j hj => k3 j (by omega)⟩, fun k => if k = 7 then 10 else if k = 8 then 11 else k, (LmIm.g1 (fun k => if k = 7 then 10 else if k = 8 then 11 else k))⟩
       rintro ⟨⟨xs, ys⟩, ⟨W1, M1⟩⟩ hs;obtain ⟨⟨l2, hI2⟩, ⟨⟨hyn, hxn⟩, hWn1, hMn1⟩, hPre⟩ := hs;dsimp only at hI2 hyn hxn hWn1 hMn1 hPre;have hln2 := hI2.lens;have hm2 := membersK_most xs ys;clear hMJ hI hWn hMn hB4 hln g3 g4 f2 f3 f4 hI0 hcl hk6 hM0 h37 hB;refine Cs.seq ?_;refine Cs.seq ?_;refine Cs.reg [3, 4, 6, 7, 8, 9, 84] rfl ?_;intro K hK;iterate 6 (refine z18 z5 ?_; repeat (with_reducible apply ai;exact z4))
       refine z7 (z6 (hK _ _ ?_)); clear hK K;refine Cs.cond _ rfl ?_ ?_
       ·intro h84
        exfalso; simp at h84; omega
       ·intro h84
        
        refine Cs.skip ?_;refine Cs.seq ?_;refine Cs.reg [3, 4, 6, 7, 8, 9, 12] rfl ?_;intro K hK;(refine z18 z5 ?_; repeat (with_reducible apply ai;exact z4));refine z18 z5 ?_;repeat (with_reducible apply ai;exact z4)
        refine z53 (members_spec xs ys xs.length ys.length rfl rfl (by omega) (by omega)) (fun k => k + 7) ?_;rintro s0 H0 ⟨rfl, rfl⟩ s1 H1 hs1 hH1;obtain ⟨hs2, hH2⟩ := z52 hs1 hH1;clear hs1 hH1;subst hs2 hH2;repeat (with_reducible apply ai;exact z4)
        (refine z18 z5 ?_; repeat (with_reducible apply ai;exact z4));refine z7 (z6 (hK _ _ ?_)); clear hK K;refine Cs.seq ?_;refine Cs.reg [3, 4, 6, 7, 8, 9, 12, 13] rfl ?_;intro K hK;(refine z18 z5 ?_; repeat (with_reducible apply ai;exact z4));refine z7 (z6 (hK _ _ ?_)); clear hK K;refine Cs.block ?_;intro Q2 hN2 hX2 hR2 hE2;refine Cs.loop (σ := (List Bool × List Bool) × Nat) (fun σ => (σ.1.1.length = ps0.length ∧ σ.1.2.length = ps0.length) ∧ σ.2 ≤ ps0.length ∧ (∀ j, j < σ.2 → MJ xs (pr ys j) (bAt σ.1.1 j) (bAt σ.1.2 j)) ∧ (∀ j, σ.2 ≤ j → j < ps0.length → PreJ xs ys (z1b xs ys) q j (bAt σ.1.1 j) (bAt σ.1.2 j))) (fun σ => ps0.length - σ.2) (fun σ => [(3, .ptr 1 0 0 0), (4, .ptr 4 0 0 0), (6, .slc true 5 0 0 ps0.length), (7, .slc true 6 0 0 ps0.length), (8, .int .i64 i), (9, .int .i64 q), (12, .slc true 9 0 0 (z1b xs ys).length), (13, .int .i64 σ.2)]) (fun σ => ⟨10, [(9, zd (z1b xs ys)), (1, zn 0 m at5), (6, z34 ps0.length σ.1.2), (5, z34 ps0.length σ.1.1), (4, zo 7 xs.length 8 ys.length), (8, zl ys), (7, zj xs), (0, zk ls)]⟩) ((W1, M1), 0) ⟨⟨hWn1, hMn1⟩, Nat.zero_le _, fun j hj => absurd hj (Nat.not_lt_zero j), fun j _ hj => hPre j hj⟩ (ρ := id) (LmIm.g0 id) ?_;rintro ⟨⟨W2, M2⟩, J⟩ hj QL2 hL2 hRL2 hEL2;refine Cs.seq ?_;refine Cs.seq ?_;refine Cs.reg [3, 4, 6, 7, 8, 9, 12, 13, 91] rfl ?_;intro K hK;iterate 5 (refine z18 z5 ?_; repeat (with_reducible apply ai;exact z4))
        refine z7 (z6 (hK _ _ ?_)); clear hK K;refine Cs.cond _ rfl ?_ ?_
        ·intro h91;obtain ⟨⟨j1, j2⟩, j3, j4, j5⟩ := hj;dsimp only at j1 j2 j3 j4 j5;replace h91 := z9 h91;have hJn : J < ps0.length := by omega
         clear hPre h91;refine Cs.skip ?_;refine Cs.seq ?_;refine Cs.block ?_;intro Q3 hN3 hX3 hR3 hE3;refine Cs.seq ?_;refine Cs.reg [3, 4, 6, 7, 8, 9, 12, 13, 14] rfl ?_;intro K hK;iterate 7 (refine z18 z5 ?_; repeat (with_reducible apply ai;exact z4))
         refine z7 (z6 (hK _ _ ?_)); clear hK K;refine Cs.seq ?_;refine Cs.seq ?_;refine Cs.reg [3, 4, 6, 7, 8, 9, 12, 13, 14, 105] rfl ?_;intro K hK;(refine z18 z5 ?_; repeat (with_reducible apply ai;exact z4));refine z18 z5 ?_;repeat (with_reducible apply ai;exact z4)
         refine z53 (z6d (pr ys J)) (id) ?_;rintro s0 H0 ⟨rfl, rfl⟩ s1 H1 hs1 hH1;obtain ⟨hs2, hH2⟩ := z52 hs1 hH1;clear hs1 hH1;subst hs2 hH2;repeat (with_reducible apply ai;exact z4)
         iterate 5 (refine z18 z5 ?_; repeat (with_reducible apply ai;exact z4))
         refine z7 (z6 (hK _ _ ?_)); clear hK K;refine Cs.meet (σ := List Bool × List Bool) (fun σ => (σ.1.length = ps0.length ∧ σ.2.length = ps0.length) ∧ MJ xs (pr ys J) (bAt σ.1 J) (bAt σ.2 J) ∧ ∀ j, j ≠ J → bAt σ.1 j = bAt W2 j ∧ bAt σ.2 j = bAt M2 j) (fun σ => [(3, .ptr 1 0 0 0), (4, .ptr 4 0 0 0), (6, .slc true 5 0 0 ps0.length), (7, .slc true 6 0 0 ps0.length), (8, .int .i64 i), (9, .int .i64 q), (12, .slc true 9 0 0 (z1b xs ys).length), (13, .int .i64 J), (14, .ptr 10 0 0 0)]) (fun σ => ⟨11, [(10, one (.row ⟨true, true, 52, 7, 1, fun _ => (pr ys J).sv⟩)), (9, zd (z1b xs ys)), (1, zn 0 m at5), (6, z34 ps0.length σ.2), (5, z34 ps0.length σ.1), (4, zo 7 xs.length 8 ys.length), (8, zl ys), (7, zj xs), (0, zk ls)]⟩) _ rfl ?_ ?_ ?_
         ·intro h105 QM hM105 hR105 hE105;have hcq : cQ ys q J = true := h105;refine Cs.regDraw [3, 4, 6, 7, 8, 9, 12, 13, 14] [0, 1, 2, 3, 4, 5, 6, 7, 8, 9, 10, 11, 14, 15, 16, 17, 12, 13, 18, 19, 20, 21, 22, 23, 24, 25, 26, 27, 28] [[], [], [], [], [], [], [4, 5], [4, 5, 6], [4, 5, 6, 7], [4, 5, 6, 7, 8], [4, 5, 6, 7, 8], [4, 5, 6, 7, 8, 10], [4, 5, 6, 7, 8, 9, 10, 11], [4, 5, 6, 7, 8, 9, 10, 11, 12], [], [], [14, 15], [14, 15, 16], [4, 5, 6, 7, 8, 9, 10, 11, 12, 14, 15, 16, 17], [4, 5, 6, 7, 8, 9, 10, 11, 12, 14, 15, 16, 17, 18], [4, 5, 6, 7, 8, 9, 10, 11, 12, 14, 15, 16, 17, 18], [4, 5, 6, 7, 8, 9, 10, 11, 12, 14, 15, 16, 17, 18, 20], [4, 5, 6, 7, 8, 9, 10, 11, 12, 14, 15, 16, 17, 18, 19, 20, 21], [4, 5, 6, 7, 8, 9, 10, 11, 12, 14, 15, 16, 17, 18, 19, 20, 21, 22], [4, 5, 6, 7, 8, 9, 10, 11, 12, 14, 15, 16, 17, 18, 19, 20, 21, 22, 23], [0, 1, 4, 5, 6, 7, 8, 9, 10, 11, 12, 13, 14, 15, 16, 17, 18, 19, 20, 21, 22], [0, 1, 4, 5, 6, 7, 8, 9, 10, 11, 12, 13, 14, 15, 16, 17, 18, 19, 20, 21, 22, 25], [0, 1, 2, 3, 4, 5, 6, 7, 8, 9, 10, 11, 12, 13, 14, 15, 16, 17, 18, 19, 20, 21, 22, 23, 24, 25, 26], [0, 1, 2, 3, 4, 5, 6, 7, 8, 9, 10, 11, 12, 13, 14, 15, 16, 17, 18, 19, 20, 21, 22, 23, 24, 25, 26, 27]] [[], [], [], [], [], [], [], [], [], [], [], [], [], [], [], [], [], [], [], [], [], [], [], [], [], [], [5], [], [6]] [[], [], [5], [5], [], [], [], [], [], [], [], [], [], [], [], [], [], [], [], [], [], [], [], [5], [5], [], [5], [5], [5, 6]] Tryd.mo rfl rfl rfl (by kernel_rfl) (by kernel_rfl) (by kernel_rfl) rfl (by kernel_rfl) ?_
          intro K hK
          have hk22 : ∀ B C : Bool, (B = (bAt W2 J || hasB (z1b xs ys) (pr ys J).cell) ∧ C = (bAt M2 J || !hasB (z1b xs ys) (pr ys J).cell)) → K [(3, .ptr 1 0 0 0), (4, .ptr 4 0 0 0), (6, .slc true 5 0 0 ps0.length), (7, .slc true 6 0 0 ps0.length), (8, .int .i64 i), (9, .int .i64 q), (12, .slc true 9 0 0 (z1b xs ys).length), (13, .int .i64 J), (14, .ptr 10 0 0 0)] ⟨11, [(10, one (.row ⟨true, true, 52, 7, 1, fun _ => (pr ys J).sv⟩)), (9, zd (z1b xs ys)), (1, zn 0 m at5), (6, z34 ps0.length (M2.set J C)), (5, z34 ps0.length (W2.set J B)), (4, zo 7 xs.length 8 ys.length), (8, zl ys), (7, zj xs), (0, zk ls)]⟩ := by
           intro B3 C3 hBC;obtain ⟨hB5, hC5⟩ := hBC;refine hK _ _ ?_;clear hK K;refine Cs.nil ?_;refine hM105 _ _ ?_;have hpj := j5 J (Nat.le_refl _) hJn;unfold PreJ at hpj;rw [hcq, Bool.true_and, Bool.true_and, ← hB5, ← hC5] at hpj;refine ⟨(W2.set J B3, M2.set J C3), ⟨⟨by rw [List.length_set]; exact j1, by rw [List.length_set]; exact j2⟩, ?_, fun j hj => ?_⟩, id, (LmIm.g0 id)⟩
           ·dsimp only;rw [bAt_setB j1 hJn, bAt_setB j2 hJn, if_pos rfl, if_pos rfl]; exact hpj
           ·dsimp only;rw [bAt_setB j1 hJn, bAt_setB j2 hJn, if_neg hj, if_neg hj]; exact ⟨rfl, rfl⟩
          (refine z18 (za _ [] [] rfl rfl rfl) ?_; repeat (with_reducible apply ai;exact z4));clear j3 j4 j5 hI2 hyn hi90 hi4 hi3 hB3 ha1 g1 g2 g5 h84;repeat (with_reducible apply ai;exact z4)
          (refine z18 (za _ [] [] rfl rfl rfl) ?_; repeat (with_reducible apply ai;exact z4));iterate 2 (refine z18 (za _ [] [5] rfl rfl rfl) ?_; repeat (with_reducible apply ai;exact z4))
          iterate 12 (refine z18 (za _ [] [] rfl rfl rfl) ?_; repeat (with_reducible apply ai;exact z4))
          refine za _ [] [] rfl rfl rfl ?_;refine z2i rfl rfl ?_;refine z2h ?_
          first | refine z2b ?_ ?_ | refine (fun (h1 : false = true → _) (h2 : false = false → _) => And.intro h1 fun _ => h2 rfl) ?_ ?_
          ·intro hg12
           first
            |(simp at hg12; done)
            |skip
             try replace hg12 := z9 hg12
             refine z18 id ?_;repeat (with_reducible apply ai;exact z4)
             refine z53 (lhas_spec (z1b xs ys) (pr ys J).cell (z1b xs ys).length rfl (by omega)) (fun k => k + 9) ?_;rintro s0 H0 ⟨rfl, rfl⟩ s1 H1 hs1 hH1;obtain ⟨hs2, hH2⟩ := z52 hs1 hH1;clear hs1 hH1;subst hs2 hH2;repeat (with_reducible apply ai;exact z4)
             (refine z18 (za _ [] [] rfl rfl rfl) ?_; repeat (with_reducible apply ai;exact z4))
             try with_reducible refine And.intro (by clear hk22; simp_all; done) ?_
             repeat (with_reducible apply ai;exact z4)
             iterate 4 (refine z18 (za _ [] [] rfl rfl rfl) ?_; repeat (with_reducible apply ai;exact z4))
             refine za _ [] [] rfl rfl rfl ?_;refine z2i rfl rfl ?_;refine z2h ?_
             first | refine z2b ?_ ?_ | refine (fun (h1 : false = true → _) (h2 : false = false → _) => And.intro h1 fun _ => h2 rfl) ?_ ?_
             ·intro hg22
              first
               |(simp at hg22; done)
               |skip
                try replace hg22 := z9 hg22
                refine z18 id ?_;repeat (with_reducible apply ai;exact z4)
                refine z53 (lhas_spec (z1b xs ys) (pr ys J).cell (z1b xs ys).length rfl (by omega)) (fun k => k + 9) ?_;rintro s0 H0 ⟨rfl, rfl⟩ s1 H1 hs1 hH1;obtain ⟨hs2, hH2⟩ := z52 hs1 hH1;clear hs1 hH1;subst hs2 hH2;repeat (with_reducible apply ai;exact z4)
                (refine z18 (za _ [] [5] rfl rfl rfl) ?_; repeat (with_reducible apply ai;exact z4))
                try with_reducible refine And.intro (by clear hk22; simp_all; done) ?_
                repeat (with_reducible apply ai;exact z4)
                (refine z18 (za _ [] [5] rfl rfl rfl) ?_; repeat (with_reducible apply ai;exact z4))
                try with_reducible refine And.intro (by clear hk22; simp_all; done) ?_
                repeat (with_reducible apply ai;exact z4)
                (refine z18 (za _ [] [] rfl rfl rfl) ?_; repeat (with_reducible apply ai;exact z4));(refine z18 (za _ [5] [5] rfl rfl rfl) ?_; repeat (with_reducible apply ai;exact z4));rw [bos_put (by omega)];repeat (with_reducible apply ai;exact z4)
                (refine z18 (za _ [] [5] rfl rfl rfl) ?_; repeat (with_reducible apply ai;exact z4));(refine z18 (za _ [6] [5, 6] rfl rfl rfl) ?_; repeat (with_reducible apply ai;exact z4));rw [bos_put (by omega)];repeat (with_reducible apply ai;exact z4)
                refine z1d ?_;refine z6 ?_;refine hk22 _ _ ⟨?_, ?_⟩ <;> simp_all
             ·intro hg22;refine ⟨.bool false, ?_⟩
              first
               |(simp at hg22; done)
               |skip
                try replace hg22 := z9 hg22
                (refine z18 (za _ [] [5] rfl rfl rfl) ?_; repeat (with_reducible apply ai;exact z4))
                try with_reducible refine And.intro (by clear hk22; simp_all; done) ?_
                repeat (with_reducible apply ai;exact z4)
                (refine z18 (za _ [] [5] rfl rfl rfl) ?_; repeat (with_reducible apply ai;exact z4))
                try with_reducible refine And.intro (by clear hk22; simp_all; done) ?_
                repeat (with_reducible apply ai;exact z4)
                (refine z18 (za _ [] [] rfl rfl rfl) ?_; repeat (with_reducible apply ai;exact z4));(refine z18 (za _ [5] [5] rfl rfl rfl) ?_; repeat (with_reducible apply ai;exact z4));rw [bos_put (by omega)];repeat (with_reducible apply ai;exact z4)
                (refine z18 (za _ [] [5] rfl rfl rfl) ?_; repeat (with_reducible apply ai;exact z4));(refine z18 (za _ [6] [5, 6] rfl rfl rfl) ?_; repeat (with_reducible apply ai;exact z4));rw [bos_put (by omega)];repeat (with_reducible apply ai;exact z4)
                refine z1d ?_;refine z6 ?_;refine hk22 _ _ ⟨?_, ?_⟩ <;> simp_all
          ·intro hg12;refine ⟨.bool false, ?_⟩
           first
            |(simp at hg12; done)
            |skip
             try replace hg12 := z9 hg12
             (refine z18 (za _ [] [] rfl rfl rfl) ?_; repeat (with_reducible apply ai;exact z4))
             try with_reducible refine And.intro (by clear hk22; simp_all; done) ?_
             repeat (with_reducible apply ai;exact z4)
             iterate 4 (refine z18 (za _ [] [] rfl rfl rfl) ?_; repeat (with_reducible apply ai;exact z4))
             refine za _ [] [] rfl rfl rfl ?_;refine z2i rfl rfl ?_;refine z2h ?_
             first | refine z2b ?_ ?_ | refine (fun (h1 : false = true → _) (h2 : false = false → _) => And.intro h1 fun _ => h2 rfl) ?_ ?_
             ·intro hg22
              first
               |(simp at hg22; done)
               |skip
                try replace hg22 := z9 hg22
                refine z18 id ?_;repeat (with_reducible apply ai;exact z4)
                refine z53 (lhas_spec (z1b xs ys) (pr ys J).cell (z1b xs ys).length rfl (by omega)) (fun k => k + 9) ?_;rintro s0 H0 ⟨rfl, rfl⟩ s1 H1 hs1 hH1;obtain ⟨hs2, hH2⟩ := z52 hs1 hH1;clear hs1 hH1;subst hs2 hH2;repeat (with_reducible apply ai;exact z4)
                (refine z18 (za _ [] [5] rfl rfl rfl) ?_; repeat (with_reducible apply ai;exact z4))
                try with_reducible refine And.intro (by clear hk22; simp_all; done) ?_
                repeat (with_reducible apply ai;exact z4)
                (refine z18 (za _ [] [5] rfl rfl rfl) ?_; repeat (with_reducible apply ai;exact z4))
                try with_reducible refine And.intro (by clear hk22; simp_all; done) ?_
                repeat (with_reducible apply ai;exact z4)
                (refine z18 (za _ [] [] rfl rfl rfl) ?_; repeat (with_reducible apply ai;exact z4));(refine z18 (za _ [5] [5] rfl rfl rfl) ?_; repeat (with_reducible apply ai;exact z4));rw [bos_put (by omega)];repeat (with_reducible apply ai;exact z4)
                (refine z18 (za _ [] [5] rfl rfl rfl) ?_; repeat (with_reducible apply ai;exact z4));(refine z18 (za _ [6] [5, 6] rfl rfl rfl) ?_; repeat (with_reducible apply ai;exact z4));rw [bos_put (by omega)];repeat (with_reducible apply ai;exact z4)
                refine z1d ?_;refine z6 ?_;refine hk22 _ _ ⟨?_, ?_⟩ <;> simp_all
             ·intro hg22;refine ⟨.bool false, ?_⟩
              first
               |(simp at hg22; done)
               |skip
                try replace hg22 := z9 hg22
                (refine z18 (za _ [] [5] rfl rfl rfl) ?_; repeat (with_reducible apply ai;exact z4))
                try with_reducible refine And.intro (by clear hk22; simp_all; done) ?_
                repeat (with_reducible apply ai;exact z4)
                (refine z18 (za _ [] [5] rfl rfl rfl) ?_; repeat (with_reducible apply ai;exact z4))
                try with_reducible refine And.intro (by clear hk22; simp_all; done) ?_
                repeat (with_reducible apply ai;exact z4)
                (refine z18 (za _ [] [] rfl rfl rfl) ?_; repeat (with_reducible apply ai;exact z4));(refine z18 (za _ [5] [5] rfl rfl rfl) ?_; repeat (with_reducible apply ai;exact z4));rw [bos_put (by omega)];repeat (with_reducible apply ai;exact z4)
                (refine z18 (za _ [] [5] rfl rfl rfl) ?_; repeat (with_reducible apply ai;exact z4));(refine z18 (za _ [6] [5, 6] rfl rfl rfl) ?_; repeat (with_reducible apply ai;exact z4));rw [bos_put (by omega)];repeat (with_reducible apply ai;exact z4)
                refine z1d ?_;refine z6 ?_;refine hk22 _ _ ⟨?_, ?_⟩ <;> simp_all
         ·intro h105 QM hM105 hR105 hE105;have hcq : cQ ys q J = false := h105;refine Cs.skip ?_;refine Cs.nil ?_;refine hM105 _ _ ?_;have hpj := j5 J (Nat.le_refl _) hJn;unfold PreJ at hpj;rw [hcq, Bool.false_and, Bool.false_and, Bool.or_false, Bool.or_false] at hpj;exact ⟨(W2, M2), ⟨⟨j1, j2⟩, hpj, fun j _ => ⟨rfl, rfl⟩⟩, id, (LmIm.g0 id)⟩
         rintro ⟨W3, M3⟩ ht;obtain ⟨⟨t1, t2⟩, t3, t4⟩ := ht;dsimp only at t1 t2 t3 t4;refine Cs.seq ?_;refine Cs.seq ?_;refine Cs.reg [3, 4, 6, 7, 8, 9, 12, 13, 14, 135] rfl ?_;intro K hK;iterate 3 (refine z18 z5 ?_; repeat (with_reducible apply ai;exact z4))
         refine z7 (z6 (hK _ _ ?_)); clear hK K;refine Cs.cond _ rfl ?_ ?_
         ·intro h135
          
          refine Cs.exit ?_;refine hX3 _ _ ?_;refine Cs.reg [3, 4, 6, 7, 8, 9, 12, 13] rfl ?_;intro K hK;iterate 3 (refine z18 z5 ?_; repeat (with_reducible apply ai;exact z4))
          refine z7 (z6 (hK _ _ ?_)); clear hK K;refine Cs.nil ?_;refine hL2 _ _ ?_;rw [show (J : Int) + 1 = ((J + 1 : Nat) : Int) from by omega];refine ⟨((W3, M3), J + 1), ⟨⟨⟨t1, t2⟩, by dsimp only; omega, fun j hj => ?_, fun j hj1 hj2 => ?_⟩, by dsimp only; omega⟩, id, (LmIm.g0 id)⟩
          ·dsimp only at hj ⊢
           by_cases e : j = J
           ·subst e; exact t3
           ·rw [(t4 j e).1, (t4 j e).2]; exact j4 j (by omega)
          ·dsimp only at hj1 ⊢;rw [(t4 j (by omega)).1, (t4 j (by omega)).2]; exact j5 j (by omega) hj2
         ·intro h135;replace h135 := z9 h135;refine Cs.skip ?_;refine Cs.seq ?_;refine Cs.reg [3, 4, 6, 7, 8, 9, 12, 13, 195] rfl ?_;intro K hK
          have hk24 : K [(3, .ptr 1 0 0 0), (4, .ptr 4 0 0 0), (6, .slc true 5 0 0 ps0.length), (7, .slc true 6 0 0 ps0.length), (8, .int .i64 i), (9, .int .i64 q), (12, .slc true 9 0 0 (z1b xs ys).length), (13, .int .i64 J), (195, .bool (badN (pr ys J) (bAt W3 J) (bAt M3 J)))] ⟨11, [(10, one (.row ⟨true, true, 52, 7, 1, fun _ => (pr ys J).sv⟩)), (9, zd (z1b xs ys)), (1, zn 0 m at5), (6, z34 ps0.length M3), (5, z34 ps0.length W3), (4, zo 7 xs.length 8 ys.length), (8, zl ys), (7, zj xs), (0, zk ls)]⟩ := by
           refine hK _ _ ?_;clear hK K;refine Cs.cond _ rfl ?_ ?_
           ·intro h195
            exfalso
            rw [t3.fineN h135] at h195; cases h195
           ·intro h195
            
            refine Cs.skip ?_;refine Cs.nil ?_;refine hN3 _ _ ?_;refine Cs.reg [3, 4, 6, 7, 8, 9, 12, 13] rfl ?_;intro K hK;iterate 3 (refine z18 z5 ?_; repeat (with_reducible apply ai;exact z4))
            refine z7 (z6 (hK _ _ ?_)); clear hK K;refine Cs.nil ?_;refine hL2 _ _ ?_;rw [show (J : Int) + 1 = ((J + 1 : Nat) : Int) from by omega];refine ⟨((W3, M3), J + 1), ⟨⟨⟨t1, t2⟩, by dsimp only; omega, fun j hj => ?_, fun j hj1 hj2 => ?_⟩, by dsimp only; omega⟩, id, (LmIm.g0 id)⟩
            ·dsimp only at hj ⊢
             by_cases e : j = J
             ·subst e; exact t3
             ·rw [(t4 j e).1, (t4 j e).2]; exact j4 j (by omega)
            ·dsimp only at hj1 ⊢;rw [(t4 j (by omega)).1, (t4 j (by omega)).2]; exact j5 j (by omega) hj2
          (refine z18 z5 ?_; repeat (with_reducible apply ai;exact z4));clear j1 j2 j3 j4 j5 t4 hI2 hyn hi90 hi4 hi3 hB3 ha1 g1 g2 g5 h84 hm2;repeat (with_reducible apply ai;exact z4)
          iterate 12 (refine z18 z5 ?_; repeat (with_reducible apply ai;exact z4))
          refine absG ?_;intro b148 hb148;repeat (with_reducible apply ai;exact z4)
          iterate 11 (refine z18 z5 ?_; repeat (with_reducible apply ai;exact z4))
          refine absG ?_;intro b159 hb159;repeat (with_reducible apply ai;exact z4)
          (refine z18 z5 ?_; repeat (with_reducible apply ai;exact z4));refine absG ?_;intro b160 hb160;repeat (with_reducible apply ai;exact z4)
          (refine z18 z5 ?_; repeat (with_reducible apply ai;exact z4));refine z66 ?_;intro b161 hb161;repeat (with_reducible apply ai;exact z4)
          iterate 9 (refine z18 z5 ?_; repeat (with_reducible apply ai;exact z4))
          refine absG ?_;intro b170 hb170;repeat (with_reducible apply ai;exact z4)
          iterate 7 (refine z18 z5 ?_; repeat (with_reducible apply ai;exact z4))
          refine absG ?_;intro b177 hb177;repeat (with_reducible apply ai;exact z4)
          (refine z18 z5 ?_; repeat (with_reducible apply ai;exact z4));refine z66 ?_;intro b178 hb178;repeat (with_reducible apply ai;exact z4)
          iterate 9 (refine z18 z5 ?_; repeat (with_reducible apply ai;exact z4))
          refine absG ?_;intro b187 hb187;repeat (with_reducible apply ai;exact z4)
          iterate 7 (refine z18 z5 ?_; repeat (with_reducible apply ai;exact z4))
          refine absG ?_;intro b194 hb194;repeat (with_reducible apply ai;exact z4)
          (refine z18 z5 ?_; repeat (with_reducible apply ai;exact z4));refine z66 ?_;intro b195 hb195;repeat (with_reducible apply ai;exact z4)
          refine z7 ?_;refine z6 ?_;subst hb148 hb159 hb160 hb161 hb170 hb177 hb178 hb187 hb194 hb195;exact hk24
        ·intro h91
         
         refine Cs.exit ?_;refine hEL2 _ _ _ ?_;refine hX2 _ _ ?_;refine Cs.nil ?_;refine hN1 _ _ ?_;refine Cs.reg [3, 4, 6, 7, 8] rfl ?_;intro K hK;iterate 3 (refine z18 z5 ?_; repeat (with_reducible apply ai;exact z4))
         refine z7 (z6 (hK _ _ ?_)); clear hK K;refine Cs.nil ?_;refine hL1 _ _ ?_;obtain ⟨⟨j1, j2⟩, j3, j4, j5⟩ := hj;dsimp only at j1 j2 j3 j4 j5;replace h91 := z9 h91;rw [show (i : Int) + 1 = ((i + 1 : Nat) : Int) from by omega];refine ⟨((xs, ys), (W2, M2), at5, i + 1), ⟨⟨⟨⟨l2, hI2⟩, ⟨⟨hyn, hxn⟩, j1, j2⟩, fun j hj => j4 j (by dsimp only at hj; omega)⟩, hB3, by dsimp only; omega⟩, by dsimp only; omega⟩, fun k => if k = 2 then 7 else if k = 3 then 8 else k, (LmIm.g1 (fun k => if k = 2 then 7 else if k = 3 then 8 else k))⟩
      iterate 4 (refine z18 z5 ?_; repeat (with_reducible apply ai;exact z4))
      refine z5 ?_;refine z2i rfl rfl ?_;refine z2h ?_
      first | refine z2b ?_ ?_ | refine (fun (h1 : false = true → _) (h2 : false = false → _) => And.intro h1 fun _ => h2 rfl) ?_ ?_
      ·intro hg4
       first
        |(simp at hg4; done)
        |skip
         try replace hg4 := z9 hg4
         refine z18 id ?_;repeat (with_reducible apply ai;exact z4)
         refine z53 (bool_spec ls m at4 3 hx hm f1 (by omega) (by omega)) (fun k => if k = 0 then 1 else 0) ?_;rintro s0 H0 ⟨b3, at5, e1, rfl, rfl⟩ s1 H1 hs1 hH1;obtain ⟨hs2, hH2⟩ := z52 hs1 hH1;clear hs1 hH1;subst hs2 hH2;repeat (with_reducible apply ai;exact z4)
         (refine z18 z5 ?_; repeat (with_reducible apply ai;exact z4));refine z7 ?_;refine z6 ?_;refine hG _ _ _ _ id (LmIm.g0 id) (hk11 at5 (z36 cs ps q kind cell == 0 && b3) ⟨e1, fun hb => hg4⟩)
      ·intro hg4;refine ⟨.bool false, ?_⟩
       first
        |(simp at hg4; done)
        |skip
         try replace hg4 := z9 hg4
         (refine z18 z5 ?_; repeat (with_reducible apply ai;exact z4));refine z7 ?_;refine z6 ?_;exact hG _ _ _ _ id (LmIm.g0 id) (hk11 at4 false ⟨f1, fun hb => by cases hb⟩)
     (refine z18 (zg _ [] [1] [] rfl rfl rfl rfl) ?_; repeat (with_reducible apply ai;exact z4));(refine z18 (zg _ [] [1] [] rfl rfl rfl rfl) ?_; repeat (with_reducible apply ai;exact z4));(refine z18 (zg _ [] [] [] rfl rfl rfl rfl) ?_; repeat (with_reducible apply ai;exact z4));(refine z18 (zg _ [] [1] [] rfl rfl rfl rfl) ?_; repeat (with_reducible apply ai;exact z4));(refine z18 (zg _ [] [1] [] rfl rfl rfl rfl) ?_; repeat (with_reducible apply ai;exact z4));(refine z18 (zg _ [] [1] [] rfl rfl rfl rfl) ?_; repeat (with_reducible apply ai;exact z4));(refine z18 (zg _ [] [1] [] rfl rfl rfl rfl) ?_; repeat (with_reducible apply ai;exact z4));refine z50 ?_ ?_
     ·skip
      refine z18 (zg _ [1] [1] [] rfl rfl rfl rfl) ?_;repeat (with_reducible apply ai;exact z4)
      refine z53 (z25 ls m at3 3 hx hm g1 (by omega)) (fun k => if k = 0 then 1 else 0) ?_;rintro s0 H0 ⟨v, at5, d1, d2, d3, d4, rfl, rfl⟩ s1 H1 hs1 hH1;obtain ⟨hs2, hH2⟩ := z52 hs1 hH1;clear hs1 hH1;subst hs2 hH2;repeat (with_reducible apply ai;exact z4)
      have d5 := d3 (by omega);(refine z18 (zg _ [] [1] [] rfl rfl rfl rfl) ?_; repeat (with_reducible apply ai;exact z4));refine z50 ?_ ?_
      ·skip
       refine z18 (zg _ [1] [1] [] rfl rfl rfl rfl) ?_;repeat (with_reducible apply ai;exact z4)
       refine z53 (z25 ls m at5 cs.length hx hm d1 (by omega)) (fun k => if k = 0 then 1 else 0) ?_;rintro s0 H0 ⟨w, at6, c1, c2, c3, c4, rfl, rfl⟩ s1 H1 hs1 hH1;obtain ⟨hs2, hH2⟩ := z52 hs1 hH1;clear hs1 hH1;subst hs2 hH2;repeat (with_reducible apply ai;exact z4)
       have hw8 : w ≤ 1000000 := by
        rcases Int.lt_or_le (cs.length : Int) 1 with h | h
        ·have := c4 h; omega
        ·have := c3 h; omega
       (refine z18 (zg _ [] [1] [] rfl rfl rfl rfl) ?_; repeat (with_reducible apply ai;exact z4));refine z50 ?_ ?_
       ·skip
        refine z18 (zg _ [] [1] [] rfl rfl rfl rfl) ?_;repeat (with_reducible apply ai;exact z4)
        refine z53 (z37 cs ps cs.length ps.length rfl rfl (by omega) (by omega) q (1 + v) (2 + w)) (fun z => z + 2) ?_;rintro s0 H0 ⟨rfl, rfl⟩ s1 H1 hs1 hH1;obtain ⟨hs2, hH2⟩ := z52 hs1 hH1;clear hs1 hH1;subst hs2 hH2;repeat (with_reducible apply ai;exact z4)
        (refine z18 (zg _ [] [1] [] rfl rfl rfl rfl) ?_; repeat (with_reducible apply ai;exact z4));(refine z18 (zg _ [] [1] [] rfl rfl rfl rfl) ?_; repeat (with_reducible apply ai;exact z4));(refine z18 (zg _ [] [1] [] rfl rfl rfl rfl) ?_; repeat (with_reducible apply ai;exact z4));(refine z18 (zg _ [] [1] [9] rfl rfl rfl rfl) ?_; repeat (with_reducible apply ai;exact z4));(refine z18 (zg _ [9] [1] [9] rfl rfl rfl rfl) ?_; repeat (with_reducible apply ai;exact z4));(refine z18 (zg _ [9] [1] [9] rfl rfl rfl rfl) ?_; repeat (with_reducible apply ai;exact z4));refine z2p ?_;refine z6 ?_;exact hG _ _ _ _ id (LmIm.g0 id) (hk10 (1 + v) (2 + w) at6 ⟨c1, by omega, by omega, by omega⟩)
       ·skip
        (refine z18 (zg _ [] [1] [7] rfl rfl rfl rfl) ?_; repeat (with_reducible apply ai;exact z4));refine z18 (zg _ [7] [1] [7] rfl rfl rfl rfl) ?_;repeat (with_reducible apply ai;exact z4)
        refine z53 (z37 cs ps cs.length ps.length rfl rfl (by omega) (by omega) q (1 + v) (2 + w)) (fun z => z + 2) ?_;rintro s0 H0 ⟨rfl, rfl⟩ s1 H1 hs1 hH1;obtain ⟨hs2, hH2⟩ := z52 hs1 hH1;clear hs1 hH1;subst hs2 hH2;repeat (with_reducible apply ai;exact z4)
        (refine z18 (zg _ [7] [1] [7] rfl rfl rfl rfl) ?_; repeat (with_reducible apply ai;exact z4));(refine z18 (zg _ [7] [1] [7] rfl rfl rfl rfl) ?_; repeat (with_reducible apply ai;exact z4));(refine z18 (zg _ [7] [1] [7] rfl rfl rfl rfl) ?_; repeat (with_reducible apply ai;exact z4));(refine z18 (zg _ [7] [1] [7] rfl rfl rfl rfl) ?_; repeat (with_reducible apply ai;exact z4));(refine z18 (zg _ [7] [1] [7] rfl rfl rfl rfl) ?_; repeat (with_reducible apply ai;exact z4));refine z2p ?_;refine z6 ?_;exact hG _ _ _ _ (fun z => if z = 9 then 7 else if z = 7 then 8 else if z = 8 then 9 else z) (LmIm.g1 (fun z => if z = 9 then 7 else if z = 7 then 8 else if z = 8 then 9 else z)) (hk10 (1 + v) (2 + w) at6 ⟨c1, by omega, by omega, by omega⟩)
      ·skip
       (refine z18 (zg _ [] [1] [7] rfl rfl rfl rfl) ?_; repeat (with_reducible apply ai;exact z4));refine z18 (zg _ [1, 7] [1] [7] rfl rfl rfl rfl) ?_;repeat (with_reducible apply ai;exact z4)
       refine z53 (z25 ls m at5 cs.length hx hm d1 (by omega)) (fun k => if k = 0 then 1 else 0) ?_;rintro s0 H0 ⟨w, at6, c1, c2, c3, c4, rfl, rfl⟩ s1 H1 hs1 hH1;obtain ⟨hs2, hH2⟩ := z52 hs1 hH1;clear hs1 hH1;subst hs2 hH2;repeat (with_reducible apply ai;exact z4)
       have hw8 : w ≤ 1000000 := by
        rcases Int.lt_or_le (cs.length : Int) 1 with h | h
        ·have := c4 h; omega
        ·have := c3 h; omega
       (refine z18 (zg _ [7] [1] [7] rfl rfl rfl rfl) ?_; repeat (with_reducible apply ai;exact z4));refine z18 (zg _ [7] [1] [7] rfl rfl rfl rfl) ?_;repeat (with_reducible apply ai;exact z4)
       refine z53 (z37 cs ps cs.length ps.length rfl rfl (by omega) (by omega) q (1 + v) (2 + w)) (fun z => z + 2) ?_;rintro s0 H0 ⟨rfl, rfl⟩ s1 H1 hs1 hH1;obtain ⟨hs2, hH2⟩ := z52 hs1 hH1;clear hs1 hH1;subst hs2 hH2;repeat (with_reducible apply ai;exact z4)
       (refine z18 (zg _ [7] [1] [7] rfl rfl rfl rfl) ?_; repeat (with_reducible apply ai;exact z4));(refine z18 (zg _ [7] [1] [7] rfl rfl rfl rfl) ?_; repeat (with_reducible apply ai;exact z4));(refine z18 (zg _ [7] [1] [7] rfl rfl rfl rfl) ?_; repeat (with_reducible apply ai;exact z4));(refine z18 (zg _ [7] [1] [7] rfl rfl rfl rfl) ?_; repeat (with_reducible apply ai;exact z4));(refine z18 (zg _ [7] [1] [7] rfl rfl rfl rfl) ?_; repeat (with_reducible apply ai;exact z4));refine z2p ?_;refine z6 ?_;exact hG _ _ _ _ (fun z => if z = 9 then 7 else if z = 7 then 8 else if z = 8 then 9 else z) (LmIm.g1 (fun z => if z = 9 then 7 else if z = 7 then 8 else if z = 8 then 9 else z)) (hk10 (1 + v) (2 + w) at6 ⟨c1, by omega, by omega, by omega⟩)
     ·skip
      (refine z18 (zg _ [] [1] [7] rfl rfl rfl rfl) ?_; repeat (with_reducible apply ai;exact z4));refine z18 (zg _ [1, 7] [1] [7] rfl rfl rfl rfl) ?_;repeat (with_reducible apply ai;exact z4)
      refine z53 (z25 ls m at3 3 hx hm g1 (by omega)) (fun k => if k = 0 then 1 else 0) ?_;rintro s0 H0 ⟨v, at5, d1, d2, d3, d4, rfl, rfl⟩ s1 H1 hs1 hH1;obtain ⟨hs2, hH2⟩ := z52 hs1 hH1;clear hs1 hH1;subst hs2 hH2;repeat (with_reducible apply ai;exact z4)
      have d5 := d3 (by omega);(refine z18 (zg _ [7] [1] [7] rfl rfl rfl rfl) ?_; repeat (with_reducible apply ai;exact z4));refine z18 (zg _ [1, 7] [1] [7] rfl rfl rfl rfl) ?_;repeat (with_reducible apply ai;exact z4)
      refine z53 (z25 ls m at5 cs.length hx hm d1 (by omega)) (fun k => if k = 0 then 1 else 0) ?_;rintro s0 H0 ⟨w, at6, c1, c2, c3, c4, rfl, rfl⟩ s1 H1 hs1 hH1;obtain ⟨hs2, hH2⟩ := z52 hs1 hH1;clear hs1 hH1;subst hs2 hH2;repeat (with_reducible apply ai;exact z4)
      have hw8 : w ≤ 1000000 := by
       rcases Int.lt_or_le (cs.length : Int) 1 with h | h
       ·have := c4 h; omega
       ·have := c3 h; omega
      (refine z18 (zg _ [7] [1] [7] rfl rfl rfl rfl) ?_; repeat (with_reducible apply ai;exact z4));refine z18 (zg _ [7] [1] [7] rfl rfl rfl rfl) ?_;repeat (with_reducible apply ai;exact z4)
      refine z53 (z37 cs ps cs.length ps.length rfl rfl (by omega) (by omega) q (1 + v) (2 + w)) (fun z => z + 2) ?_;rintro s0 H0 ⟨rfl, rfl⟩ s1 H1 hs1 hH1;obtain ⟨hs2, hH2⟩ := z52 hs1 hH1;clear hs1 hH1;subst hs2 hH2;repeat (with_reducible apply ai;exact z4)
      (refine z18 (zg _ [7] [1] [7] rfl rfl rfl rfl) ?_; repeat (with_reducible apply ai;exact z4));(refine z18 (zg _ [7] [1] [7] rfl rfl rfl rfl) ?_; repeat (with_reducible apply ai;exact z4));(refine z18 (zg _ [7] [1] [7] rfl rfl rfl rfl) ?_; repeat (with_reducible apply ai;exact z4));(refine z18 (zg _ [7] [1] [7] rfl rfl rfl rfl) ?_; repeat (with_reducible apply ai;exact z4));(refine z18 (zg _ [7] [1] [7] rfl rfl rfl rfl) ?_; repeat (with_reducible apply ai;exact z4));refine z2p ?_;refine z6 ?_;exact hG _ _ _ _ (fun z => if z = 9 then 7 else if z = 7 then 8 else if z = 8 then 9 else z) (LmIm.g1 (fun z => if z = 9 then 7 else if z = 7 then 8 else if z = 8 then 9 else z)) (hk10 (1 + v) (2 + w) at6 ⟨c1, by omega, by omega, by omega⟩)
    ·intro h37
     
     refine Cs.exit ?_;refine hEL1 _ _ _ ?_;refine hX0 _ _ ?_;refine Cs.seq ?_;refine Cs.reg [2] rfl ?_;intro K hK;refine z18 z5 ?_;repeat (with_reducible apply ai;exact z4)
     refine z53 (sane_spec) (id) ?_;rintro s0 H0 ⟨rfl, rfl⟩ s1 H1 hs1 hH1;obtain ⟨hs2, hH2⟩ := z52 hs1 hH1;clear hs1 hH1;subst hs2 hH2;repeat (with_reducible apply ai;exact z4)
     (refine z18 z5 ?_; repeat (with_reducible apply ai;exact z4));refine z7 (z6 (hK _ _ ?_)); clear hK K;refine Cs.ret ?_;refine hQ _ _ ?_;refine z17.mk (H' := ⟨1, []⟩) (.inl rfl) ?_;refine LmCm.ou ?_;repeat (with_reducible apply ai;exact z4)
     refine ⟨zh, (LmIm.g0 id), LmIm.r3, ?_⟩
     all_goals first | trivial | rfl | exact ⟨rfl, trivial⟩
   iterate 4 (refine z18 z5 ?_; repeat (with_reducible apply ai;exact z4))
   refine z5 ?_;refine z2i rfl rfl ?_;refine z2h ?_
   first | refine z2b ?_ ?_ | refine (fun (h1 : false = true → _) (h2 : false = false → _) => And.intro h1 fun _ => h2 rfl) ?_ ?_
   ·intro hg4
    first
     |(simp at hg4; done)
     |skip
      try replace hg4 := z9 hg4
      refine z18 id ?_;repeat (with_reducible apply ai;exact z4)
      refine z53 (left_spec ls m at2) (fun k => if k = 0 then 1 else 0) ?_;rintro s0 H0 ⟨⟨b, rfl⟩, rfl⟩ s1 H1 hs1 hH1;obtain ⟨hs2, hH2⟩ := z52 hs1 hH1;clear hs1 hH1;subst hs2 hH2;repeat (with_reducible apply ai;exact z4)
      (refine z18 z5 ?_; repeat (with_reducible apply ai;exact z4));refine z7 ?_;refine z6 ?_;refine hk7 hi _ ?_;intro hb; simp at hb <;> omega
   ·intro hg4;refine ⟨.bool false, ?_⟩
    first
     |(simp at hg4; done)
     |skip
      try replace hg4 := z9 hg4
      (refine z18 z5 ?_; repeat (with_reducible apply ai;exact z4));refine z7 ?_;refine z6 ?_;refine hk7 hi _ ?_;intro hb; simp at hb hg4 <;> omega
  (refine z18 (zg _ [] [] [] rfl rfl rfl rfl) ?_; repeat (with_reducible apply ai;exact z4));(refine z18 (zg _ [] [] [] rfl rfl rfl rfl) ?_; repeat (with_reducible apply ai;exact z4));(refine z18 (zg _ [] [] [] rfl rfl rfl rfl) ?_; repeat (with_reducible apply ai;exact z4));(refine z18 (zg _ [] [] [] rfl rfl rfl rfl) ?_; repeat (with_reducible apply ai;exact z4));(refine z18 (zg _ [] [] [] rfl rfl rfl rfl) ?_; repeat (with_reducible apply ai;exact z4));(refine z18 (zg _ [] [] [] rfl rfl rfl rfl) ?_; repeat (with_reducible apply ai;exact z4));refine z50 ?_ ?_
  ·skip
   (refine z18 (zg _ [] [] [] rfl rfl rfl rfl) ?_; repeat (with_reducible apply ai;exact z4));(refine z18 (zg _ [] [] [] rfl rfl rfl rfl) ?_; repeat (with_reducible apply ai;exact z4));(refine z18 (zg _ [] [] [] rfl rfl rfl rfl) ?_; repeat (with_reducible apply ai;exact z4));(refine z18 (zg _ [] [] [] rfl rfl rfl rfl) ?_; repeat (with_reducible apply ai;exact z4));refine z2p ?_;refine z6 ?_;exact hG _ _ _ _ id (LmIm.g0 id) hk5
  ·skip
   (refine z18 (zg _ [] [] [] rfl rfl rfl rfl) ?_; repeat (with_reducible apply ai;exact z4));(refine z18 (zg _ [] [] [] rfl rfl rfl rfl) ?_; repeat (with_reducible apply ai;exact z4));(refine z18 (zg _ [] [] [] rfl rfl rfl rfl) ?_; repeat (with_reducible apply ai;exact z4));(refine z18 (zg _ [] [] [] rfl rfl rfl rfl) ?_; repeat (with_reducible apply ai;exact z4));refine z2p ?_;refine z6 ?_;exact hG _ _ _ _ (fun k => if k = 5 then 6 else if k = 6 then 5 else k) (LmIm.g1 (fun k => if k = 5 then 6 else if k = 6 then 5 else k)) hk5
end Go.Proofs

set_option linter.unusedSimpArgs false
set_option linter.unusedVariables false
set_option maxRecDepth 4000
namespace Go.Proofs.YtdfdidinfaefmaaDoor
open Go.ChangeShapes Go.WideShapes Go.RowKit Go.Sk Go.Proofs
theorem own : ownKnob Tryd.prog.godebug = none := by kernel_rfl
theorem laid : laidOutB Tryd.prog = true := by kernel_rfl
theorem rowed : mapsRowed Tryd.prog = true := by kernel_rfl
theorem fullS : ∀ t e, t < Tryd.prog.types.size → Tryd.prog.underlying t = some (.slice e) → 0 < Tryd.prog.cellsOf e := slices_full_of _ (by kernel_rfl)
theorem uInts : Tryd.prog.underlying 22 = some (.slice 3) := by kernel_rfl
theorem uStr : Tryd.prog.underlying 9 = some .string := by kernel_rfl
theorem uBool : Tryd.prog.underlying 4 = some .bool := by kernel_rfl
theorem fInt : flatB Tryd.prog 3 [.i .i64] = true := by kernel_rfl
theorem gTab : Tryd.prog.globalNamed "skipgraph/skipgraphworld.letters" = some 0 := by kernel_rfl
theorem gTabType : (Tryd.prog.globals[0]?).map (·.type) = some 86 := by kernel_rfl
theorem uTab : Tryd.prog.underlying 86 = some (.array 6 9) := by kernel_rfl
theorem cTab : Tryd.prog.cellsOf 86 = 6 := by kernel_rfl
theorem cStr : Tryd.prog.cellsOf 9 = 1 := by kernel_rfl
theorem oneTab : (List.range Tryd.prog.globals.size).all (fun i => !tabG Tryd.prog i || i == 0) = true := by kernel_rfl
theorem tabs {W : World} (h : laidMetH Tryd.prog [("skipgraph/skipgraphworld.letters", Rows.laid_skipgraph_skipgraphworld_letters)] W) : ∀ i, tabG Tryd.prog i = true → i < W.heap.size ∧ TabAt W i :=
 tabs_of_laid gTab gTabType uTab uStr cStr cTab oneTab h
def toInt : List Value → Int
 |[.int _ z] => z
 |_ => 0
def toInts (rows : List (List Value)) : List Int := rows.map toInt
theorem ints_rows {w : World} {v : Value} {q : Option Sk.Loc} {rows : List (List Value)} (h : RwIn w v q [.i .i64] rows) (i : Nat) (r : List Value) (hr : rows[i]? = some r) : ints (toInts rows) i = r.map svOf := by
 have hok := h.ok r (List.mem_of_getElem? hr);rcases r with _ | ⟨v, _ | ⟨v', r⟩⟩
 ·exact hok.elim
 ·obtain ⟨⟨z, rfl, _⟩, _⟩ := hok;simp only [ints, nth, toInts, List.getD, List.getElem?_map, hr, Option.map_some, Option.getD_some, toInt, List.map_cons, List.map_nil, svOf]
 ·exact hok.2.elim
theorem ints_in {β : Env} {w : World} {v : Value} {q : Option Sk.Loc} {rows : List (List Value)} (h : RwIn w v q [.i .i64] rows) {id : Nat} (hq : β id 0 = q) :
  den β (.slc false id 0 0 (toInts rows).length) v ∧ (Sk.Obj.row ⟨false, false, 3, 1, (toInts rows).length, ints (toInts rows)⟩).holds β w q := by
 have := rows_in h hq 3 (ints (toInts rows)) (ints_rows h);simpa [toInts] using this
theorem ints_len {w : World} {v : Value} {q : Option Sk.Loc} {rows : List (List Value)} (h : RwIn w v q [.i .i64] rows) : (toInts rows).length ≤ 9223372036854775807 := by
 have := h.len;simpa [toInts, maxLen] using this
theorem ints_ltO (m : Nat) (xs : List Int) : (Sk.Obj.row ⟨false, false, 3, 1, xs.length, ints xs⟩).lt m := Sk.Obj.lt_row.2 fun i _ => by simp [ints, SV.ltL, SV.lt]
/-- A world for the witness: the table holds the six letters. -/
noncomputable def z5l (os : Os) : World :=
  { World.holding Tryd.prog os ⟨#[], #[], []⟩ with heap := (World.holding Tryd.prog os ⟨#[], #[], []⟩).heap.modify 0 fun
      | .cells _ t frozen => .cells (letters.map Value.string).toArray t frozen
      | o => o }
end Go.Proofs.YtdfdidinfaefmaaDoor

set_option linter.unusedSimpArgs false
set_option linter.unusedVariables false
set_option maxRecDepth 4000
namespace Go.Proofs.YtdfdidinfaefmaaDoor.lockedMomentsTop
open Go.ChangeShapes Go.WideShapes Go.RowKit Go.Sk Go.Proofs
theorem top (W : World) (v0 : Value) (q0 : Option Sk.Loc) (r0 : List (List Value)) (h0 : RwIn W v0 q0 [.i .i64] r0)
  (htab : ∀ i, tabG Tryd.prog i = true → i < W.heap.size ∧ TabAt W i) : Calls Tryd.prog 6 #[v0] W fun e w' => e = .returned (.bool true) ∧ Below W.heap.size W w' := by
 let β : Env := fun _ _ => q0
 obtain ⟨a0, b0⟩ := ints_in (β := β) (id := 0) h0 rfl;refine z19.top (Ent.of Tryd.func6 (by kernel_rfl) (by kernel_rfl)) (moments_spec (toInts r0) (ints_len h0)) β W [v0] (fun id k o ho => ?_) ⟨v0, [], a0, rfl, rfl⟩ (by simp [SV.ltL, SV.lt]) htab;obtain ⟨c, F, hf, hk, rfl⟩ := z3s ho;simp only [Sk.find, zk, one] at hf
 split at hf
 ·rename_i e; subst e; cases hf
  exact ⟨rfl, by show (0 : Nat) < 1; omega, ints_ltO _ _, b0⟩
 ·cases hf
theorem contract (H : Type) (enc : TypeId × Value → H) (W : World) (base : Nat) (args : Array Value) (ds gs : List (DataW H)) (before : List MemPlace)
  (hval : ∀ (j : Nat) t v, Tryd.f6.params[j]? = some t → args[j]? = some v → Value.okWide Tryd.prog W .any base t v)
  (hW : DataW.Whole enc Tryd.prog Tryd.f6.params.toList Rows.lockedMomentsSpec.vars false W args.toList ds gs before) (hL : laidMetH Tryd.prog Rows.lockedMomentsRow.laid W) :
  Calls Tryd.prog 6 args W fun e W' => ∃ v, e = .returned v ∧ Rows.lockedMomentsSpec.post enc Tryd.prog Tryd.f6 false true false false W args v W' := by
 have hW1 := hW;obtain ⟨p, q, hA0, hV, rfl, _, _⟩ := hW;have hA : DataW.TrodAll enc Tryd.prog W 0 (fun _ => true) true Tryd.f6.params.toList args.toList ds p := hA0;have hval1 : ∀ (j : Nat) t v, Tryd.f6.params[j]? = some t → args[j]? = some v → Value.okWide Tryd.prog W .any base t v := hval;rw [Tryd.params6] at hA hval1;obtain ⟨v0, vs0, d0, ds0, p0, q0, ha0, rfl, rfl, h0, r0⟩ := trodAll_cons hA;obtain ⟨rfl, rfl, rfl⟩ := trodAll_nil r0;obtain rfl : args = #[v0] := by cases args; simp_all
 obtain ⟨_, _, x0⟩ := rows_open uInts fInt (by simp) (hval1 0 _ v0 rfl rfl) h0;refine (top W v0 _ _ x0 (tabs hL)).mono fun e W1 ⟨he, hb⟩ => ?_;subst he;refine ⟨_, rfl, law_post laid rowed fullS (by decide +kernel) rfl hW1 hb rfl uBool fun ds hd => ?_⟩;have hd1 : ds.length = 1 := hd
 match ds, hd1 with
 |[_], _ => rfl
theorem laid_met (os : Os) : laidMet Tryd.prog Rows.lockedMomentsRow.laid ((z5l os).forCall (fun _ _ => 0) ⟨#[], #[.slice none 0 0], []⟩).memory :=
 laidMet_of_run' 8 (by kernel_rfl) (by kernel_rfl)
theorem reads (os : Os) {H : Type} (enc : TypeId × Value → H) : ∃ places, DataW.whole enc Tryd.prog ((z5l os).forCall (fun _ _ => 0) ⟨#[], #[.slice none 0 0], []⟩).memory Tryd.f6.params.toList Rows.lockedMomentsSpec.vars false #[Value.slice none 0 0].toList 8 = some ([.nil], [], places) :=
 ⟨[], by kernel_rfl⟩
set_option maxRecDepth 100000 in
theorem lifted (os : Os) (started : os.Started) (H : Type) (enc : TypeId × Value → H) (F : Stop.Interp) :
  ReturnsInHanded {} Tryd.checked os 6 .any ((OpenSpec.ofChange Rows.lockedMomentsSpec).preRow enc Tryd.prog Tryd.f6 Rows.lockedMomentsRow.domain false Rows.lockedMomentsRow.laid) (((OpenSpec.ofChange Rows.lockedMomentsSpec).at F).post enc Tryd.prog Tryd.f6 false true false false) := by
 obtain ⟨places, hx⟩ := reads os enc
 refine returnsInHanded_of_row (C := Tryd.checked) (s := OpenSpec.ofChange Rows.lockedMomentsSpec) own started (by kernel_rfl) Tryd.func6
  (witness_row_at (enc := enc) (C := Tryd.checked) false (z5l os) #[.slice none 0 0] rfl (by kernel_rfl) (by kernel_rfl) (by kernel_rfl)
   (OpenSpec.preRow_of_cond 8 hx (by kernel_rfl) (fun k hk => by cases hk) (by kernel_rfl) (laid_met os))) ?_
 intro W base args ds gs before hval hW _ _ _ hL _ _;exact contract H enc W base args ds gs before hval hW hL
theorem said : Rows.LockedMomentsSaid :=
 OpenClaim.holds_of_cond 6 Tryd.f6 rfl rfl rfl rfl rfl rfl rfl ⟨rfl, rfl, rfl, rfl, rfl⟩ rfl rfl rfl rfl rfl (by kernel_rfl) Tryd.func6 (by kernel_rfl)
  (of_decide_eq_true (by kernel_rfl)) (by unfold Func.isWrapper; first | (rw [if_pos (by decide +kernel)]; kernel_rfl) | (rw [if_neg (by decide +kernel)]; exact ⟨rfl, rfl⟩))
  (fun os started H enc _ F => by rw [OpenClaim.pre_eq_preRow]; exact lifted os started H enc F)
theorem plain (f : FuncId) (fn : Func) (hf : Tryd.pinned.checked.prog.funcNamed "skipgraph/skipgraphlaw11.LockedMoments" = some f) (hfn : Tryd.pinned.checked.prog.funcs[f]? = some fn) :
  false = Tryd.pinned.checked.prog.looks [] ∧ ∀ (j : Nat) t, fn.params[j]? = some t → Tryd.pinned.checked.prog.wantsStandIn t = false := by
 obtain rfl : f = 6 := Option.some.inj ((show Tryd.prog.funcNamed "skipgraph/skipgraphlaw11.LockedMoments" = some 6 by kernel_rfl).symm.trans hf) |>.symm
 obtain rfl : fn = Tryd.f6 := (Option.some.inj (Tryd.func6.symm.trans hfn)).symm;refine ⟨by kernel_rfl, fun j t ht => ?_⟩;rw [Tryd.params6] at ht;have hm : t ∈ [22] := by simpa using Array.mem_of_getElem? ht
 have hall : ([22].all fun u => !Tryd.prog.wantsStandIn u) = true := by kernel_rfl
 exact (show Tryd.prog.wantsStandIn t = false by simpa using List.all_eq_true.1 hall t hm)
theorem proved : Rows.LockedMomentsCardSaid :=
 Claim7.holds_tied_plain_at .later [] _ _ _ _ said (fun _ h => by cases h) (by kernel_rfl) (fun _ h => by cases h) lockedMoments_row_tie rfl ⟨rfl, rfl⟩ (by kernel_rfl) rfl plain (by kernel_rfl)
end Go.Proofs.YtdfdidinfaefmaaDoor.lockedMomentsTop
#print axioms Go.Proofs.YtdfdidinfaefmaaDoor.lockedMomentsTop.proved
