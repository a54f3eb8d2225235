/-
  InspectFinds: for every input the law returns true, and the input reads as before.
  Conditions: those that each statement names.
-/
import Derived.Test.YtdlmfcidbojniaaDoorQqb
import Derived.Test.YtdlmfcidbojniaaDoorChecked
import Derived.Below
import Derived.ChangeSame
import Derived.ChangeSlices
import Derived.ReadAgain
import Derived.OpenShut
import Derived.JoinedOf
import Derived.Handed
import Derived.Deep.Slices
import Derived.Lib.LaidTab
import Derived.Test.YtdlmfcidbojniaaDoorQqe
import Derived.Test.YtdlmfcidbojniaaDoorRows
import Derived.Test.YtdlmfcidbojniaaDoorCards
import Derived.Test.YtdlmfcidbojniaaDoorTie
import Derived.WalkKit
import Derived.ProofKit
import Derived.Deep.DeepHandedRow
set_option linter.unusedSimpArgs false
set_option linter.unusedVariables false
set_option maxRecDepth 4000
namespace Go.Sk
open Go.RowKit Go.WideShapes Go.ChangeShapes
theorem below_sameAt {w w' : World} (h : Below w.heap.size w w') {p : MemPlace} (hp : p.block < w.heap.size) : w.sameAt w' p := by
 cases p with
 |cell b off => exact World.cell?_of_block (h.block b hp)
 |map b => exact h.block b hp
section
variable {H : Type} {enc : TypeId × Value → H} {P : Program}
theorem trodAll_carry {w w' : World} {base : Nat} {sp : Nat → Bool} {held : Bool} : ∀ {ts : List TypeId} {vs : List Value} {ds : List (DataW H)} {ps : List MemPlace}, DataW.TrodAll enc P w base sp held ts vs ds ps → (∀ p ∈ ps, w.sameAt w' p) →
  DataW.TrodAll enc P w' base sp held ts vs ds ps
 |[], [], [], _, h, _ => h
 |_ :: _, _ :: _, _ :: _, _, ⟨p, q, ⟨n, h1⟩, h2, e⟩, hs =>
  ⟨p, q, ⟨n, DataW.trod_carry n _ _ _ h1 fun x hx => hs x (by rw [e]; exact List.mem_append_left _ hx)⟩, trodAll_carry h2 (fun x hx => hs x (by rw [e]; exact List.mem_append_right _ hx)), e⟩
theorem trodAll_len {w : World} {base : Nat} {sp : Nat → Bool} {held : Bool} : ∀ {ts : List TypeId} {vs : List Value} {ds : List (DataW H)} {ps : List MemPlace}, DataW.TrodAll enc P w base sp held ts vs ds ps → ds.length = ts.length
 |[], [], [], _, _ => rfl
 |_ :: _, _ :: _, _ :: _, _, ⟨_, _, _, h2, _⟩ => by simp [trodAll_len h2]
theorem law_post {f : Func} {s : ChangeSpec} {apart fresh handsOn again : Bool} {W W' : World} {args : Array Value} {ds gs : List (DataW H)} {before : List MemPlace} (hl : laidOutB P = true) (hm : mapsRowed P = true)
  (hz : ∀ t e, t < P.types.size → P.underlying t = some (.slice e) → 0 < P.cellsOf e) (hts : ∀ t ∈ f.params.toList, t < P.types.size) (hv : s.vars = [])
  (hW : DataW.Whole enc P f.params.toList s.vars apart W args.toList ds gs before) (hb : Below W.heap.size W W') {tb : TypeId} (hres : f.resultTypes = #[tb]) (hbool : P.underlying tb = some .bool)
  (hfn : ∀ ds : List (DataW H), ds.length = f.params.toList.length → s.fn H ds = { results := [.lit (.bool true)], args := ds }) : s.post enc P f apart fresh handsOn again W args (.bool true) W' := by
 have hW' := hW;obtain ⟨p, q, hA, hV, rfl, hfz, hnd⟩ := hW;rw [hv] at hV
 have hq : gs = [] ∧ q = [] := by
  cases gs with
  |nil => exact ⟨rfl, hV⟩
  |cons _ _ => exact hV.elim
 obtain ⟨rfl, rfl⟩ := hq;have hfn' := hfn (ds ++ []) (by rw [List.append_nil]; exact trodAll_len hA);have hlt : ∀ x ∈ p, x.block < W.heap.size := DataW.TrodAll.lt hA
 have hargs : ∀ sp : Nat → Bool, (∀ x ∈ p ++ [], sp x.block = true) → DataW.TrodAll enc P W' 0 sp true f.params.toList args.toList ds p := fun sp hsp =>
  trodAll_carry (DataW.TrodAll.respare (kids_rows hl hm) hz hts hA fun x hx => hsp x (List.mem_append_left _ hx)) fun x hx => below_sameAt hb (hlt x hx)
 have hrl : ((Value.bool true).resultList f.resultTypes.size) = [.bool true] := by rw [hres]; rfl
 have hres' : ∀ (b : Nat) (sp : Nat → Bool) (hd : Bool), DataW.TrodAll enc P W' b sp hd f.resultTypes.toList ((Value.bool true).resultList f.resultTypes.size) (s.fn H (ds ++ [])).results [] := fun b sp hd => by
  rw [hrl, hfn', hres];exact trodAll_mk1 (shut_bool hbool true)
 have hvars : ∀ sp : Nat → Bool, DataW.TrodVars enc P W' sp s.vars (s.fn H (ds ++ [])).vars [] := fun sp => by rw [hfn', hv]; rfl
 have hargs' : ∀ sp : Nat → Bool, (∀ x ∈ p ++ [], sp x.block = true) → DataW.TrodAll enc P W' 0 sp true f.params.toList args.toList (s.fn H (ds ++ [])).args p := fun sp hsp => by
  rw [hfn']; simpa using hargs sp hsp
 have hold : ∀ x ∈ p ++ [], (fun b => decide (b < W.heap.size)) x.block = true := fun x hx => by simpa using hlt x (by simpa using hx)
 refine ⟨ds, [], p ++ [], [], p, [], hW', hres' _ _ _, hargs' _ hold, hvars _, World.keptBut_mono (fun x hx => ⟨hx, ?_⟩) (hb.frame (· ∈ p ++ [])), fun _ => ⟨?_, _, _, ([] ++ p) ++ [], ⟨[] ++ p, [], trodAll_append (hargs' _ (fun _ _ => rfl)) (hres' _ _ _), hvars _, rfl, ?_, ?_⟩, ?_⟩⟩
 ·exact .inr (.inl (by simpa using hx))
 ·intro j t r ht hr;rw [hrl] at hr;rw [hres] at ht
  cases j with
  |zero => simp at ht hr; subst ht hr; exact okWide_bool_mk hbool _
  |succ j => simp at hr
 ·intro b off hp;have hin : MemPlace.cell b off ∈ p ++ [] := by simpa using hp
  rw [hb.frozen (hlt _ (by simpa using hin))];exact hfz b off hin
 ·intro ha;simpa using hnd ha
 ·intro x hx _;simpa using hx
end
theorem z1d.top {P : Program} {f : FuncId} {args : List SV} {H0 : AH} (hent : Ent P f) (hF : z1d P f args H0 (fun s _ => s = .bool true)) (β : Env) (w : World) (vs : List Value)
  (hh : ∀ id k o, look H0.os id k = some o → o.own = false ∧ id < H0.nxt ∧ o.lt H0.nxt ∧ o.holds β w (β id k)) (hd : z40 β args vs) (hl : SV.ltL H0.nxt args) (htab : ∀ g, tabG P g = true → g < w.heap.size ∧ TabAt w g) (htabB : ∀ g, tabBG P g = true → g < w.heap.size ∧ TabBAt w g) :
  Calls P f vs.toArray w fun e w' => e = .returned (.bool true) ∧ Below w.heap.size w w' := by
 let own0 : Nat → Nat → Prop := fun id k => ∃ o, look H0.os id k = some o ∧ o.own = true
 let X : Cx := { P := P, n := 0, w0 := w, own0 := own0, m0 := H0.nxt, β0 := β }
 have no : ∀ id k o, look H0.os id k = some o → ¬ o.own = true := fun id k o h => by rw [(hh id k o h).1]; simp
 have no0 : ∀ id k, ¬ own0 id k := fun id k ⟨o, h1, h2⟩ => no id k o h1 h2
 have hS : St X β H0 w := {
  os := rfl, tape := rfl, output := rfl, size := Nat.le_refl _, fix := fun _ _ _ => rfl
  holds := fun id k o h => (hh id k o h).2.2.2
  sep := fun id k id' k' o o' L L' h _ ho => absurd ho (no id k o h)
  old := fun _ _ _ => rfl
  mine := fun id k o L h ho => absurd ho (no id k o h)
  keep := fun id k h => absurd h (no0 id k)
  m0 := Nat.le_refl _
  lt := fun id k o h => ⟨(hh id k o h).2.1, (hh id k o h).2.2.1⟩
  tabs := ⟨fun g hg => ⟨(htab g hg).1, (htab g hg).2, fun id k _ h _ => absurd h (no0 id k)⟩, fun g hg => ⟨(htabB g hg).1, (htabB g hg).2, fun id k _ h _ => absurd h (no0 id k)⟩⟩
  drawn := Nat.le_refl _ }
 refine ((hF X β w vs rfl rfl rfl rfl rfl hS hd hl).calls hent).mono fun e w' ⟨v, he, β', s, H', hs, _, hdv, _, hS'⟩ => ?_;subst hs;simp only [den] at hdv;subst hdv
 exact ⟨he, hS'.os, hS'.tape, hS'.output, hS'.size, fun b hb => hS'.old b hb fun id k o L h ho hβ => by
  rcases hS'.mine id k o L h ho hβ with ⟨_, h1⟩ | ⟨_, h2⟩
  ·exact absurd h1 (no0 id k)
  ·have : w.heap.size ≤ L.blk := h2
   omega⟩
end Go.Sk

namespace Go.Sk
open Go.RowKit Go.WideShapes Go.ChangeShapes
inductive FK where
 |i (k : IntKind) | s | b
def FK.is (P : Program) (t : TypeId) : FK → Bool
 |.i k => match P.underlying t with | some (.int k') => k' == k | _ => false
 |.s => match P.underlying t with | some .string => true | _ => false
 |.b => match P.underlying t with | some .bool => true | _ => false
def FK.ok : FK → Value → Prop
 |.i k, v => ∃ z, v = .int k z ∧ (Lit.int k z).wf = true
 |.s, v => ∃ x : ByteArray, v = .string x ∧ x.size ≤ maxLen
 |.b, v => ∃ x, v = .bool x
def svOf : Value → SV
 |.int k z => .int k z
 |.string x => .str x
 |.bool x => .bool x
 |v => .raw v
theorem FK.den {β : Env} {k : FK} {v : Value} (h : k.ok v) : den β (svOf v) v ∧ (svOf v).scalar = true ∧ ∀ m, (svOf v).lt m := by
 cases k <;> simp only [FK.ok] at h
 ·obtain ⟨z, rfl, _⟩ := h; exact ⟨rfl, rfl, fun _ => trivial⟩
 ·obtain ⟨z, rfl, _⟩ := h; exact ⟨rfl, rfl, fun _ => trivial⟩
 ·obtain ⟨z, rfl⟩ := h; exact ⟨rfl, rfl, fun _ => trivial⟩
def okRow : List FK → List Value → Prop
 |[], [] => True
 |k :: ks, v :: vs => k.ok v ∧ okRow ks vs
 |_, _ => False
theorem okRow_len : ∀ {ks : List FK} {vs : List Value}, okRow ks vs → vs.length = ks.length
 |[], [], _ => rfl
 |_ :: _, _ :: _, h => by simp [okRow_len h.2]
 |[], _ :: _, h => h.elim
 |_ :: _, [], h => h.elim
theorem okRow_get : ∀ {ks : List FK} {vs : List Value}, okRow ks vs → ∀ (j : Nat) (v : Value), vs[j]? = some v → ∃ k : FK, k.ok v
 |[], [], _, j, v, h => by simp at h
 |k :: _, _ :: _, h, j, v, hj => by
  cases j with
  |zero => simp at hj; subst hj; exact ⟨k, h.1⟩
  |succ j => simp at hj; exact okRow_get h.2 j v hj
 |[], _ :: _, h, _, _, _ => h.elim
 |_ :: _, [], h, _, _, _ => h.elim
def fldsB (P : Program) (fs : Array Field) : Nat → List FK → Bool
 |i, [] => i == fs.size
 |i, k :: ks => (match fs[i]? with | some f => f.offset == i && P.cellsOf f.type == 1 && k.is P f.type | none => false) && fldsB P fs (i + 1) ks
def flatB (P : Program) (t : TypeId) (ks : List FK) : Bool :=
 P.cellsOf t == ks.length && (match P.underlying t with
  |some (.struct fs) => fldsB P fs 0 ks
  |_ => match ks with | [k] => k.is P t | _ => false)
section
variable {H : Type} {enc : TypeId × Value → H} {P : Program} {w : World} {base : Nat} {sp : Nat → Bool} {held : Bool}
theorem one_open {k : FK} {t : TypeId} {fuel : Nat} {cs : List Value} {x : DataW H × List MemPlace} (hk : k.is P t = true) (h : DataW.trod enc P w base sp held fuel t cs = some x) : ∃ v, cs = [v] ∧ k.ok v := by
 cases k <;> simp only [FK.is] at hk
 ·split at hk
  ·rename_i k' hu;obtain rfl := eq_of_beq hk;obtain ⟨n, rfl, _, hw⟩ := DataW.trod_int hu h;exact ⟨_, rfl, n, rfl, hw⟩
  ·cases hk
 ·split at hk
  ·rename_i hu;obtain ⟨s, rfl, _, hs⟩ := DataW.trod_string hu h;exact ⟨_, rfl, s, rfl, hs⟩
  ·cases hk
 ·split at hk
  ·rename_i hu;obtain ⟨b, rfl, _⟩ := DataW.trod_bool hu h;exact ⟨_, rfl, b, rfl⟩
  ·cases hk
theorem flds_open {fs : Array Field} {n : Nat} {cs : List Value} {xs : List (DataW H × List MemPlace)} (hx : xs.length = fs.size) (hf : ∀ (i : Nat) (f : Field), fs[i]? = some f → DataW.trod enc P w base sp held n f.type ((cs.drop f.offset).take (P.cellsOf f.type)) = xs[i]?) :
  ∀ (ks : List FK) (i : Nat), fldsB P fs i ks = true → i + ks.length = cs.length → okRow ks (cs.drop i)
 |[], i, _, hl => by rw [List.drop_eq_nil_of_le (by simp at hl; omega)]; trivial
 |k :: ks, i, h, hl => by
  simp only [fldsB, Bool.and_eq_true] at h;obtain ⟨h1, h2⟩ := h;simp only [List.length_cons] at hl
  split at h1
  ·rename_i f hfi;simp only [Bool.and_eq_true, beq_iff_eq] at h1;obtain ⟨⟨h3, h4⟩, h5⟩ := h1;have h6 := hf i f hfi;have hi : i < xs.length := by rw [hx]; exact (Array.getElem?_eq_some_iff.1 hfi).1
   rw [h3, h4, List.getElem?_eq_getElem hi] at h6;obtain ⟨v, hv, hok⟩ := one_open h5 h6;rw [List.drop_eq_getElem_cons (by omega), List.take_succ_cons, List.take_zero] at hv;rw [List.drop_eq_getElem_cons (by omega)];have : cs[i] = v := by simpa using hv
   rw [this];exact ⟨hok, flds_open hx hf ks (i + 1) h2 (by omega)⟩
  ·cases h1
theorem flat_open {t : TypeId} {ks : List FK} {fuel : Nat} {cs : List Value} {x : DataW H × List MemPlace} (hb : flatB P t ks = true) (h : DataW.trod enc P w base sp held fuel t cs = some x) : okRow ks cs := by
 simp only [flatB, Bool.and_eq_true, beq_iff_eq] at hb;obtain ⟨hc, hb⟩ := hb
 split at hb
 ·rename_i fs hu;obtain ⟨xs, m, _, _, hl, hxl, hf⟩ := DataW.trod_struct hu h;have := flds_open hxl hf ks 0 hb (by omega);rwa [List.drop_zero] at this
 ·split at hb
  ·rename_i k;obtain ⟨v, rfl, hok⟩ := one_open hb h;exact ⟨hok, trivial⟩
  ·cases hb
structure RwIn (w : World) (v : Value) (q : Option Loc) (ks : List FK) (rows : List (List Value)) : Prop where
 len : rows.length ≤ maxLen
 ok : ∀ r ∈ rows, okRow ks r
 val : ∃ a c, v = .slice a rows.length c ∧ rows.length ≤ c ∧ (0 < rows.length → ∃ L, q = some L ∧ a = some ⟨L.blk, L.off, none⟩)
 mem : (rows.length = 0 ∧ q = none) ∨ ∃ L, q = some L ∧ L.sz = ks.length ∧ L.blk < w.heap.size ∧ ∀ (i : Nat) (r : List Value), rows[i]? = some r → ∀ (j : Nat) (u : Value), r[j]? = some u → w.cell? ⟨L.blk, L.off + i * ks.length + j, none⟩ = some u
theorem rows_open {t e : TypeId} {ks : List FK} {v : Value} {d : DataW H} {p : List MemPlace} (ht : P.underlying t = some (.slice e)) (hb : flatB P e ks = true) (hk0 : 0 < ks.length) {b0 : Nat}
  (hval : Value.okWide P w .any b0 t v) (h : DataW.Trod enc P w base sp held t v d p) : ∃ q rows, RwIn w v q ks rows := by
 obtain ⟨n, hn⟩ := h;obtain ⟨a0, l0, c0, rfl⟩ := okWide_slice ht hval;have hce : P.cellsOf e = ks.length := by simp only [flatB, Bool.and_eq_true, beq_iff_eq] at hb; exact hb.1
 have hcs : (Value.slice a0 l0 c0).cells.toList = [Value.slice a0 l0 c0] := rfl;rw [hcs] at hn;rcases Deep.open_slice ht hn with ⟨hv, _⟩ | ⟨a, len, cap, m, n', D, Pl, hv, hbb, hlc, hcm, hmm, _, hel⟩
 ·cases hv
  exact ⟨none, [], ⟨by simp, by simp, ⟨none, 0, rfl, by simp, by simp⟩, .inl ⟨rfl, rfl⟩⟩⟩
 ·cases hv
  have hml : l0 ≤ m := by rw [hmm]; split <;> omega
  obtain ⟨R, hR⟩ := Deep.choose_lt (α := List Value) (p := fun i cs => w.cells? base (a.add (i * P.cellsOf e)) (P.cellsOf e) = some cs ∧ DataW.trod enc P w base sp held n' e cs = some (D i, Pl i)) hel;have hrl : ((List.range l0).map R).length = l0 := by simp
  have hget : ∀ i r, ((List.range l0).map R)[i]? = some r → i < l0 ∧ r = R i := fun i r h => by
   simp only [List.getElem?_map, Option.map_eq_some_iff] at h;obtain ⟨k, h1, h2⟩ := h
   have hi : i < l0 := by
    rcases Nat.lt_or_ge i l0 with h | h
    ·exact h
    ·rw [List.getElem?_eq_none (by simpa using h)] at h1; cases h1
   rw [List.getElem?_range hi] at h1
   cases h1
   exact ⟨hi, h2.symm⟩
  have hok : ∀ i, i < m → okRow ks (R i) := fun i hi => flat_open hb (hR i hi).2
  have hrow : ∀ r ∈ (List.range l0).map R, okRow ks r := fun r hr => by
   obtain ⟨i, hi, rfl⟩ := List.mem_map.1 hr;exact hok i (by have := List.mem_range.1 hi; omega)
  by_cases h0 : l0 = 0
  ·subst h0;exact ⟨none, [], ⟨by simp, by simp, ⟨some a, c0, rfl, by simp, by simp⟩, .inl ⟨rfl, rfl⟩⟩⟩
  ·have hcell : ∀ i, i < l0 → ∀ (j : Nat) (u : Value), (R i)[j]? = some u → w.cell? ((a.add (i * ks.length)).add j) = some u := fun i hi j u hj => by
    obtain ⟨h1, h2⟩ := hR i (by omega);obtain ⟨_, hlen, hc⟩ := World.cells?_some h1;have hjl : j < P.cellsOf e := by rw [← hlen]; exact (List.getElem?_eq_some_iff.1 hj).1
    rw [← hce, hc j hjl];exact hj
   have hr0 : ∃ u, (R 0)[0]? = some u := by
    have := okRow_len (hok 0 (by omega));exact ⟨_, List.getElem?_eq_getElem (by omega)⟩
   obtain ⟨u0, hu0⟩ := hr0;have hc0 := hcell 0 (by omega) 0 u0 hu0;have hsp : a.spot = none := World.cell?_spot (by unfold Addr.add at hc0; simpa using hc0);obtain ⟨b, o, s0⟩ := a;simp only at hsp;subst hsp
   have hblk : b < w.heap.size := by
    rw [z50, z50] at hc0;unfold World.cell? at hc0;rcases Nat.lt_or_ge b w.heap.size with h | h
    ·exact h
    ·simp [Array.getElem?_eq_none h] at hc0
   refine ⟨some ⟨b, o, ks.length, 0⟩, (List.range l0).map R, ⟨by omega, hrow, ⟨some ⟨b, o, none⟩, c0, by rw [hrl], by omega, fun _ => ⟨_, rfl, rfl⟩⟩, .inr ⟨_, rfl, rfl, hblk, fun i r hr j u hj => ?_⟩⟩⟩;obtain ⟨hi, rfl⟩ := hget i r hr;have := hcell i hi j u hj;rw [z50, z50] at this;exact this
end
theorem rows_in {β : Env} {w : World} {v : Value} {q : Option Loc} {ks : List FK} {rows : List (List Value)} (h : RwIn w v q ks rows) {id : Nat} (hq : β id 0 = q) (e : TypeId) (f : Nat → List SV) (hf : ∀ (i : Nat) (r : List Value), rows[i]? = some r → f i = r.map svOf) :
  den β (.slc false id 0 0 rows.length) v ∧ (Obj.row ⟨false, false, e, ks.length, rows.length, f⟩).holds β w q := by
 obtain ⟨_, hok, ⟨a, c, rfl, hc, hp⟩, hm⟩ := h;refine ⟨?_, ?_⟩
 ·simp only [den, z67, Bool.false_eq_true, if_false];refine ⟨a, c, rfl, hc, fun h => ?_⟩;obtain ⟨L, h1, h2⟩ := hp h;exact ⟨L, hq.trans h1, by rw [h2]; simp⟩
 ·rcases hm with hm | ⟨L, h1, h2, h3, h4⟩
  ·exact .inl hm
  ·refine .inr ⟨L, h1, h2, h3, fun i hi => ?_, fun h => by cases h⟩;have hi' : i < rows.length := hi;have hr := List.getElem?_eq_getElem hi';have hfi := hf i _ hr;have hoki := hok _ (List.getElem_mem hi')
   show (f i).length = ks.length ∧ ∀ (j : Nat) (s : SV), (f i)[j]? = some s → _
   rw [hfi];refine ⟨by rw [List.length_map]; exact okRow_len hoki, fun j s hs => ?_⟩;rw [List.getElem?_map, Option.map_eq_some_iff] at hs;obtain ⟨u, hu, rfl⟩ := hs;obtain ⟨k, hk⟩ := okRow_get hoki j u hu;obtain ⟨g1, g2, _⟩ := FK.den (β := β) hk;refine ⟨g2, u, ?_, g1⟩;rw [h2];exact h4 i _ hr j u hu
def strData {H : Type} (ss : List ByteArray) : DataW H := .agg (ss.map fun s => .lit (.string s.data.toList))
theorem cells_of_strs {H : Type} {enc : TypeId × Value → H} {P : Program} {w : World} {base : Nat} {sp : Nat → Bool} {held : Bool} {fuel : Nat} {t e : TypeId} {n : Nat} {cs : List Value} {ss : List ByteArray} {p : List MemPlace}
  (ht : P.underlying t = some (.array n e)) (he : P.underlying e = some .string) (hce : P.cellsOf e = 1) (hct : P.cellsOf t = n)
  (h : DataW.trod enc P w base sp held fuel t cs = some (strData ss, p)) : cs = ss.map Value.string := by
 cases fuel with
 |zero => simp [DataW.trod] at h
 |succ fuel =>
  simp only [DataW.trod, ht, hce, hct, Nat.mul_one] at h
  split at h
  ·rename_i hl;obtain ⟨xs, hm, hx⟩ := Option.map_eq_some_iff.1 h
   have hxs : xs.map (·.1) = ss.map fun s => (DataW.lit (.string s.data.toList) : DataW H) := by
    have := congrArg Prod.fst hx;simpa [strData] using this
   have hxl : xs.length = n := by simpa using Lib.mapM_length hm
   have hzl : ss.length = n := by
    have := congrArg List.length hxs;simp at this;omega
   apply List.ext_getElem?;intro i
   by_cases hi : i < n
   ·obtain ⟨b, hb, hf⟩ := Lib.mapM_at hm i i (by simp [hi]);obtain ⟨z, hc, rfl, _⟩ := DataW.trod_string he hf
    have h1 : cs[i]? = some (.string z) := by
     have := congrArg (·[0]?) hc;simpa [List.getElem?_take, List.getElem?_drop] using this
    have h2 : (xs.map (·.1))[i]? = some (DataW.lit (.string z.data.toList) : DataW H) := by simp [hb]
    rw [hxs] at h2;simp only [List.getElem?_map, Option.map_eq_some_iff, DataW.lit.injEq, Lit.string.injEq] at h2;obtain ⟨z', hz', he'⟩ := h2
    have : z' = z := by
     cases z' with
     |mk a => cases z with
      |mk b => congr 1; exact Array.toList_inj.1 he'
    subst this;simp [h1, hz']
   ·rw [List.getElem?_eq_none (by omega), List.getElem?_eq_none (by simp; omega)]
  ·cases h
end Go.Sk

namespace Go.Sk
open Go.RowKit Go.ChangeShapes Go.WideShapes
theorem LaidVars_at {P : Program} {w : World} {n : String} {d : DataW Unit} : ∀ {l : List (String × DataW Unit)} {ps : List MemPlace}, DataW.LaidVars P w l ps → (n, d) ∈ l →
  ∃ g t cs fuel p, P.globalNamed n = some g ∧ (P.globals[g]?).map (·.type) = some t ∧ w.var? P n = some cs ∧ DataW.trod (fun _ => ()) P w 0 (fun _ => true) false fuel t cs.toList = some (d, p)
 |[], _, _, h => by cases h
 |(m, e) :: r, ps, ⟨g, t, cs, fuel, p, q, h1, h2, h3, h4, h5, _⟩, h => by
  cases h with
  |head => exact ⟨g, t, cs, fuel, p, h1, h2, h3, h4⟩
  |tail _ h => exact LaidVars_at h5 h
theorem tabs_of_mem {P : Program} {W : World} {laid : List (String × DataW Unit)} {name : String} {g : Nat} {t e : TypeId} (hg : P.globalNamed name = some g) (hty : (P.globals[g]?).map (·.type) = some t) (ht : P.underlying t = some (.array 6 e)) (he : P.underlying e = some .string) (hce : P.cellsOf e = 1) (hct : P.cellsOf t = 6)
  (hone : (List.range P.globals.size).all (fun i => !tabG P i || i == g) = true) (hm : (name, strData letters) ∈ laid) (h : laidMet P laid W) : ∀ i, tabG P i = true → i < W.heap.size ∧ TabAt W i := by
 obtain ⟨ps, h, _⟩ := h;obtain ⟨g', t', cs, fuel, p, hg', ht', hvar, hd⟩ := LaidVars_at h hm;obtain rfl := Option.some.inj (hg.symm.trans hg');obtain rfl := Option.some.inj (hty.symm.trans ht');have hcs := cells_of_strs ht he hce hct hd;intro i hi
 have hlt : i < P.globals.size := by
  rcases Nat.lt_or_ge i P.globals.size with h | h
  ·exact h
  ·unfold tabG at hi; rw [Array.getElem?_eq_none h] at hi; cases hi
 have h1 := List.all_eq_true.1 hone i (List.mem_range.2 hlt);rw [hi] at h1;have : i = g := by simpa using h1
 subst this
 have hat : TabAt W i := fun j s hj => by
  have := World.var?_cell hg hvar j;rw [this, ← Array.getElem?_toList, hcs, List.getElem?_map, hj]
  rfl
 refine ⟨?_, hat⟩;have h0 := hat 0 _ (show letters[0]? = some _ from rfl);unfold World.cell? at h0;rcases Nat.lt_or_ge i W.heap.size with h | h
 ·exact h
 ·simp [Array.getElem?_eq_none h] at h0
def byteData {H : Type} (ns : List Int) : DataW H := .agg (ns.map fun n => .lit (.int .u8 n))
theorem cells_of_bytes {H : Type} {enc : TypeId × Value → H} {P : Program} {w : World} {base : Nat} {sp : Nat → Bool} {held : Bool} {fuel : Nat} {t e : TypeId} {n : Nat} {cs : List Value} {ss : List Int} {p : List MemPlace}
  (ht : P.underlying t = some (.array n e)) (he : P.underlying e = some (.int .u8)) (hce : P.cellsOf e = 1) (hct : P.cellsOf t = n)
  (h : DataW.trod enc P w base sp held fuel t cs = some (byteData ss, p)) : cs = ss.map (Value.int .u8 ·) := by
 cases fuel with
 |zero => simp [DataW.trod] at h
 |succ fuel =>
  simp only [DataW.trod, ht, hce, hct, Nat.mul_one] at h
  split at h
  ·rename_i hl;obtain ⟨xs, hm, hx⟩ := Option.map_eq_some_iff.1 h
   have hxs : xs.map (·.1) = ss.map fun s => (DataW.lit (.int .u8 s) : DataW H) := by
    have := congrArg Prod.fst hx;simpa [byteData] using this
   have hxl : xs.length = n := by simpa using Lib.mapM_length hm
   have hzl : ss.length = n := by
    have := congrArg List.length hxs;simp at this;omega
   apply List.ext_getElem?;intro i
   by_cases hi : i < n
   ·obtain ⟨b, hb, hf⟩ := Lib.mapM_at hm i i (by simp [hi]);obtain ⟨z, hc, rfl, _⟩ := DataW.trod_int he hf
    have h1 : cs[i]? = some (.int .u8 z) := by
     have := congrArg (·[0]?) hc;simpa [List.getElem?_take, List.getElem?_drop] using this
    have h2 : (xs.map (·.1))[i]? = some (DataW.lit (.int .u8 z) : DataW H) := by simp [hb]
    rw [hxs] at h2;simp only [List.getElem?_map, Option.map_eq_some_iff, DataW.lit.injEq, Lit.int.injEq, true_and] at h2;obtain ⟨z', hz', rfl⟩ := h2;simp [h1, hz']
   ·rw [List.getElem?_eq_none (by omega), List.getElem?_eq_none (by simp; omega)]
  ·cases h
theorem tabsB_of_mem {P : Program} {W : World} {laid : List (String × DataW Unit)} {name : String} {g : Nat} {t e : TypeId} (hg : P.globalNamed name = some g) (hty : (P.globals[g]?).map (·.type) = some t) (ht : P.underlying t = some (.array 32 e)) (he : P.underlying e = some (.int .u8)) (hce : P.cellsOf e = 1) (hct : P.cellsOf t = 32)
  (hone : (List.range P.globals.size).all (fun i => !tabBG P i || i == g) = true) (hm : (name, byteData db32) ∈ laid) (h : laidMet P laid W) : ∀ i, tabBG P i = true → i < W.heap.size ∧ TabBAt W i := by
 obtain ⟨ps, h, _⟩ := h;obtain ⟨g', t', cs, fuel, p, hg', ht', hvar, hd⟩ := LaidVars_at h hm;obtain rfl := Option.some.inj (hg.symm.trans hg');obtain rfl := Option.some.inj (hty.symm.trans ht');have hcs := cells_of_bytes ht he hce hct hd;intro i hi
 have hlt : i < P.globals.size := by
  rcases Nat.lt_or_ge i P.globals.size with h | h
  ·exact h
  ·unfold tabBG at hi; rw [Array.getElem?_eq_none h] at hi; cases hi
 have h1 := List.all_eq_true.1 hone i (List.mem_range.2 hlt);rw [hi] at h1;have : i = g := by simpa using h1
 subst this
 have hat : TabBAt W i := fun j s hj => by
  have := World.var?_cell hg hvar j;rw [this, ← Array.getElem?_toList, hcs, List.getElem?_map, hj]
  rfl
 refine ⟨?_, hat⟩;have h0 := hat 0 _ (show db32[0]? = some _ from rfl);unfold World.cell? at h0;rcases Nat.lt_or_ge i W.heap.size with h | h
 ·exact h
 ·simp [Array.getElem?_eq_none h] at h0
end Go.Sk

namespace Go.Proofs
open Go.Sk
theorem Tryd.tyBool : z2k Tryd.prog 4 = ⟨true, .bool, 1, 1, []⟩ := by kernel_rfl
theorem z55 {P : Program} {f : FuncId} {args args0 : List SV} {H0 H : AH} {R : SV → AH → Prop} {dr : Bool} {W : List Nat} {k : SV → AH → Prop} (hF : z1d P f args0 H0 R) (ρ : Nat → Nat)
  (hk : ∀ s0 H1, R s0 H1 → ∀ s1 H2, s1 = s0.ren (z4q H0.nxt H.nxt ρ) → H2 = after H0.nxt ρ H0 H H1 → k s1 H2)
  (a1 : SV.wkL args (SV.renL ρ args0) := by simp [SV.wkL, SV.wk, SV.renL, SV.ren, zl, zc, z9, ze, nds, Nd.sv, zb, za, zq, zr, zh, zj, zx, zg, zn, zi, zo, zp, z17, z16, z23, ints, z1l, z2j]) (a2 : SV.ltL H.nxt (SV.renL ρ args0) := by simp [SV.renL, SV.ren, SV.ltL, SV.lt, zl, zc, z9, ze, nds, Nd.sv, zb, za, zq, zr, zh, zj, zx, zg, zn, zi, zo, zp, z17, z16, z23, ints, z1l, z2j]) (a3 : SV.ltL H0.nxt args0 := by simp [SV.ltL, SV.lt, zl, zc, z9, ze, nds, Nd.sv, zb, za, zq, zr, zh, zj, zx, zg, zn, zi, zo, zp, z17, z16, z23, ints, z1l, z2j])
  (a4 : (List.range H0.nxt).all (fun id => decide (ρ id < H.nxt)) = true := by exact rfl) (a5 : z18 ρ H0.nxt H.os H0.os := by simp [z18, Sk.find, Sk.one, zf.eq_1, zf.eq_2, zf.eq_3, z1b, z1r, SV.renL, SV.ren, Obj.lt_row, SV.ltL, SV.lt, zl, zc, z9, ze, nds, Nd.sv, zb, za, zq, zr, zh, zj, zx, zg, zn, zi, zo, zp, z17, z16, z23, ints, z1l, z2j]) (a6 : z53 ρ H0.os = true := by exact rfl) (a7 : z1t H0.os := by simp [z1t, Sk.one, Obj.own.eq_1, Obj.own.eq_2, Obj.own.eq_3, Obj.own.eq_4, zl, zc, z9, ze, nds, Nd.sv, zb, za, zq, zr, zh, zj, zx, zg, zn, zi, zo, zp, z17, z16, z23, ints, z1l, z2j])
  (a8 : (H0.os.map (·.1)).Nodup := by simp) (a9 : ∀ x ∈ H0.os, (x.2.2 0).own = true → (Sk.find H.os (ρ x.1)).map (·.1) = some x.2.1 := by simp [Sk.one, Obj.own.eq_1, Obj.own.eq_2, Obj.own.eq_3, Obj.own.eq_4, Sk.find, zl, zc, z9, ze, nds, Nd.sv, zb, za, zq, zr, zh, zj, zx, zg, zn, zi, zo, zp, z17, z16, z23, ints, z1l, z2j]) (a10 : dr = true → (z1i ρ H0.os).all (fun id => W.contains id) = true := by simp [z1i, Sk.one, Obj.own.eq_1, Obj.own.eq_2, Obj.own.eq_3, Obj.own.eq_4, zl, zc, z9, ze, nds, Nd.sv, zb, za, zq, zr, zh, zj, zx, zg, zn, zi, zo, zp, z17, z16, z23, ints, z1l, z2j]) : callK P f args H dr W k :=
 z3r hF ρ a1 a2 a3 a4 a5 a6 a7 a8 a9 a10 hk
theorem IoKm.g0 {X : Cx} {fr : Fr} {H : AH} {fr1 : Fr} {H1 : AH} (ρ : Nat → Nat) (a1 : z1a ρ H1.nxt fr fr1 := by simp [z1a, Sk.get, zo, SV.lt, SV.ltL, zl, zc, z9, ze, nds, Nd.sv, zb, za, zq, zr, zh, zj, zx, zg, zn, zi, zo, zp, z17, z16, z23, ints, z1l, z2j]) (a2 : z18 ρ H1.nxt H.os H1.os := by simp [z18, Sk.find, Sk.one, zf.eq_1, zf.eq_2, zf.eq_3, z1b, z1r, Obj.lt_row, SV.ltL, SV.lt, zl, zc, z9, ze, nds, Nd.sv, zb, za, zq, zr, zh, zj, zx, zg, zn, zi, zo, zp, z17, z16, z23, ints, z1l, z2j]) (a3 : z53 ρ H1.os = true := by exact rfl)
  (a4 : z1t H1.os := by simp [z1t, Sk.one, zl, zc, z9, ze, nds, Nd.sv, zb, za, zq, zr, zh, zj, zx, zg, zn, zi, zo, zp, z17, z16, z23, ints, z1l, z2j]) (a5 : (List.range X.m0).all (fun id => ρ id == id) = true := by exact rfl) (a6 : X.m0 ≤ H1.nxt := by exact Nat.le_of_ble_eq_true rfl) (a7 : z1t H.os := by simp [z1t, Sk.one, Obj.own.eq_1, Obj.own.eq_2, Obj.own.eq_3, Obj.own.eq_4, zl, zc, z9, ze, nds, Nd.sv, zb, za, zq, zr, zh, zj, zx, zg, zn, zi, zo, zp, z17, z16, z23, ints, z1l, z2j])
  (a8 : z25 X.m0 H.os H1.os := by simp [z25, Sk.one, Obj.own.eq_1, Obj.own.eq_2, Obj.own.eq_3, Obj.own.eq_4, Sk.find, zl, zc, z9, ze, nds, Nd.sv, zb, za, zq, zr, zh, zj, zx, zg, zn, zi, zo, zp, z17, z16, z23, ints, z1l, z2j]) (a9 : bigB X.m0 ρ H1.os = true := by exact rfl) : z1x X ρ fr H fr1 H1 := z1x.mk' ρ a1 a2 a3 a4 a5 a6 a7 a8 a9
theorem IoKm.r3 {a : Prop} (h : a := by simp [z47, Sk.one, Obj.own.eq_1, Obj.own.eq_2, Obj.own.eq_3, Obj.own.eq_4, zl, zc, z9, ze, nds, Nd.sv, zb, za, zq, zr, zh, zj, zx, zg, zn, zi, zo, zp, z17, z16, z23, ints, z1l, z2j]) : a := h
end Go.Proofs

namespace Go.Proofs
open Go.Sk
theorem kind4 (g : Int → Nd) (d : Df) : (kindN g d = 4) ↔ d.hv = 0 := by
 rw [kindN]
 by_cases h : d.hv = 0
 ·simp [h]
 ·simp only [h, if_false, iff_false]
  split
  ·decide
  ·split
   ·decide
   ·split <;> decide
theorem kind4b (g : Int → Nd) (id lev side hv wt : Int) : ((kindN g ⟨0, id, lev, side, hv, wt⟩ == 4) == (hv == 0)) = true := by
 have := kind4 g ⟨0, id, lev, side, hv, wt⟩;rw [beq_iff_eq, Bool.eq_iff_iff, beq_iff_eq, beq_iff_eq]; exact this
theorem set_pair {W : List Lk} {i lv : Nat} (hi : i < W.length) (hlv : lv < (lk W i).lv.length) (x : Int × Int) :
  (∀ j, j ≠ i → (lk (W.set i { lk W i with lv := (lk W i).lv.set lv x }) j).lv = (lk W j).lv) ∧ (∀ q, q ≠ lv → pI (lk (W.set i { lk W i with lv := (lk W i).lv.set lv x }) i).lv q = pI (lk W i).lv q) ∧ pI (lk (W.set i { lk W i with lv := (lk W i).lv.set lv x }) i).lv lv = x := by
 refine ⟨fun j hj => ?_, fun q hq => ?_, ?_⟩
 ·rw [lk_set' _ _ _ _ hi, if_neg hj]
 ·rw [lk_set' _ _ _ _ hi, if_pos rfl]; dsimp only; rw [pI_set' _ _ _ _ hlv, if_neg hq]
 ·rw [lk_set' _ _ _ _ hi, if_pos rfl]; dsimp only; rw [pI_set' _ _ _ _ hlv, if_pos rfl]
theorem find_left {xs : List Nd} {h : Int} (hp : propB xs h = true) {i lv : Nat} (hi : i < xs.length) (hlv : (lv : Int) ≤ h) (v : Int) :
  chkN xs (setLk (z4d xs h) i lv v) h = dfO (mpN xs xs.length) (lk (z4d xs h) i).id lv 0 v (pI (lk (z4d xs h) i).lv lv).1 := by
 obtain ⟨hg, h0, h16⟩ := prop_good hp;have hsl : (z5v xs).length = xs.length := (z43 xs).length_eq.symm;have hbl : (z4d xs h).length = xs.length := by rw [bldR_of hp, bldN_len, hsl]
 have hll : (lk (z4d xs h) i).lv.length = h.toNat + 1 := by rw [bldR_of hp]; exact (bld_shape (by omega)).2
 obtain ⟨g1, g2, g3⟩ := set_pair (W := z4d xs h) (i := i) (lv := lv) (by omega) (by omega) (v, (pI (lk (z4d xs h) i).lv lv).2);rw [chk_one hp hi hlv (shp_setLk _ _ _ _) g1 g2, setLk, g3];have e : dfO (mpN xs xs.length) (lk (z4d xs h) i).id lv 1 (pI (lk (z4d xs h) i).lv lv).2 (pI (lk (z4d xs h) i).lv lv).2 = [] := dfO_nil.2 rfl
 show (([] : List Df) ++ dfO _ _ _ _ _ _) ++ dfO _ _ _ _ _ _ = _
 have e2 := e;simp only [prs2, List.nil_append]
 show dfO _ _ _ ((0 : Nat) : Int) v _ ++ dfO _ _ _ ((1 : Nat) : Int) (pI (lk (z4d xs h) i).lv lv).2 (pI (lk (z4d xs h) i).lv lv).2 = _
 rw [show ((1 : Nat) : Int) = 1 from rfl, e, List.append_nil]; rfl
theorem find_right {xs : List Nd} {h : Int} (hp : propB xs h = true) {i lv : Nat} (hi : i < xs.length) (hlv : (lv : Int) ≤ h) (v : Int) :
  chkN xs (setRk (z4d xs h) i lv v) h = dfO (mpN xs xs.length) (lk (z4d xs h) i).id lv 1 v (pI (lk (z4d xs h) i).lv lv).2 := by
 obtain ⟨hg, h0, h16⟩ := prop_good hp;have hsl : (z5v xs).length = xs.length := (z43 xs).length_eq.symm;have hbl : (z4d xs h).length = xs.length := by rw [bldR_of hp, bldN_len, hsl]
 have hll : (lk (z4d xs h) i).lv.length = h.toNat + 1 := by rw [bldR_of hp]; exact (bld_shape (by omega)).2
 obtain ⟨g1, g2, g3⟩ := set_pair (W := z4d xs h) (i := i) (lv := lv) (by omega) (by omega) ((pI (lk (z4d xs h) i).lv lv).1, v);rw [chk_one hp hi hlv (shp_setRk _ _ _ _) g1 g2, setRk, g3];have e : dfO (mpN xs xs.length) (lk (z4d xs h) i).id lv 0 (pI (lk (z4d xs h) i).lv lv).1 (pI (lk (z4d xs h) i).lv lv).1 = [] := dfO_nil.2 rfl
 show (([] : List Df) ++ dfO _ _ _ _ _ _) ++ dfO _ _ _ _ _ _ = _
 simp only [prs2, List.nil_append]
 show dfO _ _ _ ((0 : Nat) : Int) (pI (lk (z4d xs h) i).lv lv).1 (pI (lk (z4d xs h) i).lv lv).1 ++ dfO _ _ _ ((1 : Nat) : Int) v _ = _
 rw [show ((0 : Nat) : Int) = 0 from rfl, e, List.nil_append]; rfl
theorem z56 {s e e1 : SV} {H g g1 : AH} (h1 : s = e) (h2 : H = g) (a1 : e = e1 := by simp only [z1p, after, z4q, id, z2g, reduceCtorEq, Nat.reduceEqDiff, Nat.one_ne_zero, Nat.zero_ne_one, z3b, z1u, z1i, Sk.one, Obj.own.eq_1, Obj.own.eq_2, Obj.own.eq_3, Obj.own.eq_4, Obj.ren.eq_1, Obj.ren.eq_2, Obj.ren_blk, Row.ren, SV.ren, SV.renL, List.map_cons, List.map_nil, List.nil_append, List.cons_append, ↓reduceIte, Nat.reduceLT, Nat.reduceAdd, Nat.reduceSub, Nat.reduceEqDiff, Nat.add_zero, Bool.false_eq_true, Tryd.tyInt, Tryd.szInt, Tryd.tyStr, Tryd.tyU32, Tryd.tyNode, Tryd.szNode, Tryd.zNode, Tryd.tyNodes, Tryd.szNodes, zl, zc, nds, Nd.sv, Tryd.tyLink, Tryd.szLink, Tryd.zLink, Tryd.tyLinks, Tryd.szLinks, Tryd.tyLinked, Tryd.szLinked, Tryd.tyLinkeds, Tryd.szLinkeds, Tryd.zLinked, z4o, Tryd.tyErr, Tryd.tyBool, Tryd.tyInts, Tryd.szInts, Tryd.zInt, z16, z23, Tryd.tyDefect, Tryd.szDefect, Tryd.tyDefects, Tryd.szDefects, dfs, Df.sv, df_0, z4i, z29, z2d, z3l, z4y, z4c, z4s, z5u, z16, z23, z29, dfs_ren]; exact rfl) (a2 : g = g1 := by simp only [z1p, after, z4q, id, z2g, reduceCtorEq, Nat.reduceEqDiff, Nat.one_ne_zero, Nat.zero_ne_one, z3b, z1u, z1i, Sk.one, Obj.own.eq_1, Obj.own.eq_2, Obj.own.eq_3, Obj.own.eq_4, Obj.ren.eq_1, Obj.ren.eq_2, Obj.ren_blk, Row.ren, SV.ren, SV.renL, List.map_cons, List.map_nil, List.nil_append, List.cons_append, ↓reduceIte, Nat.reduceLT, Nat.reduceAdd, Nat.reduceSub, Nat.reduceEqDiff, Nat.add_zero, Bool.false_eq_true, Tryd.tyInt, Tryd.szInt, Tryd.tyStr, Tryd.tyU32, Tryd.tyNode, Tryd.szNode, Tryd.zNode, Tryd.tyNodes, Tryd.szNodes, zl, zc, nds, Nd.sv, Tryd.tyLink, Tryd.szLink, Tryd.zLink, Tryd.tyLinks, Tryd.szLinks, Tryd.tyLinked, Tryd.szLinked, Tryd.tyLinkeds, Tryd.szLinkeds, Tryd.zLinked, z4o, Tryd.tyErr, Tryd.tyBool, Tryd.tyInts, Tryd.szInts, Tryd.zInt, z16, z23, Tryd.tyDefect, Tryd.szDefect, Tryd.tyDefects, Tryd.szDefects, dfs, Df.sv, df_0, z4i, z29, z2d, z3l, z4y, z4c, z4s, z5u, z16, z23, z29, dfs_ren]; exact rfl) : s = e1 ∧ H = g1 := ⟨h1.trans a1, h2.trans a2⟩
theorem zy {a b c : Prop} (r : a → c) (h : b) (e : a = b := by simp only [stp, isQ, z4l, Sk.get, Sk.put, z2u, z1m, ↓reduceIte, reduceCtorEq, Nat.reduceEqDiff, true_and, and_true, true_implies, implies_true, forall_const, imp_self, Bool.false_eq_true, false_implies, false_and, and_false, Bool.false_and, Bool.and_false, qop, grdK, List.getElem?_toArray, List.getElem?_cons_zero, List.getElem?_cons_succ, beq_true, beq_false, beq_self_eq_true, Bool.and_true, Bool.true_and, Bool.not_true, Bool.not_false, Bool.not_not, Bool.and_eq_true, Bool.not_eq_true', Bool.not_eq_false', z22, Bool.cond_true_left, Bool.cond_false_left, Bool.cond_true_right, Bool.cond_false_right, cond_true, cond_false, and_imp, z4j, Sk.find, Sk.one, z2s, z2t, Kd.agg, List.contains_nil, List.contains_cons, Nat.reduceBEq, Bool.or_false, Bool.true_or, Bool.or_true, Bool.false_or, ite_self, Nat.lt_one_iff, Nat.zero_add, Nat.add_zero, Nat.reduceAdd, Nat.reduceMul, Nat.reduceSub, Nat.reduceLT, Nat.reduceLeDiff, Nat.le_refl, Nat.zero_le, ne_eq, Nat.one_ne_zero, not_false_eq_true, not_true_eq_false, Int.toNat_natCast, Int.reduceToNat, List.length_cons, List.length_nil, and_self, Kd.slice.injEq, exists_eq', Option.map_some, Option.some.injEq, List.drop_zero, List.drop_succ_cons, List.take_succ_cons, List.take_zero, List.take_nil, List.drop_nil, List.nil_append, List.cons_append, List.append_nil, List.append_eq, List.all_cons, List.all_nil, spl, z2w, SV.cells, SV.scalar, binK, z5t, z5s, intK, z3c, strK, z3n, z5r, z48, unK, z5m, z3s, z3t, z5f, z3u, z3v, optK, z3z, bndK, Option.isSome_some, Option.isSome_none, Nat.sub_zero, or_true, true_or, z3m, z3q, z52, z42, lenK, z24.len, z1k.n, z4z, mmK, z2r, eop, z5x, srcK, z2e, setO, z44, z2y, z2g, z3h, boxK, z2z, z3j, z3i, updF, mkK, z5b, z24.ofKd, z1k.ofKd, z5c, z24.add, z24.okKd, z1k.put, z1k.okKd, z1k.okP, z3x, z24.has, z1k.get, z1k.z, Tryd.tyInt, Tryd.szInt, Tryd.tyStr, Tryd.tyU32, Tryd.tyNode, Tryd.szNode, Tryd.zNode, Tryd.tyNodes, Tryd.szNodes, zl, zc, nds, Nd.sv, Tryd.tyLink, Tryd.szLink, Tryd.zLink, Tryd.tyLinks, Tryd.szLinks, Tryd.tyLinked, Tryd.szLinked, Tryd.tyLinkeds, Tryd.szLinkeds, Tryd.zLinked, lkR_ap, lkF_ap, z4o, Tryd.tyErr, Tryd.tyBool, Tryd.tyInts, Tryd.szInts, Tryd.zInt, ints, z16, z23, Tryd.tyDefect, Tryd.szDefect, Tryd.tyDefects, Tryd.szDefects, dfs, Df.sv, df_0, z4i]; exact rfl) : c := r (Eq.mpr e h)
set_option maxHeartbeats 4000000 in
theorem finds_spec (ls : List Int) (wi : Int) (hx : ls.length ≤ 9223372036854775807) :
  z1d Tryd.prog 4 [.slc false 0 0 0 ls.length, .int .i64 wi] ⟨1, [(0, z23 ls)]⟩ (fun s _ => s = .bool true) := by
 refine z1d.ofC false 171 [.tmp 4] Tryd.func4 rfl rfl Tryd.ntmps4 Tryd.results4 rfl ?_;intro w0 own0 β0 Q hQ hQn;simp only [z30];refine Cs.seq ?_;refine Cs.reg [0, 1] rfl ?_;intro K hK;(refine zy z6 ?_; repeat (with_reducible apply ai;exact z5));refine z8 (z7 (hK _ _ ?_)); clear hK K;refine Cs.seq ?_;refine Cs.reg [1, 5] rfl ?_;intro K hK;(refine zy z6 ?_; repeat (with_reducible apply ai;exact z5));refine zy z6 ?_;repeat (with_reducible apply ai;exact z5)
 refine z55 (new_spec ls hx) (id) ?_;rintro s0 H0 ⟨m, hm, rfl, rfl⟩ s1 H1 hs1 hH1;obtain ⟨hs2, hH2⟩ := z56 hs1 hH1;clear hs1 hH1;subst hs2 hH2;repeat (with_reducible apply ai;exact z5)
 (refine zy z6 ?_; repeat (with_reducible apply ai;exact z5));refine z8 (z7 (hK _ _ ?_)); clear hK K;refine Cs.seq ?_;refine Cs.reg [1, 5, 6, 7] rfl ?_;intro K hK;(refine zy z6 ?_; repeat (with_reducible apply ai;exact z5));refine zy z6 ?_;repeat (with_reducible apply ai;exact z5)
 refine z55 (some_spec ls m 0 7 hx hm (Nat.zero_le _) (by omega)) (fun k => if k = 0 then 1 else 0) ?_;rintro s0 H0 ⟨xs, at2, ha2, hx0, hxl, hxc, rfl, rfl⟩ s1 H1 hs1 hH1;obtain ⟨hs2, hH2⟩ := z56 hs1 hH1;clear hs1 hH1;subst hs2 hH2;repeat (with_reducible apply ai;exact z5)
 (refine zy z6 ?_; repeat (with_reducible apply ai;exact z5));refine zy z6 ?_;repeat (with_reducible apply ai;exact z5)
 refine z55 (z3d ls m at2 4 hx hm ha2 (by omega)) (fun k => if k = 0 then 1 else 0) ?_;rintro s0 H0 ⟨h, at3, ha3, h2, h3, h4, rfl, rfl⟩ s1 H1 hs1 hH1;obtain ⟨hs2, hH2⟩ := z56 hs1 hH1;clear hs1 hH1;subst hs2 hH2;repeat (with_reducible apply ai;exact z5)
 have h5 := h3 (by omega);iterate 2 (refine zy z6 ?_; repeat (with_reducible apply ai;exact z5))
 refine z8 (z7 (hK _ _ ?_)); clear hK K;refine Cs.seq ?_;refine Cs.reg [1, 5, 6, 7, 8, 9] rfl ?_;intro K hK;iterate 2 (refine zy z6 ?_; repeat (with_reducible apply ai;exact z5))
 refine zy z6 ?_;repeat (with_reducible apply ai;exact z5)
 refine z55 (build_spec xs xs.length rfl h (by omega)) (fun k => k + 2) ?_;rintro s0 H0 ⟨rfl, rfl⟩ s1 H1 hs1 hH1;obtain ⟨hs2, hH2⟩ := z56 hs1 hH1;clear hs1 hH1;subst hs2 hH2;repeat (with_reducible apply ai;exact z5)
 have hp : propB xs h = true := prop_mk hxc h2 (by omega);have hE0 := prop_bldE.1 hp;have hsl : (z5v xs).length = xs.length := (z43 xs).length_eq.symm;have hbl : (z4d xs h).length = xs.length := by rw [bldR_of hp, bldN_len, hsl]
 have hbf := bldR_facts xs h;rw [hE0];iterate 5 (refine zy z6 ?_; repeat (with_reducible apply ai;exact z5))
 refine z8 (z7 (hK _ _ ?_)); clear hK K;refine Cs.seq ?_;refine Cs.seq ?_;refine Cs.reg [1, 5, 6, 7, 8, 37] rfl ?_;intro K hK;iterate 8 (refine zy z6 ?_; repeat (with_reducible apply ai;exact z5))
 rw [hbl];repeat (with_reducible apply ai;exact z5)
 (refine zy z6 ?_; repeat (with_reducible apply ai;exact z5));refine z8 (z7 (hK _ _ ?_)); clear hK K;refine Cs.cond _ rfl ?_ ?_
 ·intro h37
  exfalso
  simp at h37
 ·intro h37;clear h37;refine Cs.skip ?_;refine Cs.seq ?_;refine Cs.reg [1, 5, 6, 7, 8, 10, 11, 12] rfl ?_;intro K hK;iterate 3 (refine zy z6 ?_; repeat (with_reducible apply ai;exact z5))
  refine zy z6 ?_;repeat (with_reducible apply ai;exact z5)
  refine z55 (z3d ls m at3 xs.length hx hm ha3 (by omega)) (fun k => if k = 0 then 1 else 0) ?_;rintro s0 H0 ⟨i, at4, ha4, i2, i3, i4, rfl, rfl⟩ s1 H1 hs1 hH1;obtain ⟨hs2, hH2⟩ := z56 hs1 hH1;clear hs1 hH1;subst hs2 hH2;repeat (with_reducible apply ai;exact z5)
  have i5 := i3 (by omega);obtain ⟨i, rfl⟩ := Int.eq_ofNat_of_zero_le i2;iterate 3 (refine zy z6 ?_; repeat (with_reducible apply ai;exact z5))
  refine zy z6 ?_;repeat (with_reducible apply ai;exact z5)
  refine z55 (z3d ls m at4 (h + 1) hx hm ha4 (by omega)) (fun k => if k = 0 then 1 else 0) ?_;rintro s0 H0 ⟨lv, at5, ha5, l2, l3, l4, rfl, rfl⟩ s1 H1 hs1 hH1;obtain ⟨hs2, hH2⟩ := z56 hs1 hH1;clear hs1 hH1;subst hs2 hH2;repeat (with_reducible apply ai;exact z5)
  have l5 := l3 (by omega);obtain ⟨lv, rfl⟩ := Int.eq_ofNat_of_zero_le l2;(refine zy z6 ?_; repeat (with_reducible apply ai;exact z5));refine zy z6 ?_;repeat (with_reducible apply ai;exact z5)
  refine z55 (z3d ls m at5 2 hx hm ha5 (by omega)) (fun k => if k = 0 then 1 else 0) ?_;rintro s0 H0 ⟨sd, at6, ha6, s2, s3, s4, rfl, rfl⟩ s1 H1 hs1 hH1;obtain ⟨hs2, hH2⟩ := z56 hs1 hH1;clear hs1 hH1;subst hs2 hH2;repeat (with_reducible apply ai;exact z5)
  have s5 := s3 (by omega);iterate 3 (refine zy z6 ?_; repeat (with_reducible apply ai;exact z5))
  refine z8 (z7 (hK _ _ ?_)); clear hK K;refine Cs.seq ?_;refine Cs.seq ?_;have hll : (lk (z4d xs h) i).lv.length = h.toNat + 1 := by rw [bldR_of hp]; exact (bld_shape (by omega)).2
  refine Cs.reg [1, 5, 6, 7, 8, 10, 11, 12, 56] rfl ?_;intro K hK;iterate 9 (refine zy z6 ?_; repeat (with_reducible apply ai;exact z5))
  refine z8 (z7 (hK _ _ ?_)); clear hK K;refine Cs.cond _ rfl ?_ ?_
  ·intro h56
   exfalso
   simp [hll] at h56;omega
  ·intro h56;clear h56;refine Cs.skip ?_;refine Cs.seq ?_;refine Cs.reg [1, 5, 6, 7, 8, 10, 11, 12, 13] rfl ?_;intro K hK;iterate 8 (refine zy z6 ?_; repeat (with_reducible apply ai;exact z5))
   refine z8 (z7 (hK _ _ ?_)); clear hK K;refine Cs.seq ?_;refine Cs.reg [6, 7, 8, 10, 11, 12, 13, 14] rfl ?_;intro K hK;iterate 3 (refine zy z6 ?_; repeat (with_reducible apply ai;exact z5))
   refine zy z6 ?_;repeat (with_reducible apply ai;exact z5)
   refine z55 (id_spec ls m at6 hx hm ha6 xs xs.length rfl (by omega)) (fun k => if k = 0 then 1 else if k = 1 then 0 else k) ?_;rintro s0 H0 ⟨v, at7, ha7, rfl, rfl⟩ s1 H1 hs1 hH1;obtain ⟨hs2, hH2⟩ := z56 hs1 hH1;clear hs1 hH1;subst hs2 hH2;repeat (with_reducible apply ai;exact z5)
   iterate 2 (refine zy z6 ?_; repeat (with_reducible apply ai;exact z5))
   refine zy z6 ?_;repeat (with_reducible apply ai;exact z5)
   refine z55 (z3d ls m at7 3 hx hm ha7 (by omega)) (fun k => if k = 0 then 1 else 0) ?_;rintro s0 H0 ⟨j, at8, ha8, j2, j3, j4, rfl, rfl⟩ s1 H1 hs1 hH1;obtain ⟨hs2, hH2⟩ := z56 hs1 hH1;clear hs1 hH1;subst hs2 hH2;repeat (with_reducible apply ai;exact z5)
   have j5 := j3 (by omega);obtain ⟨j, rfl⟩ := Int.eq_ofNat_of_zero_le j2;iterate 3 (refine zy z6 ?_; repeat (with_reducible apply ai;exact z5))
   refine z8 (z7 (hK _ _ ?_)); clear hK K;refine Cs.seq ?_;obtain ⟨hv, hhv⟩ : ∃ hv, nth [wi, v, 0] j = hv := ⟨_, rfl⟩;rw [hhv];refine Cs.reg [6, 7, 8, 10, 11, 12, 13, 14, 15] rfl ?_;intro K hK;iterate 5 (refine zy z6 ?_; repeat (with_reducible apply ai;exact z5))
   refine z8 (z7 (hK _ _ ?_)); clear hK K;refine Cs.seq ?_;refine Cs.seq ?_;refine Cs.reg [6, 7, 8, 10, 11, 12, 13, 14, 15, 78] rfl ?_;intro K hK;iterate 2 (refine zy z6 ?_; repeat (with_reducible apply ai;exact z5))
   refine z8 (z7 (hK _ _ ?_)); clear hK K;refine Cs.cond _ rfl ?_ ?_
   ·intro h78;have hsd : sd = 1 := by simpa using h78
    subst hsd;refine Cs.reg [6, 7, 8, 10, 11, 12, 14, 15] rfl ?_;intro K hK;iterate 10 (refine zy z6 ?_; repeat (with_reducible apply ai;exact z5))
    rw [lkF_setRk (by omega) (by omega), show lkR true 4 (z4d xs h) = lkR true 4 (setRk (z4d xs h) i lv hv) from (lkR_shp (shp_setRk _ _ _ _)).symm];have hsh := shp_setRk (z4d xs h) i lv hv;have hsl2 : (setRk (z4d xs h) i lv hv).length = xs.length := hsh.len.trans hbl;have hlv2 : lvOk (setRk (z4d xs h) i lv hv) := fun q hq => by rw [hsh.lv]; exact hbf.2 q (by omega)
    repeat (with_reducible apply ai;exact z5)
    refine z8 (z7 (hK _ _ ?_)); clear hK K;refine Cs.seq ?_;refine Cs.reg [6, 7, 8, 10, 11, 12, 14, 15, 16] rfl ?_;intro K hK;iterate 3 (refine zy z6 ?_; repeat (with_reducible apply ai;exact z5))
    refine zy z6 ?_;repeat (with_reducible apply ai;exact z5)
    refine z55 (check_links_spec xs (setRk (z4d xs h) i lv hv) xs.length xs.length rfl hsl2 h (by omega) (by omega) hlv2) (fun k => k + 2) ?_;rintro s0 H0 ⟨rfl, rfl⟩ s1 H1 hs1 hH1;obtain ⟨hs2, hH2⟩ := z56 hs1 hH1;clear hs1 hH1;subst hs2 hH2;repeat (with_reducible apply ai;exact z5)
    rw [find_right hp (by omega) (by omega)];(refine zy z6 ?_; repeat (with_reducible apply ai;exact z5));refine z8 (z7 (hK _ _ ?_)); clear hK K;refine Cs.seq ?_;refine Cs.seq ?_;refine Cs.reg [6, 7, 8, 10, 11, 12, 14, 15, 16, 97] rfl ?_;intro K hK;iterate 3 (refine zy z6 ?_; repeat (with_reducible apply ai;exact z5))
    refine z8 (z7 (hK _ _ ?_)); clear hK K;refine Cs.cond _ rfl ?_ ?_
    ·intro h97;rw [dfO, if_pos (by simpa using h97)];refine Cs.seq ?_;refine Cs.regG [4] rfl ?_;intro K hK hG
     have hk17 : K [(4, .bool true)] ⟨1, []⟩ := by
      refine hK _ _ ?_;clear hG hK K;refine Cs.ret ?_;refine hQ _ _ ?_;refine z1s.mk (H' := ⟨1, []⟩) (.inl rfl) ?_;refine z12 ?_;repeat (with_reducible apply ai;exact z5)
      refine ⟨z11, (IoKm.g0 id), IoKm.r3, ?_⟩
      all_goals first | trivial | exact rfl
     iterate 4 (refine zy z6 ?_; repeat (with_reducible apply ai;exact z5))
     refine z6 ?_;refine z3f rfl rfl ?_;refine z2x ?_;refine ⟨fun _ => ?_, fun h => (by cases h)⟩;refine zy id ?_;repeat (with_reducible apply ai;exact z5)
     refine z55 (sane7_spec) (id) ?_;rintro s0 H0 ⟨rfl, rfl⟩ s1 H1 hs1 hH1;obtain ⟨hs2, hH2⟩ := z56 hs1 hH1;clear hs1 hH1;subst hs2 hH2;repeat (with_reducible apply ai;exact z5)
     iterate 2 (refine zy z6 ?_; repeat (with_reducible apply ai;exact z5))
     refine z8 ?_;refine z7 ?_;exact hG _ _ _ _ id (IoKm.g0 id) hk17
    ·intro h97;rw [dfO, if_neg (by simpa using h97)];refine Cs.skip ?_;refine Cs.seq ?_
     have hex2 : exactB xs (setRk (z4d xs h) i lv hv) h = false := by
      cases hq : exactB xs (setRk (z4d xs h) i lv hv) h with
      |false => rfl
      |true =>
       exfalso
       have hc := (clean_iff (l := setRk (z4d xs h) i lv hv) hp).2 (by rw [(exact_of hq).2]; exact nrm_bld hp);rw [find_right hp (by omega) (by omega), dfO, if_neg (by simpa using h97)] at hc
       cases hc
     refine Cs.regTree [4] (.op 0 (.op 1 (.op 2 (.op 3 (.op 4 (.op 5 (.op 6 (.op 7 (.op 8 (.op 9 (.op 10 (.op 11 (.op 12 (.op 13 (.op 14 (.op 15 (.op 16 (.op 17 (.op 18 (.op 19 (.op 20 (.op 21 (.op 22 (.op 23 (.op 24 (.op 25 (.op 26 (.op 27 (.op 28 (.op 29 (.op 30 (.op 31 (.op 32 (.op 33 (.op 34 (.op 35 (.op 36 (.op 37 (.op 38 (.op 39 (.op 40 (.op 41 (.op 42 (.op 43 (.op 44 (.op 45 (.op 46 (.op 47 (.op 48 (.op 49 (.op 50 (.op 51 (.op 52 (.op 53 (.op 54 (.op 55 (.op 56 (.op 57 (.op 58 (.op 59 (.op 60 (.op 61 (.op 62 (.op 63 (.op 64 (.op 65 (.op 66 (.op 67 .done)))))))))))))))))))))))))))))))))))))))))))))))))))))))))))))))))))) [[], [0], [0, 1], [0, 1, 2], [0, 1, 2, 3], [0, 1, 2, 3, 4], [0, 1, 2, 3, 4, 5], [0, 1, 2, 3, 4, 5, 6], [0, 1, 2, 3], [0, 1, 2, 3], [0, 1, 2, 3, 8, 9], [0, 1, 2, 3, 8, 9, 10], [0, 1, 2, 3, 8, 9, 10, 11], [0, 1, 2, 3, 4, 5, 6, 7, 8, 9, 10, 11, 12], [0, 1, 2, 3, 4, 5, 6, 7, 8, 9, 10, 11, 12, 13], [0, 1, 2, 3, 4, 5, 6, 7, 8, 9, 10, 11, 12, 13, 14], [0, 1, 2, 3, 4, 5, 6, 7, 8, 9, 10, 11, 12, 13, 14, 15], [0, 1, 2, 3, 4, 5, 6, 7, 8, 9, 10, 11, 12, 13, 14, 15, 16], [0, 1, 2, 3, 4, 5, 6, 7, 8, 9, 10, 11, 12, 13, 14, 15, 16, 17], [0, 1, 2, 3, 4, 5, 6, 7, 8, 9, 10, 11, 12, 13, 14, 15, 16, 17, 18], [0, 1, 2, 3, 4, 5, 6, 7, 8, 9, 10, 11, 12, 13, 14, 15], [0, 1, 2, 3, 4, 5, 6, 7, 8, 9, 10, 11, 12, 13, 14, 15, 16, 17, 18, 19, 20], [0, 1, 2, 3, 4, 5, 6, 7, 8, 9, 10, 11, 12, 13, 14, 15, 16, 17, 18, 19, 20, 21], [0, 1, 2, 3, 4, 5, 6, 7, 8, 9, 10, 11, 12, 13, 14, 15, 16, 17, 18, 19, 20, 21, 22], [0, 1, 2, 3, 4, 5, 6, 7, 8, 9, 10, 11, 12, 13, 14, 15, 16, 17, 18, 19, 20, 21, 22, 23], [0, 1, 2, 3, 4, 5, 6, 7, 8, 9, 10, 11, 12, 13, 14, 15, 16, 17, 18, 19, 20, 21, 22, 23, 24], [0, 1, 2, 3, 4, 5, 6, 7, 8, 9, 10, 11, 12, 13, 14, 15, 16, 17, 18, 19, 20, 21, 22, 23, 24, 25], [0, 1, 2, 3, 4, 5, 6, 7, 8, 9, 10, 11, 12, 13, 14, 15, 16, 17, 18, 19, 20, 21, 22, 23, 24, 25, 26], [0, 1, 2, 3, 4, 5, 6, 7, 8, 9, 10, 11, 12, 13, 14, 15, 16, 17, 18, 19, 20, 21, 22, 23], [0, 1, 2, 3, 4, 5, 6, 7, 8, 9, 10, 11, 12, 13, 14, 15, 16, 17, 18, 19, 20, 21, 22, 23, 24, 25, 26, 27, 28], [0, 1, 2, 3, 4, 5, 6, 7, 8, 9, 10, 11, 12, 13, 14, 15, 16, 17, 18, 19, 20, 21, 22, 23, 24, 25, 26, 27, 28, 29], [0, 1, 2, 3, 4, 5, 6, 7, 8, 9, 10, 11, 12, 13, 14, 15, 16, 17, 18, 19, 20, 21, 22, 23, 24, 25, 26, 27, 28, 29, 30], [0, 1, 2, 3, 4, 5, 6, 7, 8, 9, 10, 11, 12, 13, 14, 15, 16, 17, 18, 19, 20, 21, 22, 23, 24, 25, 26, 27, 28, 29, 30, 31], [0, 1, 2, 3, 4, 5, 6, 7, 8, 9, 10, 11, 12, 13, 14, 15, 16, 17, 18, 19, 20, 21, 22, 23, 24, 25, 26, 27, 28, 29, 30, 31, 32], [0, 1, 2, 3, 4, 5, 6, 7, 8, 9, 10, 11, 12, 13, 14, 15, 16, 17, 18, 19, 20, 21, 22, 23, 24, 25, 26, 27, 28, 29, 30, 31, 32, 33], [0, 1, 2, 3, 4, 5, 6, 7, 8, 9, 10, 11, 12, 13, 14, 15, 16, 17, 18, 19, 20, 21, 22, 23, 24, 25, 26, 27, 28, 29, 30, 31, 32, 33, 34], [0, 1, 2, 3, 4, 5, 6, 7, 8, 9, 10, 11, 12, 13, 14, 15, 16, 17, 18, 19, 20, 21, 22, 23, 24, 25, 26, 27, 28, 29, 30, 31], [0, 1, 2, 3, 4, 5, 6, 7, 8, 9, 10, 11, 12, 13, 14, 15, 16, 17, 18, 19, 20, 21, 22, 23, 24, 25, 26, 27, 28, 29, 30, 31, 32, 33, 34, 35, 36], [0, 1, 2, 3, 4, 5, 6, 7, 8, 9, 10, 11, 12, 13, 14, 15, 16, 17, 18, 19, 20, 21, 22, 23, 24, 25, 26, 27, 28, 29, 30, 31, 32, 33, 34, 35, 36, 37], [0, 1, 2, 3, 4, 5, 6, 7, 8, 9, 10, 11, 12, 13, 14, 15, 16, 17, 18, 19, 20, 21, 22, 23, 24, 25, 26, 27, 28, 29, 30, 31, 32, 33, 34, 35, 36, 37, 38], [0, 1, 2, 3, 4, 5, 6, 7, 8, 9, 10, 11, 12, 13, 14, 15, 16, 17, 18, 19, 20, 21, 22, 23, 24, 25, 26, 27, 28, 29, 30, 31, 32, 33, 34, 35, 36, 37, 38, 39], [0, 1, 2, 3, 4, 5, 6, 7, 8, 9, 10, 11, 12, 13, 14, 15, 16, 17, 18, 19, 20, 21, 22, 23, 24, 25, 26, 27, 28, 29, 30, 31, 32, 33, 34, 35, 36, 37, 38, 39, 40], [0, 1, 2, 3, 4, 5, 6, 7, 8, 9, 10, 11, 12, 13, 14, 15, 16, 17, 18, 19, 20, 21, 22, 23, 24, 25, 26, 27, 28, 29, 30, 31, 32, 33, 34, 35, 36, 37, 38, 39, 40, 41], [0, 1, 2, 3, 4, 5, 6, 7, 8, 9, 10, 11, 12, 13, 14, 15, 16, 17, 18, 19, 20, 21, 22, 23, 24, 25, 26, 27, 28, 29, 30, 31, 32, 33, 34, 35, 36, 37, 38, 39, 40, 41, 42], [0, 1, 2, 3, 4, 5, 6, 7, 8, 9, 10, 11, 12, 13, 14, 15, 16, 17, 18, 19, 20, 21, 22, 23, 24, 25, 26, 27, 28, 29, 30, 31, 32, 33, 34, 35, 36, 37, 38, 39], [0, 1, 2, 3, 4, 5, 6, 7, 8, 9, 10, 11, 12, 13, 14, 15, 16, 17, 18, 19, 20, 21, 22, 23, 24, 25, 26, 27, 28, 29, 30, 31, 32, 33, 34, 35, 36, 37, 38, 39, 40, 41, 42, 43, 44], [0, 1, 2, 3, 4, 5, 6, 7, 8, 9, 10, 11, 12, 13, 14, 15, 16, 17, 18, 19, 20, 21, 22, 23, 24, 25, 26, 27, 28, 29, 30, 31, 32, 33, 34, 35, 36, 37, 38, 39, 40, 41, 42, 43, 44, 45], [0, 1, 2, 3, 4, 5, 6, 7, 8, 9, 10, 11, 12, 13, 14, 15, 16, 17, 18, 19, 20, 21, 22, 23, 24, 25, 26, 27, 28, 29, 30, 31, 32, 33, 34, 35, 36, 37, 38, 39, 40, 41, 42, 43, 44, 45, 46], [0, 1, 2, 3, 4, 5, 6, 7, 8, 9, 10, 11, 12, 13, 14, 15, 16, 17, 18, 19, 20, 21, 22, 23, 24, 25, 26, 27, 28, 29, 30, 31, 32, 33, 34, 35, 36, 37, 38, 39, 40, 41, 42, 43, 44, 45, 46, 47], [0, 1, 2, 3, 4, 5, 6, 7, 8, 9, 10, 11, 12, 13, 14, 15, 16, 17, 18, 19, 20, 21, 22, 23, 24, 25, 26, 27, 28, 29, 30, 31, 32, 33, 34, 35, 36, 37, 38, 39, 40, 41, 42, 43, 44, 45, 46, 47, 48], [0, 1, 2, 3, 4, 5, 6, 7, 8, 9, 10, 11, 12, 13, 14, 15, 16, 17, 18, 19, 20, 21, 22, 23, 24, 25, 26, 27, 28, 29, 30, 31, 32, 33, 34, 35, 36, 37, 38, 39, 40, 41, 42, 43, 44, 45, 46, 47, 48, 49], [0, 1, 2, 3, 4, 5, 6, 7, 8, 9, 10, 11, 12, 13, 14, 15, 16, 17, 18, 19, 20, 21, 22, 23, 24, 25, 26, 27, 28, 29, 30, 31, 32, 33, 34, 35, 36, 37, 38, 39, 40, 41, 42, 43, 44, 45, 46, 47, 48, 49, 50], [0, 1, 2, 3, 4, 5, 6, 7, 8, 9, 10, 11, 12, 13, 14, 15, 16, 17, 18, 19, 20, 21, 22, 23, 24, 25, 26, 27, 28, 29, 30, 31, 32, 33, 34, 35, 36, 37, 38, 39, 40, 41, 42, 43, 44, 45, 46, 47, 48, 49, 50, 51], [0, 1, 2, 3, 4, 5, 6, 7, 8, 9, 10, 11, 12, 13, 14, 15, 16, 17, 18, 19, 20, 21, 22, 23, 24, 25, 26, 27, 28, 29, 30, 31, 32, 33, 34, 35, 36, 37, 38, 39, 40, 41, 42, 43, 44, 45, 46, 47], [0, 1, 2, 3, 4, 5, 6, 7, 8, 9, 10, 11, 12, 13, 14, 15, 16, 17, 18, 19, 20, 21, 22, 23, 24, 25, 26, 27, 28, 29, 30, 31, 32, 33, 34, 35, 36, 37, 38, 39, 40, 41, 42, 43, 44, 45, 46, 47, 53], [0, 1, 2, 3, 4, 5, 6, 7, 8, 9, 10, 11, 12, 13, 14, 15, 16, 17, 18, 19, 20, 21, 22, 23, 24, 25, 26, 27, 28, 29, 30, 31, 32, 33, 34, 35, 36, 37, 38, 39, 40, 41, 42, 43, 44, 45, 46, 47, 48, 49, 50, 51, 52, 53, 54], [0, 1, 2, 3, 4, 5, 6, 7, 8, 9, 10, 11, 12, 13, 14, 15, 16, 17, 18, 19, 20, 21, 22, 23, 24, 25, 26, 27, 28, 29, 30, 31, 32, 33, 34, 35, 36, 37, 38, 39, 40, 41, 42, 43, 44, 45, 46, 47, 48, 49, 50, 51, 52, 53, 54, 55], [0, 1, 2, 3, 4, 5, 6, 7, 8, 9, 10, 11, 12, 13, 14, 15, 16, 17, 18, 19, 20, 21, 22, 23, 24, 25, 26, 27, 28, 29, 30, 31, 32, 33, 34, 35, 36, 37, 38, 39, 40, 41, 42, 43, 44, 45, 46, 47, 48, 49, 50, 51, 52, 53, 54, 55, 56], [0, 1, 2, 3, 4, 5, 6, 7, 8, 9, 10, 11, 12, 13, 14, 15, 16, 17, 18, 19, 20, 21, 22, 23, 24, 25, 26, 27, 28, 29, 30, 31, 32, 33, 34, 35, 36, 37, 38, 39, 40, 41, 42, 43, 44, 45, 46, 47, 48, 49, 50, 51, 52, 53, 54, 55, 56, 57], [0, 1, 2, 3, 4, 5, 6, 7, 8, 9, 10, 11, 12, 13, 14, 15, 16, 17, 18, 19, 20, 21, 22, 23, 24, 25, 26, 27, 28, 29, 30, 31, 32, 33, 34, 35, 36, 37, 38, 39, 40, 41, 42, 43, 44, 45, 46, 47, 48, 49, 50, 51, 52, 53, 54, 55, 56, 57], [0, 1, 2, 3, 4, 5, 6, 7, 8, 9, 10, 11, 12, 13, 14, 15, 16, 17, 18, 19, 20, 21, 22, 23, 24, 25, 26, 27, 28, 29, 30, 31, 32, 33, 34, 35, 36, 37, 38, 39, 40, 41, 42, 43, 44, 45, 46, 47, 48, 49, 50, 51, 52, 53, 54, 55, 56, 57], [0, 1, 2, 3, 4, 5, 6, 7, 8, 9, 10, 11, 12, 13, 14, 15, 16, 17, 18, 19, 20, 21, 22, 23, 24, 25, 26, 27, 28, 29, 30, 31, 32, 33, 34, 35, 36, 37, 38, 39, 40, 41, 42, 43, 44, 45, 46, 47, 48, 49, 50, 51, 52, 53, 54, 55, 56, 57, 58, 59, 60], [0, 1, 2, 3, 4, 5, 6, 7, 8, 9, 10, 11, 12, 13, 14, 15, 16, 17, 18, 19, 20, 21, 22, 23, 24, 25, 26, 27, 28, 29, 30, 31, 32, 33, 34, 35, 36, 37, 38, 39, 40, 41, 42, 43, 44, 45, 46, 47, 48, 49, 50, 51, 52, 53, 54, 55, 56, 57, 58, 59, 60, 61], [0, 1, 2, 3, 4, 5, 6, 7, 8, 9, 10, 11, 12, 13, 14, 15, 16, 17, 18, 19, 20, 21, 22, 23, 24, 25, 26, 27, 28, 29, 30, 31, 32, 33, 34, 35, 36, 37, 38, 39, 40, 41, 42, 43, 44, 45, 46, 47, 48, 49, 50, 51, 52, 53, 54, 55, 56, 57, 58, 59, 60, 61, 62], [0, 1, 2, 3, 4, 5, 6, 7, 8, 9, 10, 11, 12, 13, 14, 15, 16, 17, 18, 19, 20, 21, 22, 23, 24, 25, 26, 27, 28, 29, 30, 31, 32, 33, 34, 35, 36, 37, 38, 39, 40, 41, 42, 43, 44, 45, 46, 47, 48, 49, 50, 51, 52, 53, 54, 55, 56, 57, 58, 59, 60, 61, 62, 63], [0, 1, 2, 3, 4, 5, 6, 7, 8, 9, 10, 11, 12, 13, 14, 15, 16, 17, 18, 19, 20, 21, 22, 23, 24, 25, 26, 27, 28, 29, 30, 31, 32, 33, 34, 35, 36, 37, 38, 39, 40, 41, 42, 43, 44, 45, 46, 47, 48, 49, 50, 51, 52, 53, 54, 55, 56, 57, 58, 59, 60, 61, 62, 63, 64], [0, 1, 2, 3, 4, 5, 6, 7, 8, 9, 10, 11, 12, 13, 14, 15, 16, 17, 18, 19, 20, 21, 22, 23, 24, 25, 26, 27, 28, 29, 30, 31, 32, 33, 34, 35, 36, 37, 38, 39, 40, 41, 42, 43, 44, 45, 46, 47, 48, 49, 50, 51, 52, 53, 54, 55, 56, 57, 58, 59, 60, 61, 62, 63, 64, 65], [0, 1, 2, 3, 4, 5, 6, 7, 8, 9, 10, 11, 12, 13, 14, 15, 16, 17, 18, 19, 20, 21, 22, 23, 24, 25, 26, 27, 28, 29, 30, 31, 32, 33, 34, 35, 36, 37, 38, 39, 40, 41, 42, 43, 44, 45, 46, 47, 48, 49, 50, 51, 52, 53, 54, 55, 56, 57, 58, 59, 60, 61, 62, 63, 64, 65, 66]] [[], [], [], [], [], [], [], [], [], [], [], [], [], [], [], [], [], [], [], [], [], [], [], [], [], [], [], [], [], [], [], [], [], [], [], [], [], [], [], [], [], [], [], [], [], [], [], [], [], [], [], [], [], [], [], [], [], [], [], [], [], [], [], [], [], [], [], []] [[], [], [], [], [], [], [], [], [], [], [], [], [], [], [], [], [], [], [], [], [], [], [], [], [], [], [], [], [], [], [], [], [], [], [], [], [], [], [], [], [], [], [], [], [], [], [], [], [], [], [], [], [], [], [], [], [], [], [], [], [], [], [], [], [], [], [], []] Tryd.mo rfl rfl (by kernel_rfl) (by kernel_rfl) (by kernel_rfl) rfl (by kernel_rfl) ?_
     intro K hK hG
     have hk18 : K [(4, .bool true)] ⟨1, []⟩ := by
      refine hK _ _ ?_;clear hG hK K;refine Cs.ret ?_;refine hQ _ _ ?_;refine z1s.mk (H' := ⟨1, []⟩) (.inl rfl) ?_;refine z12 ?_;repeat (with_reducible apply ai;exact z5)
      refine ⟨z11, (IoKm.g0 id), IoKm.r3, ?_⟩
      all_goals first | trivial | exact rfl
     (refine zy (zd _ [] [] [] rfl rfl rfl rfl) ?_; repeat (with_reducible apply ai;exact z5));(refine zy (zd _ [] [] [] rfl rfl rfl rfl) ?_; repeat (with_reducible apply ai;exact z5));(refine zy (zd _ [] [] [] rfl rfl rfl rfl) ?_; repeat (with_reducible apply ai;exact z5));rw [show (((1 : Nat) : Int) == 1) = true from rfl];repeat (with_reducible apply ai;exact z5)
     (refine zy (zd _ [] [] [] rfl rfl rfl rfl) ?_; repeat (with_reducible apply ai;exact z5));(refine zy (zd _ [] [] [] rfl rfl rfl rfl) ?_; repeat (with_reducible apply ai;exact z5));(refine zy (zd _ [] [] [] rfl rfl rfl rfl) ?_; repeat (with_reducible apply ai;exact z5));(refine zy (zd _ [] [] [] rfl rfl rfl rfl) ?_; repeat (with_reducible apply ai;exact z5));(refine zy (zd _ [] [] [] rfl rfl rfl rfl) ?_; repeat (with_reducible apply ai;exact z5));(refine zy (zd _ [] [] [] rfl rfl rfl rfl) ?_; repeat (with_reducible apply ai;exact z5));(refine zy (zd _ [] [] [] rfl rfl rfl rfl) ?_; repeat (with_reducible apply ai;exact z5));(refine zy (zd _ [] [] [] rfl rfl rfl rfl) ?_; repeat (with_reducible apply ai;exact z5));(refine zy (zd _ [] [] [] rfl rfl rfl rfl) ?_; repeat (with_reducible apply ai;exact z5));(refine zy (zd _ [] [] [] rfl rfl rfl rfl) ?_; repeat (with_reducible apply ai;exact z5));(refine zy (zd _ [] [] [] rfl rfl rfl rfl) ?_; repeat (with_reducible apply ai;exact z5));rw [hsh.id i]
     try rw [beq_self_eq_true]
     repeat (with_reducible apply ai;exact z5)
     (refine zy (zd _ [] [] [] rfl rfl rfl rfl) ?_; repeat (with_reducible apply ai;exact z5));(refine zy (zd _ [] [] [] rfl rfl rfl rfl) ?_; repeat (with_reducible apply ai;exact z5));(refine zy (zd _ [] [] [] rfl rfl rfl rfl) ?_; repeat (with_reducible apply ai;exact z5));(refine zy (zd _ [] [] [] rfl rfl rfl rfl) ?_; repeat (with_reducible apply ai;exact z5));(refine zy (zd _ [] [] [] rfl rfl rfl rfl) ?_; repeat (with_reducible apply ai;exact z5));(refine zy (zd _ [] [] [] rfl rfl rfl rfl) ?_; repeat (with_reducible apply ai;exact z5));(refine zy (zd _ [] [] [] rfl rfl rfl rfl) ?_; repeat (with_reducible apply ai;exact z5));(refine zy (zd _ [] [] [] rfl rfl rfl rfl) ?_; repeat (with_reducible apply ai;exact z5))
     try rw [beq_self_eq_true]
     repeat (with_reducible apply ai;exact z5)
     (refine zy (zd _ [] [] [] rfl rfl rfl rfl) ?_; repeat (with_reducible apply ai;exact z5));(refine zy (zd _ [] [] [] rfl rfl rfl rfl) ?_; repeat (with_reducible apply ai;exact z5));(refine zy (zd _ [] [] [] rfl rfl rfl rfl) ?_; repeat (with_reducible apply ai;exact z5));(refine zy (zd _ [] [] [] rfl rfl rfl rfl) ?_; repeat (with_reducible apply ai;exact z5));(refine zy (zd _ [] [] [] rfl rfl rfl rfl) ?_; repeat (with_reducible apply ai;exact z5));(refine zy (zd _ [] [] [] rfl rfl rfl rfl) ?_; repeat (with_reducible apply ai;exact z5));(refine zy (zd _ [] [] [] rfl rfl rfl rfl) ?_; repeat (with_reducible apply ai;exact z5));(refine zy (zd _ [] [] [] rfl rfl rfl rfl) ?_; repeat (with_reducible apply ai;exact z5))
     try rw [beq_self_eq_true]
     repeat (with_reducible apply ai;exact z5)
     (refine zy (zd _ [] [] [] rfl rfl rfl rfl) ?_; repeat (with_reducible apply ai;exact z5));(refine zy (zd _ [] [] [] rfl rfl rfl rfl) ?_; repeat (with_reducible apply ai;exact z5));(refine zy (zd _ [] [] [] rfl rfl rfl rfl) ?_; repeat (with_reducible apply ai;exact z5));(refine zy (zd _ [] [] [] rfl rfl rfl rfl) ?_; repeat (with_reducible apply ai;exact z5));(refine zy (zd _ [] [] [] rfl rfl rfl rfl) ?_; repeat (with_reducible apply ai;exact z5));(refine zy (zd _ [] [] [] rfl rfl rfl rfl) ?_; repeat (with_reducible apply ai;exact z5));(refine zy (zd _ [] [] [] rfl rfl rfl rfl) ?_; repeat (with_reducible apply ai;exact z5));(refine zy (zd _ [] [] [] rfl rfl rfl rfl) ?_; repeat (with_reducible apply ai;exact z5))
     try rw [beq_self_eq_true]
     repeat (with_reducible apply ai;exact z5)
     (refine zy (zd _ [] [] [] rfl rfl rfl rfl) ?_; repeat (with_reducible apply ai;exact z5));(refine zy (zd _ [] [] [] rfl rfl rfl rfl) ?_; repeat (with_reducible apply ai;exact z5));(refine zy (zd _ [] [] [] rfl rfl rfl rfl) ?_; repeat (with_reducible apply ai;exact z5));(refine zy (zd _ [] [] [] rfl rfl rfl rfl) ?_; repeat (with_reducible apply ai;exact z5));(refine zy (zd _ [] [] [] rfl rfl rfl rfl) ?_; repeat (with_reducible apply ai;exact z5));(refine zy (zd _ [] [] [] rfl rfl rfl rfl) ?_; repeat (with_reducible apply ai;exact z5));(refine zy (zd _ [] [] [] rfl rfl rfl rfl) ?_; repeat (with_reducible apply ai;exact z5));(refine zy (zd _ [] [] [] rfl rfl rfl rfl) ?_; repeat (with_reducible apply ai;exact z5))
     try rw [beq_self_eq_true]
     repeat (with_reducible apply ai;exact z5)
     (refine zy (zd _ [] [] [] rfl rfl rfl rfl) ?_; repeat (with_reducible apply ai;exact z5));(refine zy (zd _ [] [] [] rfl rfl rfl rfl) ?_; repeat (with_reducible apply ai;exact z5));(refine zy (zd _ [] [] [] rfl rfl rfl rfl) ?_; repeat (with_reducible apply ai;exact z5));(refine zy (zd _ [] [] [] rfl rfl rfl rfl) ?_; repeat (with_reducible apply ai;exact z5));(refine zy (zd _ [] [] [] rfl rfl rfl rfl) ?_; repeat (with_reducible apply ai;exact z5));(refine zy (zd _ [] [] [] rfl rfl rfl rfl) ?_; repeat (with_reducible apply ai;exact z5));(refine zy (zd _ [] [] [] rfl rfl rfl rfl) ?_; repeat (with_reducible apply ai;exact z5));(refine zy (zd _ [] [] [] rfl rfl rfl rfl) ?_; repeat (with_reducible apply ai;exact z5));(refine zy (zd _ [] [] [] rfl rfl rfl rfl) ?_; repeat (with_reducible apply ai;exact z5));(refine zy (zd _ [] [] [] rfl rfl rfl rfl) ?_; repeat (with_reducible apply ai;exact z5));rw [kind4b];repeat (with_reducible apply ai;exact z5)
     (refine zy (zd _ [] [] [] rfl rfl rfl rfl) ?_; repeat (with_reducible apply ai;exact z5));(refine zy (zd _ [] [] [] rfl rfl rfl rfl) ?_; repeat (with_reducible apply ai;exact z5));(refine zy (zd _ [] [] [] rfl rfl rfl rfl) ?_; repeat (with_reducible apply ai;exact z5));(refine zy (zd _ [] [] [] rfl rfl rfl rfl) ?_; repeat (with_reducible apply ai;exact z5));(refine zy (zd _ [] [] [] rfl rfl rfl rfl) ?_; repeat (with_reducible apply ai;exact z5));refine zd _ [] [] [] rfl rfl rfl rfl ?_;refine z3f rfl rfl ?_;refine z2x ?_;refine ⟨fun _ => ?_, fun h => (by cases h)⟩;refine zy id ?_;repeat (with_reducible apply ai;exact z5)
     refine z55 (exact_spec xs (setRk (z4d xs h) i lv hv) xs.length xs.length rfl hsl2 h (by omega) (by omega) hlv2) (fun k => k + 2) ?_;rintro s0 H0 ⟨rfl, rfl⟩ s1 H1 hs1 hH1;obtain ⟨hs2, hH2⟩ := z56 hs1 hH1;clear hs1 hH1;subst hs2 hH2;repeat (with_reducible apply ai;exact z5)
     rw [hex2];(refine zy (zd _ [] [] [] rfl rfl rfl rfl) ?_; repeat (with_reducible apply ai;exact z5));(refine zy (zd _ [] [] [] rfl rfl rfl rfl) ?_; repeat (with_reducible apply ai;exact z5));(refine zy (zd _ [] [] [] rfl rfl rfl rfl) ?_; repeat (with_reducible apply ai;exact z5));refine zd _ [] [] [] rfl rfl rfl rfl ?_;refine z3f rfl rfl ?_;refine z2x ?_;refine ⟨fun _ => ?_, fun h => (by cases h)⟩;refine zy id ?_;repeat (with_reducible apply ai;exact z5)
     refine z55 (sane7_spec) (id) ?_;rintro s0 H0 ⟨rfl, rfl⟩ s1 H1 hs1 hH1;obtain ⟨hs2, hH2⟩ := z56 hs1 hH1;clear hs1 hH1;subst hs2 hH2;repeat (with_reducible apply ai;exact z5)
     (refine zy (zd _ [] [] [] rfl rfl rfl rfl) ?_; repeat (with_reducible apply ai;exact z5));(refine zy (zd _ [] [] [] rfl rfl rfl rfl) ?_; repeat (with_reducible apply ai;exact z5));refine z1w ?_;refine z7 ?_;exact hG _ _ _ _ id (IoKm.g0 id) hk18
   ·intro h78
    have hsd : sd = 0 := by
     have : ¬ sd = 1 := by simpa using h78
     omega
    subst hsd;refine Cs.reg [6, 7, 8, 10, 11, 12, 14, 15] rfl ?_;intro K hK;iterate 5 (refine zy z6 ?_; repeat (with_reducible apply ai;exact z5))
    rw [lkF_setLk (by omega) (by omega), show lkR true 4 (z4d xs h) = lkR true 4 (setLk (z4d xs h) i lv hv) from (lkR_shp (shp_setLk _ _ _ _)).symm];have hsh := shp_setLk (z4d xs h) i lv hv;have hsl2 : (setLk (z4d xs h) i lv hv).length = xs.length := hsh.len.trans hbl;have hlv2 : lvOk (setLk (z4d xs h) i lv hv) := fun q hq => by rw [hsh.lv]; exact hbf.2 q (by omega)
    repeat (with_reducible apply ai;exact z5)
    refine z8 (z7 (hK _ _ ?_)); clear hK K;refine Cs.seq ?_;refine Cs.reg [6, 7, 8, 10, 11, 12, 14, 15, 16] rfl ?_;intro K hK;iterate 3 (refine zy z6 ?_; repeat (with_reducible apply ai;exact z5))
    refine zy z6 ?_;repeat (with_reducible apply ai;exact z5)
    refine z55 (check_links_spec xs (setLk (z4d xs h) i lv hv) xs.length xs.length rfl hsl2 h (by omega) (by omega) hlv2) (fun k => k + 2) ?_;rintro s0 H0 ⟨rfl, rfl⟩ s1 H1 hs1 hH1;obtain ⟨hs2, hH2⟩ := z56 hs1 hH1;clear hs1 hH1;subst hs2 hH2;repeat (with_reducible apply ai;exact z5)
    rw [find_left hp (by omega) (by omega)];(refine zy z6 ?_; repeat (with_reducible apply ai;exact z5));refine z8 (z7 (hK _ _ ?_)); clear hK K;refine Cs.seq ?_;refine Cs.seq ?_;refine Cs.reg [6, 7, 8, 10, 11, 12, 14, 15, 16, 97] rfl ?_;intro K hK;iterate 3 (refine zy z6 ?_; repeat (with_reducible apply ai;exact z5))
    refine z8 (z7 (hK _ _ ?_)); clear hK K;refine Cs.cond _ rfl ?_ ?_
    ·intro h97;rw [dfO, if_pos (by simpa using h97)];refine Cs.seq ?_;refine Cs.regG [4] rfl ?_;intro K hK hG
     have hk17 : K [(4, .bool true)] ⟨1, []⟩ := by
      refine hK _ _ ?_;clear hG hK K;refine Cs.ret ?_;refine hQ _ _ ?_;refine z1s.mk (H' := ⟨1, []⟩) (.inl rfl) ?_;refine z12 ?_;repeat (with_reducible apply ai;exact z5)
      refine ⟨z11, (IoKm.g0 id), IoKm.r3, ?_⟩
      all_goals first | trivial | exact rfl
     iterate 4 (refine zy z6 ?_; repeat (with_reducible apply ai;exact z5))
     refine z6 ?_;refine z3f rfl rfl ?_;refine z2x ?_;refine ⟨fun _ => ?_, fun h => (by cases h)⟩;refine zy id ?_;repeat (with_reducible apply ai;exact z5)
     refine z55 (sane7_spec) (id) ?_;rintro s0 H0 ⟨rfl, rfl⟩ s1 H1 hs1 hH1;obtain ⟨hs2, hH2⟩ := z56 hs1 hH1;clear hs1 hH1;subst hs2 hH2;repeat (with_reducible apply ai;exact z5)
     iterate 2 (refine zy z6 ?_; repeat (with_reducible apply ai;exact z5))
     refine z8 ?_;refine z7 ?_;exact hG _ _ _ _ id (IoKm.g0 id) hk17
    ·intro h97;rw [dfO, if_neg (by simpa using h97)];refine Cs.skip ?_;refine Cs.seq ?_
     have hex2 : exactB xs (setLk (z4d xs h) i lv hv) h = false := by
      cases hq : exactB xs (setLk (z4d xs h) i lv hv) h with
      |false => rfl
      |true =>
       exfalso
       have hc := (clean_iff (l := setLk (z4d xs h) i lv hv) hp).2 (by rw [(exact_of hq).2]; exact nrm_bld hp);rw [find_left hp (by omega) (by omega), dfO, if_neg (by simpa using h97)] at hc
       cases hc
     refine Cs.regTree [4] (.op 0 (.op 1 (.op 2 (.op 3 (.op 4 (.op 5 (.op 6 (.op 7 (.op 8 (.op 9 (.op 10 (.op 11 (.op 12 (.op 13 (.op 14 (.op 15 (.op 16 (.op 17 (.op 18 (.op 19 (.op 20 (.op 21 (.op 22 (.op 23 (.op 24 (.op 25 (.op 26 (.op 27 (.op 28 (.op 29 (.op 30 (.op 31 (.op 32 (.op 33 (.op 34 (.op 35 (.op 36 (.op 37 (.op 38 (.op 39 (.op 40 (.op 41 (.op 42 (.op 43 (.op 44 (.op 45 (.op 46 (.op 47 (.op 48 (.op 49 (.op 50 (.op 51 (.op 52 (.op 53 (.op 54 (.op 55 (.op 56 (.op 57 (.op 58 (.op 59 (.op 60 (.op 61 (.op 62 (.op 63 (.op 64 (.op 65 (.op 66 (.op 67 .done)))))))))))))))))))))))))))))))))))))))))))))))))))))))))))))))))))) [[], [0], [0, 1], [0, 1, 2], [0, 1, 2, 3], [0, 1, 2, 3, 4], [0, 1, 2, 3, 4, 5], [0, 1, 2, 3, 4, 5, 6], [0, 1, 2, 3], [0, 1, 2, 3], [0, 1, 2, 3, 8, 9], [0, 1, 2, 3, 8, 9, 10], [0, 1, 2, 3, 8, 9, 10, 11], [0, 1, 2, 3, 4, 5, 6, 7, 8, 9, 10, 11, 12], [0, 1, 2, 3, 4, 5, 6, 7, 8, 9, 10, 11, 12, 13], [0, 1, 2, 3, 4, 5, 6, 7, 8, 9, 10, 11, 12, 13, 14], [0, 1, 2, 3, 4, 5, 6, 7, 8, 9, 10, 11, 12, 13, 14, 15], [0, 1, 2, 3, 4, 5, 6, 7, 8, 9, 10, 11, 12, 13, 14, 15, 16], [0, 1, 2, 3, 4, 5, 6, 7, 8, 9, 10, 11, 12, 13, 14, 15, 16, 17], [0, 1, 2, 3, 4, 5, 6, 7, 8, 9, 10, 11, 12, 13, 14, 15, 16, 17, 18], [0, 1, 2, 3, 4, 5, 6, 7, 8, 9, 10, 11, 12, 13, 14, 15], [0, 1, 2, 3, 4, 5, 6, 7, 8, 9, 10, 11, 12, 13, 14, 15, 16, 17, 18, 19, 20], [0, 1, 2, 3, 4, 5, 6, 7, 8, 9, 10, 11, 12, 13, 14, 15, 16, 17, 18, 19, 20, 21], [0, 1, 2, 3, 4, 5, 6, 7, 8, 9, 10, 11, 12, 13, 14, 15, 16, 17, 18, 19, 20, 21, 22], [0, 1, 2, 3, 4, 5, 6, 7, 8, 9, 10, 11, 12, 13, 14, 15, 16, 17, 18, 19, 20, 21, 22, 23], [0, 1, 2, 3, 4, 5, 6, 7, 8, 9, 10, 11, 12, 13, 14, 15, 16, 17, 18, 19, 20, 21, 22, 23, 24], [0, 1, 2, 3, 4, 5, 6, 7, 8, 9, 10, 11, 12, 13, 14, 15, 16, 17, 18, 19, 20, 21, 22, 23, 24, 25], [0, 1, 2, 3, 4, 5, 6, 7, 8, 9, 10, 11, 12, 13, 14, 15, 16, 17, 18, 19, 20, 21, 22, 23, 24, 25, 26], [0, 1, 2, 3, 4, 5, 6, 7, 8, 9, 10, 11, 12, 13, 14, 15, 16, 17, 18, 19, 20, 21, 22, 23], [0, 1, 2, 3, 4, 5, 6, 7, 8, 9, 10, 11, 12, 13, 14, 15, 16, 17, 18, 19, 20, 21, 22, 23, 24, 25, 26, 27, 28], [0, 1, 2, 3, 4, 5, 6, 7, 8, 9, 10, 11, 12, 13, 14, 15, 16, 17, 18, 19, 20, 21, 22, 23, 24, 25, 26, 27, 28, 29], [0, 1, 2, 3, 4, 5, 6, 7, 8, 9, 10, 11, 12, 13, 14, 15, 16, 17, 18, 19, 20, 21, 22, 23, 24, 25, 26, 27, 28, 29, 30], [0, 1, 2, 3, 4, 5, 6, 7, 8, 9, 10, 11, 12, 13, 14, 15, 16, 17, 18, 19, 20, 21, 22, 23, 24, 25, 26, 27, 28, 29, 30, 31], [0, 1, 2, 3, 4, 5, 6, 7, 8, 9, 10, 11, 12, 13, 14, 15, 16, 17, 18, 19, 20, 21, 22, 23, 24, 25, 26, 27, 28, 29, 30, 31, 32], [0, 1, 2, 3, 4, 5, 6, 7, 8, 9, 10, 11, 12, 13, 14, 15, 16, 17, 18, 19, 20, 21, 22, 23, 24, 25, 26, 27, 28, 29, 30, 31, 32, 33], [0, 1, 2, 3, 4, 5, 6, 7, 8, 9, 10, 11, 12, 13, 14, 15, 16, 17, 18, 19, 20, 21, 22, 23, 24, 25, 26, 27, 28, 29, 30, 31, 32, 33, 34], [0, 1, 2, 3, 4, 5, 6, 7, 8, 9, 10, 11, 12, 13, 14, 15, 16, 17, 18, 19, 20, 21, 22, 23, 24, 25, 26, 27, 28, 29, 30, 31], [0, 1, 2, 3, 4, 5, 6, 7, 8, 9, 10, 11, 12, 13, 14, 15, 16, 17, 18, 19, 20, 21, 22, 23, 24, 25, 26, 27, 28, 29, 30, 31, 32, 33, 34, 35, 36], [0, 1, 2, 3, 4, 5, 6, 7, 8, 9, 10, 11, 12, 13, 14, 15, 16, 17, 18, 19, 20, 21, 22, 23, 24, 25, 26, 27, 28, 29, 30, 31, 32, 33, 34, 35, 36, 37], [0, 1, 2, 3, 4, 5, 6, 7, 8, 9, 10, 11, 12, 13, 14, 15, 16, 17, 18, 19, 20, 21, 22, 23, 24, 25, 26, 27, 28, 29, 30, 31, 32, 33, 34, 35, 36, 37, 38], [0, 1, 2, 3, 4, 5, 6, 7, 8, 9, 10, 11, 12, 13, 14, 15, 16, 17, 18, 19, 20, 21, 22, 23, 24, 25, 26, 27, 28, 29, 30, 31, 32, 33, 34, 35, 36, 37, 38, 39], [0, 1, 2, 3, 4, 5, 6, 7, 8, 9, 10, 11, 12, 13, 14, 15, 16, 17, 18, 19, 20, 21, 22, 23, 24, 25, 26, 27, 28, 29, 30, 31, 32, 33, 34, 35, 36, 37, 38, 39, 40], [0, 1, 2, 3, 4, 5, 6, 7, 8, 9, 10, 11, 12, 13, 14, 15, 16, 17, 18, 19, 20, 21, 22, 23, 24, 25, 26, 27, 28, 29, 30, 31, 32, 33, 34, 35, 36, 37, 38, 39, 40, 41], [0, 1, 2, 3, 4, 5, 6, 7, 8, 9, 10, 11, 12, 13, 14, 15, 16, 17, 18, 19, 20, 21, 22, 23, 24, 25, 26, 27, 28, 29, 30, 31, 32, 33, 34, 35, 36, 37, 38, 39, 40, 41, 42], [0, 1, 2, 3, 4, 5, 6, 7, 8, 9, 10, 11, 12, 13, 14, 15, 16, 17, 18, 19, 20, 21, 22, 23, 24, 25, 26, 27, 28, 29, 30, 31, 32, 33, 34, 35, 36, 37, 38, 39], [0, 1, 2, 3, 4, 5, 6, 7, 8, 9, 10, 11, 12, 13, 14, 15, 16, 17, 18, 19, 20, 21, 22, 23, 24, 25, 26, 27, 28, 29, 30, 31, 32, 33, 34, 35, 36, 37, 38, 39, 40, 41, 42, 43, 44], [0, 1, 2, 3, 4, 5, 6, 7, 8, 9, 10, 11, 12, 13, 14, 15, 16, 17, 18, 19, 20, 21, 22, 23, 24, 25, 26, 27, 28, 29, 30, 31, 32, 33, 34, 35, 36, 37, 38, 39, 40, 41, 42, 43, 44, 45], [0, 1, 2, 3, 4, 5, 6, 7, 8, 9, 10, 11, 12, 13, 14, 15, 16, 17, 18, 19, 20, 21, 22, 23, 24, 25, 26, 27, 28, 29, 30, 31, 32, 33, 34, 35, 36, 37, 38, 39, 40, 41, 42, 43, 44, 45, 46], [0, 1, 2, 3, 4, 5, 6, 7, 8, 9, 10, 11, 12, 13, 14, 15, 16, 17, 18, 19, 20, 21, 22, 23, 24, 25, 26, 27, 28, 29, 30, 31, 32, 33, 34, 35, 36, 37, 38, 39, 40, 41, 42, 43, 44, 45, 46, 47], [0, 1, 2, 3, 4, 5, 6, 7, 8, 9, 10, 11, 12, 13, 14, 15, 16, 17, 18, 19, 20, 21, 22, 23, 24, 25, 26, 27, 28, 29, 30, 31, 32, 33, 34, 35, 36, 37, 38, 39, 40, 41, 42, 43, 44, 45, 46, 47, 48], [0, 1, 2, 3, 4, 5, 6, 7, 8, 9, 10, 11, 12, 13, 14, 15, 16, 17, 18, 19, 20, 21, 22, 23, 24, 25, 26, 27, 28, 29, 30, 31, 32, 33, 34, 35, 36, 37, 38, 39, 40, 41, 42, 43, 44, 45, 46, 47, 48, 49], [0, 1, 2, 3, 4, 5, 6, 7, 8, 9, 10, 11, 12, 13, 14, 15, 16, 17, 18, 19, 20, 21, 22, 23, 24, 25, 26, 27, 28, 29, 30, 31, 32, 33, 34, 35, 36, 37, 38, 39, 40, 41, 42, 43, 44, 45, 46, 47, 48, 49, 50], [0, 1, 2, 3, 4, 5, 6, 7, 8, 9, 10, 11, 12, 13, 14, 15, 16, 17, 18, 19, 20, 21, 22, 23, 24, 25, 26, 27, 28, 29, 30, 31, 32, 33, 34, 35, 36, 37, 38, 39, 40, 41, 42, 43, 44, 45, 46, 47, 48, 49, 50, 51], [0, 1, 2, 3, 4, 5, 6, 7, 8, 9, 10, 11, 12, 13, 14, 15, 16, 17, 18, 19, 20, 21, 22, 23, 24, 25, 26, 27, 28, 29, 30, 31, 32, 33, 34, 35, 36, 37, 38, 39, 40, 41, 42, 43, 44, 45, 46, 47], [0, 1, 2, 3, 4, 5, 6, 7, 8, 9, 10, 11, 12, 13, 14, 15, 16, 17, 18, 19, 20, 21, 22, 23, 24, 25, 26, 27, 28, 29, 30, 31, 32, 33, 34, 35, 36, 37, 38, 39, 40, 41, 42, 43, 44, 45, 46, 47, 53], [0, 1, 2, 3, 4, 5, 6, 7, 8, 9, 10, 11, 12, 13, 14, 15, 16, 17, 18, 19, 20, 21, 22, 23, 24, 25, 26, 27, 28, 29, 30, 31, 32, 33, 34, 35, 36, 37, 38, 39, 40, 41, 42, 43, 44, 45, 46, 47, 48, 49, 50, 51, 52, 53, 54], [0, 1, 2, 3, 4, 5, 6, 7, 8, 9, 10, 11, 12, 13, 14, 15, 16, 17, 18, 19, 20, 21, 22, 23, 24, 25, 26, 27, 28, 29, 30, 31, 32, 33, 34, 35, 36, 37, 38, 39, 40, 41, 42, 43, 44, 45, 46, 47, 48, 49, 50, 51, 52, 53, 54, 55], [0, 1, 2, 3, 4, 5, 6, 7, 8, 9, 10, 11, 12, 13, 14, 15, 16, 17, 18, 19, 20, 21, 22, 23, 24, 25, 26, 27, 28, 29, 30, 31, 32, 33, 34, 35, 36, 37, 38, 39, 40, 41, 42, 43, 44, 45, 46, 47, 48, 49, 50, 51, 52, 53, 54, 55, 56], [0, 1, 2, 3, 4, 5, 6, 7, 8, 9, 10, 11, 12, 13, 14, 15, 16, 17, 18, 19, 20, 21, 22, 23, 24, 25, 26, 27, 28, 29, 30, 31, 32, 33, 34, 35, 36, 37, 38, 39, 40, 41, 42, 43, 44, 45, 46, 47, 48, 49, 50, 51, 52, 53, 54, 55, 56, 57], [0, 1, 2, 3, 4, 5, 6, 7, 8, 9, 10, 11, 12, 13, 14, 15, 16, 17, 18, 19, 20, 21, 22, 23, 24, 25, 26, 27, 28, 29, 30, 31, 32, 33, 34, 35, 36, 37, 38, 39, 40, 41, 42, 43, 44, 45, 46, 47, 48, 49, 50, 51, 52, 53, 54, 55, 56, 57], [0, 1, 2, 3, 4, 5, 6, 7, 8, 9, 10, 11, 12, 13, 14, 15, 16, 17, 18, 19, 20, 21, 22, 23, 24, 25, 26, 27, 28, 29, 30, 31, 32, 33, 34, 35, 36, 37, 38, 39, 40, 41, 42, 43, 44, 45, 46, 47, 48, 49, 50, 51, 52, 53, 54, 55, 56, 57], [0, 1, 2, 3, 4, 5, 6, 7, 8, 9, 10, 11, 12, 13, 14, 15, 16, 17, 18, 19, 20, 21, 22, 23, 24, 25, 26, 27, 28, 29, 30, 31, 32, 33, 34, 35, 36, 37, 38, 39, 40, 41, 42, 43, 44, 45, 46, 47, 48, 49, 50, 51, 52, 53, 54, 55, 56, 57, 58, 59, 60], [0, 1, 2, 3, 4, 5, 6, 7, 8, 9, 10, 11, 12, 13, 14, 15, 16, 17, 18, 19, 20, 21, 22, 23, 24, 25, 26, 27, 28, 29, 30, 31, 32, 33, 34, 35, 36, 37, 38, 39, 40, 41, 42, 43, 44, 45, 46, 47, 48, 49, 50, 51, 52, 53, 54, 55, 56, 57, 58, 59, 60, 61], [0, 1, 2, 3, 4, 5, 6, 7, 8, 9, 10, 11, 12, 13, 14, 15, 16, 17, 18, 19, 20, 21, 22, 23, 24, 25, 26, 27, 28, 29, 30, 31, 32, 33, 34, 35, 36, 37, 38, 39, 40, 41, 42, 43, 44, 45, 46, 47, 48, 49, 50, 51, 52, 53, 54, 55, 56, 57, 58, 59, 60, 61, 62], [0, 1, 2, 3, 4, 5, 6, 7, 8, 9, 10, 11, 12, 13, 14, 15, 16, 17, 18, 19, 20, 21, 22, 23, 24, 25, 26, 27, 28, 29, 30, 31, 32, 33, 34, 35, 36, 37, 38, 39, 40, 41, 42, 43, 44, 45, 46, 47, 48, 49, 50, 51, 52, 53, 54, 55, 56, 57, 58, 59, 60, 61, 62, 63], [0, 1, 2, 3, 4, 5, 6, 7, 8, 9, 10, 11, 12, 13, 14, 15, 16, 17, 18, 19, 20, 21, 22, 23, 24, 25, 26, 27, 28, 29, 30, 31, 32, 33, 34, 35, 36, 37, 38, 39, 40, 41, 42, 43, 44, 45, 46, 47, 48, 49, 50, 51, 52, 53, 54, 55, 56, 57, 58, 59, 60, 61, 62, 63, 64], [0, 1, 2, 3, 4, 5, 6, 7, 8, 9, 10, 11, 12, 13, 14, 15, 16, 17, 18, 19, 20, 21, 22, 23, 24, 25, 26, 27, 28, 29, 30, 31, 32, 33, 34, 35, 36, 37, 38, 39, 40, 41, 42, 43, 44, 45, 46, 47, 48, 49, 50, 51, 52, 53, 54, 55, 56, 57, 58, 59, 60, 61, 62, 63, 64, 65], [0, 1, 2, 3, 4, 5, 6, 7, 8, 9, 10, 11, 12, 13, 14, 15, 16, 17, 18, 19, 20, 21, 22, 23, 24, 25, 26, 27, 28, 29, 30, 31, 32, 33, 34, 35, 36, 37, 38, 39, 40, 41, 42, 43, 44, 45, 46, 47, 48, 49, 50, 51, 52, 53, 54, 55, 56, 57, 58, 59, 60, 61, 62, 63, 64, 65, 66]] [[], [], [], [], [], [], [], [], [], [], [], [], [], [], [], [], [], [], [], [], [], [], [], [], [], [], [], [], [], [], [], [], [], [], [], [], [], [], [], [], [], [], [], [], [], [], [], [], [], [], [], [], [], [], [], [], [], [], [], [], [], [], [], [], [], [], [], []] [[], [], [], [], [], [], [], [], [], [], [], [], [], [], [], [], [], [], [], [], [], [], [], [], [], [], [], [], [], [], [], [], [], [], [], [], [], [], [], [], [], [], [], [], [], [], [], [], [], [], [], [], [], [], [], [], [], [], [], [], [], [], [], [], [], [], [], []] Tryd.mo rfl rfl (by kernel_rfl) (by kernel_rfl) (by kernel_rfl) rfl (by kernel_rfl) ?_
     intro K hK hG
     have hk18 : K [(4, .bool true)] ⟨1, []⟩ := by
      refine hK _ _ ?_;clear hG hK K;refine Cs.ret ?_;refine hQ _ _ ?_;refine z1s.mk (H' := ⟨1, []⟩) (.inl rfl) ?_;refine z12 ?_;repeat (with_reducible apply ai;exact z5)
      refine ⟨z11, (IoKm.g0 id), IoKm.r3, ?_⟩
      all_goals first | trivial | exact rfl
     (refine zy (zd _ [] [] [] rfl rfl rfl rfl) ?_; repeat (with_reducible apply ai;exact z5));(refine zy (zd _ [] [] [] rfl rfl rfl rfl) ?_; repeat (with_reducible apply ai;exact z5));(refine zy (zd _ [] [] [] rfl rfl rfl rfl) ?_; repeat (with_reducible apply ai;exact z5));rw [show (((1 : Nat) : Int) == 1) = true from rfl];repeat (with_reducible apply ai;exact z5)
     (refine zy (zd _ [] [] [] rfl rfl rfl rfl) ?_; repeat (with_reducible apply ai;exact z5));(refine zy (zd _ [] [] [] rfl rfl rfl rfl) ?_; repeat (with_reducible apply ai;exact z5));(refine zy (zd _ [] [] [] rfl rfl rfl rfl) ?_; repeat (with_reducible apply ai;exact z5));(refine zy (zd _ [] [] [] rfl rfl rfl rfl) ?_; repeat (with_reducible apply ai;exact z5));(refine zy (zd _ [] [] [] rfl rfl rfl rfl) ?_; repeat (with_reducible apply ai;exact z5));(refine zy (zd _ [] [] [] rfl rfl rfl rfl) ?_; repeat (with_reducible apply ai;exact z5));(refine zy (zd _ [] [] [] rfl rfl rfl rfl) ?_; repeat (with_reducible apply ai;exact z5));(refine zy (zd _ [] [] [] rfl rfl rfl rfl) ?_; repeat (with_reducible apply ai;exact z5));(refine zy (zd _ [] [] [] rfl rfl rfl rfl) ?_; repeat (with_reducible apply ai;exact z5));(refine zy (zd _ [] [] [] rfl rfl rfl rfl) ?_; repeat (with_reducible apply ai;exact z5));(refine zy (zd _ [] [] [] rfl rfl rfl rfl) ?_; repeat (with_reducible apply ai;exact z5));rw [hsh.id i]
     try rw [beq_self_eq_true]
     repeat (with_reducible apply ai;exact z5)
     (refine zy (zd _ [] [] [] rfl rfl rfl rfl) ?_; repeat (with_reducible apply ai;exact z5));(refine zy (zd _ [] [] [] rfl rfl rfl rfl) ?_; repeat (with_reducible apply ai;exact z5));(refine zy (zd _ [] [] [] rfl rfl rfl rfl) ?_; repeat (with_reducible apply ai;exact z5));(refine zy (zd _ [] [] [] rfl rfl rfl rfl) ?_; repeat (with_reducible apply ai;exact z5));(refine zy (zd _ [] [] [] rfl rfl rfl rfl) ?_; repeat (with_reducible apply ai;exact z5));(refine zy (zd _ [] [] [] rfl rfl rfl rfl) ?_; repeat (with_reducible apply ai;exact z5));(refine zy (zd _ [] [] [] rfl rfl rfl rfl) ?_; repeat (with_reducible apply ai;exact z5));(refine zy (zd _ [] [] [] rfl rfl rfl rfl) ?_; repeat (with_reducible apply ai;exact z5))
     try rw [beq_self_eq_true]
     repeat (with_reducible apply ai;exact z5)
     (refine zy (zd _ [] [] [] rfl rfl rfl rfl) ?_; repeat (with_reducible apply ai;exact z5));(refine zy (zd _ [] [] [] rfl rfl rfl rfl) ?_; repeat (with_reducible apply ai;exact z5));(refine zy (zd _ [] [] [] rfl rfl rfl rfl) ?_; repeat (with_reducible apply ai;exact z5));(refine zy (zd _ [] [] [] rfl rfl rfl rfl) ?_; repeat (with_reducible apply ai;exact z5));(refine zy (zd _ [] [] [] rfl rfl rfl rfl) ?_; repeat (with_reducible apply ai;exact z5));(refine zy (zd _ [] [] [] rfl rfl rfl rfl) ?_; repeat (with_reducible apply ai;exact z5));(refine zy (zd _ [] [] [] rfl rfl rfl rfl) ?_; repeat (with_reducible apply ai;exact z5));(refine zy (zd _ [] [] [] rfl rfl rfl rfl) ?_; repeat (with_reducible apply ai;exact z5))
     try rw [beq_self_eq_true]
     repeat (with_reducible apply ai;exact z5)
     (refine zy (zd _ [] [] [] rfl rfl rfl rfl) ?_; repeat (with_reducible apply ai;exact z5));(refine zy (zd _ [] [] [] rfl rfl rfl rfl) ?_; repeat (with_reducible apply ai;exact z5));(refine zy (zd _ [] [] [] rfl rfl rfl rfl) ?_; repeat (with_reducible apply ai;exact z5));(refine zy (zd _ [] [] [] rfl rfl rfl rfl) ?_; repeat (with_reducible apply ai;exact z5));(refine zy (zd _ [] [] [] rfl rfl rfl rfl) ?_; repeat (with_reducible apply ai;exact z5));(refine zy (zd _ [] [] [] rfl rfl rfl rfl) ?_; repeat (with_reducible apply ai;exact z5));(refine zy (zd _ [] [] [] rfl rfl rfl rfl) ?_; repeat (with_reducible apply ai;exact z5));(refine zy (zd _ [] [] [] rfl rfl rfl rfl) ?_; repeat (with_reducible apply ai;exact z5))
     try rw [beq_self_eq_true]
     repeat (with_reducible apply ai;exact z5)
     (refine zy (zd _ [] [] [] rfl rfl rfl rfl) ?_; repeat (with_reducible apply ai;exact z5));(refine zy (zd _ [] [] [] rfl rfl rfl rfl) ?_; repeat (with_reducible apply ai;exact z5));(refine zy (zd _ [] [] [] rfl rfl rfl rfl) ?_; repeat (with_reducible apply ai;exact z5));(refine zy (zd _ [] [] [] rfl rfl rfl rfl) ?_; repeat (with_reducible apply ai;exact z5));(refine zy (zd _ [] [] [] rfl rfl rfl rfl) ?_; repeat (with_reducible apply ai;exact z5));(refine zy (zd _ [] [] [] rfl rfl rfl rfl) ?_; repeat (with_reducible apply ai;exact z5));(refine zy (zd _ [] [] [] rfl rfl rfl rfl) ?_; repeat (with_reducible apply ai;exact z5));(refine zy (zd _ [] [] [] rfl rfl rfl rfl) ?_; repeat (with_reducible apply ai;exact z5))
     try rw [beq_self_eq_true]
     repeat (with_reducible apply ai;exact z5)
     (refine zy (zd _ [] [] [] rfl rfl rfl rfl) ?_; repeat (with_reducible apply ai;exact z5));(refine zy (zd _ [] [] [] rfl rfl rfl rfl) ?_; repeat (with_reducible apply ai;exact z5));(refine zy (zd _ [] [] [] rfl rfl rfl rfl) ?_; repeat (with_reducible apply ai;exact z5));(refine zy (zd _ [] [] [] rfl rfl rfl rfl) ?_; repeat (with_reducible apply ai;exact z5));(refine zy (zd _ [] [] [] rfl rfl rfl rfl) ?_; repeat (with_reducible apply ai;exact z5));(refine zy (zd _ [] [] [] rfl rfl rfl rfl) ?_; repeat (with_reducible apply ai;exact z5));(refine zy (zd _ [] [] [] rfl rfl rfl rfl) ?_; repeat (with_reducible apply ai;exact z5));(refine zy (zd _ [] [] [] rfl rfl rfl rfl) ?_; repeat (with_reducible apply ai;exact z5));(refine zy (zd _ [] [] [] rfl rfl rfl rfl) ?_; repeat (with_reducible apply ai;exact z5));(refine zy (zd _ [] [] [] rfl rfl rfl rfl) ?_; repeat (with_reducible apply ai;exact z5));rw [kind4b];repeat (with_reducible apply ai;exact z5)
     (refine zy (zd _ [] [] [] rfl rfl rfl rfl) ?_; repeat (with_reducible apply ai;exact z5));(refine zy (zd _ [] [] [] rfl rfl rfl rfl) ?_; repeat (with_reducible apply ai;exact z5));(refine zy (zd _ [] [] [] rfl rfl rfl rfl) ?_; repeat (with_reducible apply ai;exact z5));(refine zy (zd _ [] [] [] rfl rfl rfl rfl) ?_; repeat (with_reducible apply ai;exact z5));(refine zy (zd _ [] [] [] rfl rfl rfl rfl) ?_; repeat (with_reducible apply ai;exact z5));refine zd _ [] [] [] rfl rfl rfl rfl ?_;refine z3f rfl rfl ?_;refine z2x ?_;refine ⟨fun _ => ?_, fun h => (by cases h)⟩;refine zy id ?_;repeat (with_reducible apply ai;exact z5)
     refine z55 (exact_spec xs (setLk (z4d xs h) i lv hv) xs.length xs.length rfl hsl2 h (by omega) (by omega) hlv2) (fun k => k + 2) ?_;rintro s0 H0 ⟨rfl, rfl⟩ s1 H1 hs1 hH1;obtain ⟨hs2, hH2⟩ := z56 hs1 hH1;clear hs1 hH1;subst hs2 hH2;repeat (with_reducible apply ai;exact z5)
     rw [hex2];(refine zy (zd _ [] [] [] rfl rfl rfl rfl) ?_; repeat (with_reducible apply ai;exact z5));(refine zy (zd _ [] [] [] rfl rfl rfl rfl) ?_; repeat (with_reducible apply ai;exact z5));(refine zy (zd _ [] [] [] rfl rfl rfl rfl) ?_; repeat (with_reducible apply ai;exact z5));refine zd _ [] [] [] rfl rfl rfl rfl ?_;refine z3f rfl rfl ?_;refine z2x ?_;refine ⟨fun _ => ?_, fun h => (by cases h)⟩;refine zy id ?_;repeat (with_reducible apply ai;exact z5)
     refine z55 (sane7_spec) (id) ?_;rintro s0 H0 ⟨rfl, rfl⟩ s1 H1 hs1 hH1;obtain ⟨hs2, hH2⟩ := z56 hs1 hH1;clear hs1 hH1;subst hs2 hH2;repeat (with_reducible apply ai;exact z5)
     (refine zy (zd _ [] [] [] rfl rfl rfl rfl) ?_; repeat (with_reducible apply ai;exact z5));(refine zy (zd _ [] [] [] rfl rfl rfl rfl) ?_; repeat (with_reducible apply ai;exact z5));refine z1w ?_;refine z7 ?_;exact hG _ _ _ _ id (IoKm.g0 id) hk18
end Go.Proofs

namespace Go.Proofs.YtdlmfcidbojniaaDoor
open Go.ChangeShapes Go.WideShapes Go.RowKit Go.Sk Go.Proofs
theorem own : ownKnob Tryd.prog.godebug = none := by kernel_rfl
theorem laid : laidOutB Tryd.prog = true := by kernel_rfl
theorem rowed : mapsRowed Tryd.prog = true := by kernel_rfl
theorem fullS : ∀ t e, t < Tryd.prog.types.size → Tryd.prog.underlying t = some (.slice e) → 0 < Tryd.prog.cellsOf e := slices_full_of _ (by kernel_rfl)
theorem uInts : Tryd.prog.underlying 22 = some (.slice 3) := by kernel_rfl
theorem uInt : Tryd.prog.underlying 3 = some (.int .i64) := by kernel_rfl
theorem uStr : Tryd.prog.underlying 9 = some .string := by kernel_rfl
theorem uBool : Tryd.prog.underlying 4 = some .bool := by kernel_rfl
theorem fInt : flatB Tryd.prog 3 [.i .i64] = true := by kernel_rfl
theorem gTab : Tryd.prog.globalNamed "skipgraph/skipgraphworld.letters" = some 0 := by kernel_rfl
theorem gTabType : (Tryd.prog.globals[0]?).map (·.type) = some 99 := by kernel_rfl
theorem uTab : Tryd.prog.underlying 99 = some (.array 6 9) := by kernel_rfl
theorem cTab : Tryd.prog.cellsOf 99 = 6 := by kernel_rfl
theorem cStr : Tryd.prog.cellsOf 9 = 1 := by kernel_rfl
theorem oneTab : (List.range Tryd.prog.globals.size).all (fun i => !tabG Tryd.prog i || i == 0) = true := by kernel_rfl
theorem tabs {W : World} (h : laidMetH Tryd.prog [("math/bits.deBruijn32tab", Rows.laid_math_bits_deBruijn32tab), ("skipgraph/skipgraphworld.letters", Rows.laid_skipgraph_skipgraphworld_letters)] W) : ∀ i, tabG Tryd.prog i = true → i < W.heap.size ∧ TabAt W i :=
 tabs_of_mem gTab gTabType uTab uStr cStr cTab oneTab (laid := [("math/bits.deBruijn32tab", Rows.laid_math_bits_deBruijn32tab), ("skipgraph/skipgraphworld.letters", Rows.laid_skipgraph_skipgraphworld_letters)]) (by exact .tail _ (.head _)) h
theorem gTabB : Tryd.prog.globalNamed "math/bits.deBruijn32tab" = some 1 := by kernel_rfl
theorem gTabBType : (Tryd.prog.globals[1]?).map (·.type) = some 157 := by kernel_rfl
theorem uTabB : Tryd.prog.underlying 157 = some (.array 32 5) := by kernel_rfl
theorem uByte : Tryd.prog.underlying 5 = some (.int .u8) := by kernel_rfl
theorem cTabB : Tryd.prog.cellsOf 157 = 32 := by kernel_rfl
theorem cByte : Tryd.prog.cellsOf 5 = 1 := by kernel_rfl
theorem oneTabB : (List.range Tryd.prog.globals.size).all (fun i => !tabBG Tryd.prog i || i == 1) = true := by kernel_rfl
theorem tabsB {W : World} (h : laidMetH Tryd.prog [("math/bits.deBruijn32tab", Rows.laid_math_bits_deBruijn32tab), ("skipgraph/skipgraphworld.letters", Rows.laid_skipgraph_skipgraphworld_letters)] W) : ∀ i, tabBG Tryd.prog i = true → i < W.heap.size ∧ TabBAt W i :=
 tabsB_of_mem gTabB gTabBType uTabB uByte cByte cTabB oneTabB (laid := [("math/bits.deBruijn32tab", Rows.laid_math_bits_deBruijn32tab), ("skipgraph/skipgraphworld.letters", Rows.laid_skipgraph_skipgraphworld_letters)]) (by exact .head _) h
def toInt : List Value → Int
 |[.int _ z] => z
 |_ => 0
def toInts (rows : List (List Value)) : List Int := rows.map toInt
theorem ints_rows {w : World} {v : Value} {q : Option Sk.Loc} {rows : List (List Value)} (h : RwIn w v q [.i .i64] rows) (i : Nat) (r : List Value) (hr : rows[i]? = some r) : ints (toInts rows) i = r.map svOf := by
 have hok := h.ok r (List.mem_of_getElem? hr);rcases r with _ | ⟨v, _ | ⟨v', r⟩⟩
 ·exact hok.elim
 ·obtain ⟨⟨z, rfl, _⟩, _⟩ := hok;simp only [ints, nth, toInts, List.getD, List.getElem?_map, hr, Option.map_some, Option.getD_some, toInt, List.map_cons, List.map_nil, svOf]
 ·exact hok.2.elim
theorem ints_in {β : Env} {w : World} {v : Value} {q : Option Sk.Loc} {rows : List (List Value)} (h : RwIn w v q [.i .i64] rows) {id : Nat} (hq : β id 0 = q) :
  den β (.slc false id 0 0 (toInts rows).length) v ∧ (Sk.Obj.row ⟨false, false, 3, 1, (toInts rows).length, ints (toInts rows)⟩).holds β w q := by
 have := rows_in h hq 3 (ints (toInts rows)) (ints_rows h);simpa [toInts] using this
theorem ints_len {w : World} {v : Value} {q : Option Sk.Loc} {rows : List (List Value)} (h : RwIn w v q [.i .i64] rows) : (toInts rows).length ≤ 9223372036854775807 := by
 have := h.len;simpa [toInts, maxLen] using this
theorem ints_ltO (m : Nat) (xs : List Int) : (Sk.Obj.row ⟨false, false, 3, 1, xs.length, ints xs⟩).lt m := Sk.Obj.lt_row.2 fun i _ => by simp [ints, SV.ltL, SV.lt]
def putCells (l : List Value) : Go.Obj → Go.Obj
 |.cells _ t frozen => .cells l.toArray t frozen
 |o => o
noncomputable def laidWorld (os : Os) : World :=
 { World.holding Tryd.prog os ⟨#[], #[], []⟩ with heap := ((World.holding Tryd.prog os ⟨#[], #[], []⟩).heap.modify 0 (putCells (letters.map Value.string))).modify 1 (putCells (db32.map (Value.int IntKind.u8))) }
end Go.Proofs.YtdlmfcidbojniaaDoor

namespace Go.Proofs.YtdlmfcidbojniaaDoor.inspectFindsTop
open Go.ChangeShapes Go.WideShapes Go.RowKit Go.Sk Go.Proofs
theorem top (W : World) (v0 v1 : Value) (q0 : Option Sk.Loc) (r0 : List (List Value)) (h0 : RwIn W v0 q0 [.i .i64] r0) (n1 : Int) (h1 : v1 = .int .i64 n1)
  (htab : ∀ i, tabG Tryd.prog i = true → i < W.heap.size ∧ TabAt W i) (htabB : ∀ i, tabBG Tryd.prog i = true → i < W.heap.size ∧ TabBAt W i) : Calls Tryd.prog 4 #[v0, v1] W fun e w' => e = .returned (.bool true) ∧ Below W.heap.size W w' := by
 let β : Env := fun _ _ => q0
 obtain ⟨a0, b0⟩ := ints_in (β := β) (id := 0) h0 rfl;refine z1d.top (Ent.of Tryd.func4 (by kernel_rfl) (by kernel_rfl)) (finds_spec (toInts r0) n1 (ints_len h0)) β W [v0, v1] (fun id k o ho => ?_) ⟨v0, [v1], a0, ⟨v1, [], h1, rfl, rfl⟩, rfl⟩ (by simp [SV.ltL, SV.lt]) htab htabB;obtain ⟨c, F, hf, hk, rfl⟩ := z2v ho;simp only [Sk.find, z23, Sk.one] at hf
 split at hf
 ·rename_i e; subst e; cases hf
  exact ⟨rfl, by show (0 : Nat) < 1; omega, ints_ltO _ _, b0⟩
 ·cases hf
theorem contract (H : Type) (enc : TypeId × Value → H) (W : World) (base : Nat) (args : Array Value) (ds gs : List (DataW H)) (before : List MemPlace)
  (hval : ∀ (j : Nat) t v, Tryd.f4.params[j]? = some t → args[j]? = some v → Value.okWide Tryd.prog W .any base t v)
  (hW : DataW.Whole enc Tryd.prog Tryd.f4.params.toList Rows.inspectFindsSpec.vars false W args.toList ds gs before) (hL : laidMetH Tryd.prog Rows.inspectFindsRow.laid W) :
  Calls Tryd.prog 4 args W fun e W' => ∃ v, e = .returned v ∧ Rows.inspectFindsSpec.post enc Tryd.prog Tryd.f4 false true false false W args v W' := by
 have hW1 := hW;obtain ⟨p, q, hA0, hV, rfl, _, _⟩ := hW;have hA : DataW.TrodAll enc Tryd.prog W 0 (fun _ => true) true Tryd.f4.params.toList args.toList ds p := hA0;have hval1 : ∀ (j : Nat) t v, Tryd.f4.params[j]? = some t → args[j]? = some v → Value.okWide Tryd.prog W .any base t v := hval;rw [Tryd.params4] at hA hval1;obtain ⟨v0, vs0, d0, ds0, p0, q0, ha0, rfl, rfl, h0, r0⟩ := trodAll_cons hA;obtain ⟨v1, vs1, d1, ds1, p1, q1, ha1, rfl, rfl, h1, r1⟩ := trodAll_cons r0;obtain ⟨rfl, rfl, rfl⟩ := trodAll_nil r1;obtain rfl : args = #[v0, v1] := by cases args; simp_all
 obtain ⟨_, _, x0⟩ := rows_open uInts fInt (by simp) (hval1 0 _ v0 rfl rfl) h0;obtain ⟨n1, x1, _⟩ := open_int uInt (hval1 1 _ v1 rfl rfl) h1;refine (top W v0 v1 _ _ x0 n1 x1 (tabs hL) (tabsB hL)).mono fun e W1 ⟨he, hb⟩ => ?_;subst he;refine ⟨_, rfl, law_post laid rowed fullS (by decide +kernel) rfl hW1 hb rfl uBool fun ds hd => ?_⟩;have hd1 : ds.length = 2 := hd
 match ds, hd1 with
 |[_, _], _ => rfl
theorem laid_met (os : Os) : laidMet Tryd.prog Rows.inspectFindsRow.laid ((laidWorld os).forCall (fun _ _ => 0) ⟨#[], #[.slice none 0 0, .int .i64 0], []⟩).memory :=
 laidMet_of_run' 8 (by kernel_rfl) (by kernel_rfl)
theorem reads (os : Os) {H : Type} (enc : TypeId × Value → H) : ∃ places, DataW.whole enc Tryd.prog ((laidWorld os).forCall (fun _ _ => 0) ⟨#[], #[.slice none 0 0, .int .i64 0], []⟩).memory Tryd.f4.params.toList Rows.inspectFindsSpec.vars false #[Value.slice none 0 0, .int .i64 0].toList 8 = some ([.nil, .lit (.int .i64 0)], [], places) :=
 ⟨[], by kernel_rfl⟩
set_option maxRecDepth 100000 in
theorem lifted (os : Os) (started : os.Started) (H : Type) (enc : TypeId × Value → H) (F : Stop.Interp) :
  ReturnsInHanded {} Tryd.checked os 4 .any ((OpenSpec.ofChange Rows.inspectFindsSpec).preRow enc Tryd.prog Tryd.f4 Rows.inspectFindsRow.domain false Rows.inspectFindsRow.laid) (((OpenSpec.ofChange Rows.inspectFindsSpec).at F).post enc Tryd.prog Tryd.f4 false true false false) := by
 obtain ⟨places, hx⟩ := reads os enc
 refine returnsInHanded_of_row (C := Tryd.checked) (s := OpenSpec.ofChange Rows.inspectFindsSpec) own started (by kernel_rfl) Tryd.func4
  (witness_row_at (enc := enc) (C := Tryd.checked) false (laidWorld os) #[.slice none 0 0, .int .i64 0] rfl (by kernel_rfl) (by kernel_rfl) (by kernel_rfl)
   (OpenSpec.preRow_of_cond 8 hx (by kernel_rfl) (fun k hk => by cases hk) (by kernel_rfl) (laid_met os))) ?_
 intro W base args ds gs before hval hW _ _ _ hL _ _;exact contract H enc W base args ds gs before hval hW hL
theorem said : Rows.InspectFindsSaid :=
 OpenClaim.holds_of_cond 4 Tryd.f4 rfl rfl rfl rfl rfl rfl rfl ⟨rfl, rfl, rfl, rfl, rfl⟩ rfl rfl rfl rfl rfl (by kernel_rfl) Tryd.func4 (by kernel_rfl)
  (of_decide_eq_true (by kernel_rfl)) (by unfold Func.isWrapper; first | (rw [if_pos (by decide +kernel)]; kernel_rfl) | (rw [if_neg (by decide +kernel)]; exact ⟨rfl, rfl⟩))
  (fun os started H enc _ F => by rw [OpenClaim.pre_eq_preRow]; exact lifted os started H enc F)
theorem plain (f : FuncId) (fn : Func) (hf : Tryd.pinned.checked.prog.funcNamed "skipgraph/skipgraphlaw7.InspectFinds" = some f) (hfn : Tryd.pinned.checked.prog.funcs[f]? = some fn) :
  false = Tryd.pinned.checked.prog.looks [] ∧ ∀ (j : Nat) t, fn.params[j]? = some t → Tryd.pinned.checked.prog.wantsStandIn t = false := by
 obtain rfl : f = 4 := Option.some.inj ((show Tryd.prog.funcNamed "skipgraph/skipgraphlaw7.InspectFinds" = some 4 by kernel_rfl).symm.trans hf) |>.symm
 obtain rfl : fn = Tryd.f4 := (Option.some.inj (Tryd.func4.symm.trans hfn)).symm;refine ⟨by kernel_rfl, fun j t ht => ?_⟩;rw [Tryd.params4] at ht;have hm : t ∈ [22, 3] := by simpa using Array.mem_of_getElem? ht
 have hall : ([22, 3].all fun u => !Tryd.prog.wantsStandIn u) = true := by kernel_rfl
 exact (show Tryd.prog.wantsStandIn t = false by simpa using List.all_eq_true.1 hall t hm)
theorem proved : Rows.InspectFindsCardSaid :=
 Claim7.holds_tied_plain_at .later [] _ _ _ _ said (fun _ h => by cases h) (by kernel_rfl) (fun _ h => by cases h) inspectFinds_row_tie rfl ⟨rfl, rfl⟩ (by kernel_rfl) rfl plain (by kernel_rfl)
end Go.Proofs.YtdlmfcidbojniaaDoor.inspectFindsTop
#print axioms Go.Proofs.YtdlmfcidbojniaaDoor.inspectFindsTop.proved
