/-
  BulkAssociates: for every input the law returns true, and the input reads as before.
  Conditions: those that each statement names.
-/
import Derived.Test.YtdlmfcidbojniaaDoorQsb
import Derived.Test.YtdlmfcidbojniaaDoorChecked
import Derived.Below
import Derived.ChangeSame
import Derived.ChangeSlices
import Derived.ReadAgain
import Derived.OpenShut
import Derived.JoinedOf
import Derived.Handed
import Derived.Deep.Slices
import Derived.Lib.LaidTab
import Derived.Test.YtdlmfcidbojniaaDoorQsd
import Derived.Test.YtdlmfcidbojniaaDoorQsc
import Derived.Test.YtdlmfcidbojniaaDoorQse
import Derived.Test.YtdlmfcidbojniaaDoorRows
import Derived.Test.YtdlmfcidbojniaaDoorCards
import Derived.Test.YtdlmfcidbojniaaDoorTie
import Derived.WalkKit
import Derived.ProofKit
import Derived.Deep.DeepHandedRow
set_option linter.unusedSimpArgs false
set_option linter.unusedVariables false
set_option maxRecDepth 4000
namespace Go.Sk
open Go.RowKit Go.WideShapes Go.ChangeShapes
theorem below_sameAt {w w' : World} (h : Below w.heap.size w w') {p : MemPlace} (hp : p.block < w.heap.size) : w.sameAt w' p := by
 cases p with
 |cell b off => exact World.cell?_of_block (h.block b hp)
 |map b => exact h.block b hp
section
variable {H : Type} {enc : TypeId × Value → H} {P : Program}
theorem trodAll_carry {w w' : World} {base : Nat} {sp : Nat → Bool} {held : Bool} : ∀ {ts : List TypeId} {vs : List Value} {ds : List (DataW H)} {ps : List MemPlace}, DataW.TrodAll enc P w base sp held ts vs ds ps → (∀ p ∈ ps, w.sameAt w' p) →
  DataW.TrodAll enc P w' base sp held ts vs ds ps
 |[], [], [], _, h, _ => h
 |_ :: _, _ :: _, _ :: _, _, ⟨p, q, ⟨n, h1⟩, h2, e⟩, hs =>
  ⟨p, q, ⟨n, DataW.trod_carry n _ _ _ h1 fun x hx => hs x (by rw [e]; exact List.mem_append_left _ hx)⟩, trodAll_carry h2 (fun x hx => hs x (by rw [e]; exact List.mem_append_right _ hx)), e⟩
theorem trodAll_len {w : World} {base : Nat} {sp : Nat → Bool} {held : Bool} : ∀ {ts : List TypeId} {vs : List Value} {ds : List (DataW H)} {ps : List MemPlace}, DataW.TrodAll enc P w base sp held ts vs ds ps → ds.length = ts.length
 |[], [], [], _, _ => rfl
 |_ :: _, _ :: _, _ :: _, _, ⟨_, _, _, h2, _⟩ => by simp [trodAll_len h2]
theorem law_post {f : Func} {s : ChangeSpec} {apart fresh handsOn again : Bool} {W W' : World} {args : Array Value} {ds gs : List (DataW H)} {before : List MemPlace} (hl : laidOutB P = true) (hm : mapsRowed P = true)
  (hz : ∀ t e, t < P.types.size → P.underlying t = some (.slice e) → 0 < P.cellsOf e) (hts : ∀ t ∈ f.params.toList, t < P.types.size) (hv : s.vars = [])
  (hW : DataW.Whole enc P f.params.toList s.vars apart W args.toList ds gs before) (hb : Below W.heap.size W W') {tb : TypeId} (hres : f.resultTypes = #[tb]) (hbool : P.underlying tb = some .bool)
  (hfn : ∀ ds : List (DataW H), ds.length = f.params.toList.length → s.fn H ds = { results := [.lit (.bool true)], args := ds }) : s.post enc P f apart fresh handsOn again W args (.bool true) W' := by
 have hW' := hW;obtain ⟨p, q, hA, hV, rfl, hfz, hnd⟩ := hW;rw [hv] at hV
 have hq : gs = [] ∧ q = [] := by
  cases gs with
  |nil => exact ⟨rfl, hV⟩
  |cons _ _ => exact hV.elim
 obtain ⟨rfl, rfl⟩ := hq;have hfn' := hfn (ds ++ []) (by rw [List.append_nil]; exact trodAll_len hA);have hlt : ∀ x ∈ p, x.block < W.heap.size := DataW.TrodAll.lt hA
 have hargs : ∀ sp : Nat → Bool, (∀ x ∈ p ++ [], sp x.block = true) → DataW.TrodAll enc P W' 0 sp true f.params.toList args.toList ds p := fun sp hsp =>
  trodAll_carry (DataW.TrodAll.respare (kids_rows hl hm) hz hts hA fun x hx => hsp x (List.mem_append_left _ hx)) fun x hx => below_sameAt hb (hlt x hx)
 have hrl : ((Value.bool true).resultList f.resultTypes.size) = [.bool true] := by rw [hres]; rfl
 have hres' : ∀ (b : Nat) (sp : Nat → Bool) (hd : Bool), DataW.TrodAll enc P W' b sp hd f.resultTypes.toList ((Value.bool true).resultList f.resultTypes.size) (s.fn H (ds ++ [])).results [] := fun b sp hd => by
  rw [hrl, hfn', hres];exact trodAll_mk1 (shut_bool hbool true)
 have hvars : ∀ sp : Nat → Bool, DataW.TrodVars enc P W' sp s.vars (s.fn H (ds ++ [])).vars [] := fun sp => by rw [hfn', hv]; rfl
 have hargs' : ∀ sp : Nat → Bool, (∀ x ∈ p ++ [], sp x.block = true) → DataW.TrodAll enc P W' 0 sp true f.params.toList args.toList (s.fn H (ds ++ [])).args p := fun sp hsp => by
  rw [hfn']; simpa using hargs sp hsp
 have hold : ∀ x ∈ p ++ [], (fun b => decide (b < W.heap.size)) x.block = true := fun x hx => by simpa using hlt x (by simpa using hx)
 refine ⟨ds, [], p ++ [], [], p, [], hW', hres' _ _ _, hargs' _ hold, hvars _, World.keptBut_mono (fun x hx => ⟨hx, ?_⟩) (hb.frame (· ∈ p ++ [])), fun _ => ⟨?_, _, _, ([] ++ p) ++ [], ⟨[] ++ p, [], trodAll_append (hargs' _ (fun _ _ => rfl)) (hres' _ _ _), hvars _, rfl, ?_, ?_⟩, ?_⟩⟩
 ·exact .inr (.inl (by simpa using hx))
 ·intro j t r ht hr;rw [hrl] at hr;rw [hres] at ht
  cases j with
  |zero => simp at ht hr; subst ht hr; exact okWide_bool_mk hbool _
  |succ j => simp at hr
 ·intro b off hp;have hin : MemPlace.cell b off ∈ p ++ [] := by simpa using hp
  rw [hb.frozen (hlt _ (by simpa using hin))];exact hfz b off hin
 ·intro ha;simpa using hnd ha
 ·intro x hx _;simpa using hx
end
theorem zd.top {P : Program} {f : FuncId} {args : List SV} {H0 : AH} (hent : Ent P f) (hF : zd P f args H0 (fun s _ => s = .bool true)) (β : Env) (w : World) (vs : List Value)
  (hh : ∀ id k o, look H0.os id k = some o → o.own = false ∧ id < H0.nxt ∧ o.lt H0.nxt ∧ o.holds β w (β id k)) (hd : z41 β args vs) (hl : SV.ltL H0.nxt args) (htab : ∀ g, tabG P g = true → g < w.heap.size ∧ TabAt w g) (htabB : ∀ g, tabBG P g = true → g < w.heap.size ∧ TabBAt w g) :
  Calls P f vs.toArray w fun e w' => e = .returned (.bool true) ∧ Below w.heap.size w w' := by
 let own0 : Nat → Nat → Prop := fun id k => ∃ o, look H0.os id k = some o ∧ o.own = true
 let X : Cx := { P := P, n := 0, w0 := w, own0 := own0, m0 := H0.nxt, β0 := β }
 have no : ∀ id k o, look H0.os id k = some o → ¬ o.own = true := fun id k o h => by rw [(hh id k o h).1]; simp
 have no0 : ∀ id k, ¬ own0 id k := fun id k ⟨o, h1, h2⟩ => no id k o h1 h2
 have hS : St X β H0 w := {
  os := rfl, tape := rfl, output := rfl, size := Nat.le_refl _, fix := fun _ _ _ => rfl
  holds := fun id k o h => (hh id k o h).2.2.2
  sep := fun id k id' k' o o' L L' h _ ho => absurd ho (no id k o h)
  old := fun _ _ _ => rfl
  mine := fun id k o L h ho => absurd ho (no id k o h)
  keep := fun id k h => absurd h (no0 id k)
  m0 := Nat.le_refl _
  lt := fun id k o h => ⟨(hh id k o h).2.1, (hh id k o h).2.2.1⟩
  tabs := ⟨fun g hg => ⟨(htab g hg).1, (htab g hg).2, fun id k _ h _ => absurd h (no0 id k)⟩, fun g hg => ⟨(htabB g hg).1, (htabB g hg).2, fun id k _ h _ => absurd h (no0 id k)⟩⟩
  drawn := Nat.le_refl _ }
 refine ((hF X β w vs rfl rfl rfl rfl rfl hS hd hl).calls hent).mono fun e w' ⟨v, he, β', s, H', hs, _, hdv, _, hS'⟩ => ?_;subst hs;simp only [den] at hdv;subst hdv
 exact ⟨he, hS'.os, hS'.tape, hS'.output, hS'.size, fun b hb => hS'.old b hb fun id k o L h ho hβ => by
  rcases hS'.mine id k o L h ho hβ with ⟨_, h1⟩ | ⟨_, h2⟩
  ·exact absurd h1 (no0 id k)
  ·have : w.heap.size ≤ L.blk := h2
   omega⟩
end Go.Sk

namespace Go.Sk
open Go.RowKit Go.WideShapes Go.ChangeShapes
inductive FK where
 |i (k : IntKind) | s | b
def FK.is (P : Program) (t : TypeId) : FK → Bool
 |.i k => match P.underlying t with | some (.int k') => k' == k | _ => false
 |.s => match P.underlying t with | some .string => true | _ => false
 |.b => match P.underlying t with | some .bool => true | _ => false
def FK.ok : FK → Value → Prop
 |.i k, v => ∃ z, v = .int k z ∧ (Lit.int k z).wf = true
 |.s, v => ∃ x : ByteArray, v = .string x ∧ x.size ≤ maxLen
 |.b, v => ∃ x, v = .bool x
def svOf : Value → SV
 |.int k z => .int k z
 |.string x => .str x
 |.bool x => .bool x
 |v => .raw v
theorem FK.den {β : Env} {k : FK} {v : Value} (h : k.ok v) : den β (svOf v) v ∧ (svOf v).scalar = true ∧ ∀ m, (svOf v).lt m := by
 cases k <;> simp only [FK.ok] at h
 ·obtain ⟨z, rfl, _⟩ := h; exact ⟨rfl, rfl, fun _ => trivial⟩
 ·obtain ⟨z, rfl, _⟩ := h; exact ⟨rfl, rfl, fun _ => trivial⟩
 ·obtain ⟨z, rfl⟩ := h; exact ⟨rfl, rfl, fun _ => trivial⟩
def okRow : List FK → List Value → Prop
 |[], [] => True
 |k :: ks, v :: vs => k.ok v ∧ okRow ks vs
 |_, _ => False
theorem okRow_len : ∀ {ks : List FK} {vs : List Value}, okRow ks vs → vs.length = ks.length
 |[], [], _ => rfl
 |_ :: _, _ :: _, h => by simp [okRow_len h.2]
 |[], _ :: _, h => h.elim
 |_ :: _, [], h => h.elim
theorem okRow_get : ∀ {ks : List FK} {vs : List Value}, okRow ks vs → ∀ (j : Nat) (v : Value), vs[j]? = some v → ∃ k : FK, k.ok v
 |[], [], _, j, v, h => by simp at h
 |k :: _, _ :: _, h, j, v, hj => by
  cases j with
  |zero => simp at hj; subst hj; exact ⟨k, h.1⟩
  |succ j => simp at hj; exact okRow_get h.2 j v hj
 |[], _ :: _, h, _, _, _ => h.elim
 |_ :: _, [], h, _, _, _ => h.elim
def fldsB (P : Program) (fs : Array Field) : Nat → List FK → Bool
 |i, [] => i == fs.size
 |i, k :: ks => (match fs[i]? with | some f => f.offset == i && P.cellsOf f.type == 1 && k.is P f.type | none => false) && fldsB P fs (i + 1) ks
def flatB (P : Program) (t : TypeId) (ks : List FK) : Bool :=
 P.cellsOf t == ks.length && (match P.underlying t with
  |some (.struct fs) => fldsB P fs 0 ks
  |_ => match ks with | [k] => k.is P t | _ => false)
section
variable {H : Type} {enc : TypeId × Value → H} {P : Program} {w : World} {base : Nat} {sp : Nat → Bool} {held : Bool}
theorem one_open {k : FK} {t : TypeId} {fuel : Nat} {cs : List Value} {x : DataW H × List MemPlace} (hk : k.is P t = true) (h : DataW.trod enc P w base sp held fuel t cs = some x) : ∃ v, cs = [v] ∧ k.ok v := by
 cases k <;> simp only [FK.is] at hk
 ·split at hk
  ·rename_i k' hu;obtain rfl := eq_of_beq hk;obtain ⟨n, rfl, _, hw⟩ := DataW.trod_int hu h;exact ⟨_, rfl, n, rfl, hw⟩
  ·cases hk
 ·split at hk
  ·rename_i hu;obtain ⟨s, rfl, _, hs⟩ := DataW.trod_string hu h;exact ⟨_, rfl, s, rfl, hs⟩
  ·cases hk
 ·split at hk
  ·rename_i hu;obtain ⟨b, rfl, _⟩ := DataW.trod_bool hu h;exact ⟨_, rfl, b, rfl⟩
  ·cases hk
theorem flds_open {fs : Array Field} {n : Nat} {cs : List Value} {xs : List (DataW H × List MemPlace)} (hx : xs.length = fs.size) (hf : ∀ (i : Nat) (f : Field), fs[i]? = some f → DataW.trod enc P w base sp held n f.type ((cs.drop f.offset).take (P.cellsOf f.type)) = xs[i]?) :
  ∀ (ks : List FK) (i : Nat), fldsB P fs i ks = true → i + ks.length = cs.length → okRow ks (cs.drop i)
 |[], i, _, hl => by rw [List.drop_eq_nil_of_le (by simp at hl; omega)]; trivial
 |k :: ks, i, h, hl => by
  simp only [fldsB, Bool.and_eq_true] at h;obtain ⟨h1, h2⟩ := h;simp only [List.length_cons] at hl
  split at h1
  ·rename_i f hfi;simp only [Bool.and_eq_true, beq_iff_eq] at h1;obtain ⟨⟨h3, h4⟩, h5⟩ := h1;have h6 := hf i f hfi;have hi : i < xs.length := by rw [hx]; exact (Array.getElem?_eq_some_iff.1 hfi).1
   rw [h3, h4, List.getElem?_eq_getElem hi] at h6;obtain ⟨v, hv, hok⟩ := one_open h5 h6;rw [List.drop_eq_getElem_cons (by omega), List.take_succ_cons, List.take_zero] at hv;rw [List.drop_eq_getElem_cons (by omega)];have : cs[i] = v := by simpa using hv
   rw [this];exact ⟨hok, flds_open hx hf ks (i + 1) h2 (by omega)⟩
  ·cases h1
theorem flat_open {t : TypeId} {ks : List FK} {fuel : Nat} {cs : List Value} {x : DataW H × List MemPlace} (hb : flatB P t ks = true) (h : DataW.trod enc P w base sp held fuel t cs = some x) : okRow ks cs := by
 simp only [flatB, Bool.and_eq_true, beq_iff_eq] at hb;obtain ⟨hc, hb⟩ := hb
 split at hb
 ·rename_i fs hu;obtain ⟨xs, m, _, _, hl, hxl, hf⟩ := DataW.trod_struct hu h;have := flds_open hxl hf ks 0 hb (by omega);rwa [List.drop_zero] at this
 ·split at hb
  ·rename_i k;obtain ⟨v, rfl, hok⟩ := one_open hb h;exact ⟨hok, trivial⟩
  ·cases hb
structure RwIn (w : World) (v : Value) (q : Option Loc) (ks : List FK) (rows : List (List Value)) : Prop where
 len : rows.length ≤ maxLen
 ok : ∀ r ∈ rows, okRow ks r
 val : ∃ a c, v = .slice a rows.length c ∧ rows.length ≤ c ∧ (0 < rows.length → ∃ L, q = some L ∧ a = some ⟨L.blk, L.off, none⟩)
 mem : (rows.length = 0 ∧ q = none) ∨ ∃ L, q = some L ∧ L.sz = ks.length ∧ L.blk < w.heap.size ∧ ∀ (i : Nat) (r : List Value), rows[i]? = some r → ∀ (j : Nat) (u : Value), r[j]? = some u → w.cell? ⟨L.blk, L.off + i * ks.length + j, none⟩ = some u
theorem rows_open {t e : TypeId} {ks : List FK} {v : Value} {d : DataW H} {p : List MemPlace} (ht : P.underlying t = some (.slice e)) (hb : flatB P e ks = true) (hk0 : 0 < ks.length) {b0 : Nat}
  (hval : Value.okWide P w .any b0 t v) (h : DataW.Trod enc P w base sp held t v d p) : ∃ q rows, RwIn w v q ks rows := by
 obtain ⟨n, hn⟩ := h;obtain ⟨a0, l0, c0, rfl⟩ := okWide_slice ht hval;have hce : P.cellsOf e = ks.length := by simp only [flatB, Bool.and_eq_true, beq_iff_eq] at hb; exact hb.1
 have hcs : (Value.slice a0 l0 c0).cells.toList = [Value.slice a0 l0 c0] := rfl;rw [hcs] at hn;rcases Deep.open_slice ht hn with ⟨hv, _⟩ | ⟨a, len, cap, m, n', D, Pl, hv, hbb, hlc, hcm, hmm, _, hel⟩
 ·cases hv
  exact ⟨none, [], ⟨by simp, by simp, ⟨none, 0, rfl, by simp, by simp⟩, .inl ⟨rfl, rfl⟩⟩⟩
 ·cases hv
  have hml : l0 ≤ m := by rw [hmm]; split <;> omega
  obtain ⟨R, hR⟩ := Deep.choose_lt (α := List Value) (p := fun i cs => w.cells? base (a.add (i * P.cellsOf e)) (P.cellsOf e) = some cs ∧ DataW.trod enc P w base sp held n' e cs = some (D i, Pl i)) hel;have hrl : ((List.range l0).map R).length = l0 := by simp
  have hget : ∀ i r, ((List.range l0).map R)[i]? = some r → i < l0 ∧ r = R i := fun i r h => by
   simp only [List.getElem?_map, Option.map_eq_some_iff] at h;obtain ⟨k, h1, h2⟩ := h
   have hi : i < l0 := by
    rcases Nat.lt_or_ge i l0 with h | h
    ·exact h
    ·rw [List.getElem?_eq_none (by simpa using h)] at h1; cases h1
   rw [List.getElem?_range hi] at h1
   cases h1
   exact ⟨hi, h2.symm⟩
  have hok : ∀ i, i < m → okRow ks (R i) := fun i hi => flat_open hb (hR i hi).2
  have hrow : ∀ r ∈ (List.range l0).map R, okRow ks r := fun r hr => by
   obtain ⟨i, hi, rfl⟩ := List.mem_map.1 hr;exact hok i (by have := List.mem_range.1 hi; omega)
  by_cases h0 : l0 = 0
  ·subst h0;exact ⟨none, [], ⟨by simp, by simp, ⟨some a, c0, rfl, by simp, by simp⟩, .inl ⟨rfl, rfl⟩⟩⟩
  ·have hcell : ∀ i, i < l0 → ∀ (j : Nat) (u : Value), (R i)[j]? = some u → w.cell? ((a.add (i * ks.length)).add j) = some u := fun i hi j u hj => by
    obtain ⟨h1, h2⟩ := hR i (by omega);obtain ⟨_, hlen, hc⟩ := World.cells?_some h1;have hjl : j < P.cellsOf e := by rw [← hlen]; exact (List.getElem?_eq_some_iff.1 hj).1
    rw [← hce, hc j hjl];exact hj
   have hr0 : ∃ u, (R 0)[0]? = some u := by
    have := okRow_len (hok 0 (by omega));exact ⟨_, List.getElem?_eq_getElem (by omega)⟩
   obtain ⟨u0, hu0⟩ := hr0;have hc0 := hcell 0 (by omega) 0 u0 hu0;have hsp : a.spot = none := World.cell?_spot (by unfold Addr.add at hc0; simpa using hc0);obtain ⟨b, o, s0⟩ := a;simp only at hsp;subst hsp
   have hblk : b < w.heap.size := by
    rw [z5s, z5s] at hc0;unfold World.cell? at hc0;rcases Nat.lt_or_ge b w.heap.size with h | h
    ·exact h
    ·simp [Array.getElem?_eq_none h] at hc0
   refine ⟨some ⟨b, o, ks.length, 0⟩, (List.range l0).map R, ⟨by omega, hrow, ⟨some ⟨b, o, none⟩, c0, by rw [hrl], by omega, fun _ => ⟨_, rfl, rfl⟩⟩, .inr ⟨_, rfl, rfl, hblk, fun i r hr j u hj => ?_⟩⟩⟩;obtain ⟨hi, rfl⟩ := hget i r hr;have := hcell i hi j u hj;rw [z5s, z5s] at this;exact this
end
theorem rows_in {β : Env} {w : World} {v : Value} {q : Option Loc} {ks : List FK} {rows : List (List Value)} (h : RwIn w v q ks rows) {id : Nat} (hq : β id 0 = q) (e : TypeId) (f : Nat → List SV) (hf : ∀ (i : Nat) (r : List Value), rows[i]? = some r → f i = r.map svOf) :
  den β (.slc false id 0 0 rows.length) v ∧ (Obj.row ⟨false, false, e, ks.length, rows.length, f⟩).holds β w q := by
 obtain ⟨_, hok, ⟨a, c, rfl, hc, hp⟩, hm⟩ := h;refine ⟨?_, ?_⟩
 ·simp only [den, z65, Bool.false_eq_true, if_false];refine ⟨a, c, rfl, hc, fun h => ?_⟩;obtain ⟨L, h1, h2⟩ := hp h;exact ⟨L, hq.trans h1, by rw [h2]; simp⟩
 ·rcases hm with hm | ⟨L, h1, h2, h3, h4⟩
  ·exact .inl hm
  ·refine .inr ⟨L, h1, h2, h3, fun i hi => ?_, fun h => by cases h⟩;have hi' : i < rows.length := hi;have hr := List.getElem?_eq_getElem hi';have hfi := hf i _ hr;have hoki := hok _ (List.getElem_mem hi')
   show (f i).length = ks.length ∧ ∀ (j : Nat) (s : SV), (f i)[j]? = some s → _
   rw [hfi];refine ⟨by rw [List.length_map]; exact okRow_len hoki, fun j s hs => ?_⟩;rw [List.getElem?_map, Option.map_eq_some_iff] at hs;obtain ⟨u, hu, rfl⟩ := hs;obtain ⟨k, hk⟩ := okRow_get hoki j u hu;obtain ⟨g1, g2, _⟩ := FK.den (β := β) hk;refine ⟨g2, u, ?_, g1⟩;rw [h2];exact h4 i _ hr j u hu
def strData {H : Type} (ss : List ByteArray) : DataW H := .agg (ss.map fun s => .lit (.string s.data.toList))
theorem cells_of_strs {H : Type} {enc : TypeId × Value → H} {P : Program} {w : World} {base : Nat} {sp : Nat → Bool} {held : Bool} {fuel : Nat} {t e : TypeId} {n : Nat} {cs : List Value} {ss : List ByteArray} {p : List MemPlace}
  (ht : P.underlying t = some (.array n e)) (he : P.underlying e = some .string) (hce : P.cellsOf e = 1) (hct : P.cellsOf t = n)
  (h : DataW.trod enc P w base sp held fuel t cs = some (strData ss, p)) : cs = ss.map Value.string := by
 cases fuel with
 |zero => simp [DataW.trod] at h
 |succ fuel =>
  simp only [DataW.trod, ht, hce, hct, Nat.mul_one] at h
  split at h
  ·rename_i hl;obtain ⟨xs, hm, hx⟩ := Option.map_eq_some_iff.1 h
   have hxs : xs.map (·.1) = ss.map fun s => (DataW.lit (.string s.data.toList) : DataW H) := by
    have := congrArg Prod.fst hx;simpa [strData] using this
   have hxl : xs.length = n := by simpa using Lib.mapM_length hm
   have hzl : ss.length = n := by
    have := congrArg List.length hxs;simp at this;omega
   apply List.ext_getElem?;intro i
   by_cases hi : i < n
   ·obtain ⟨b, hb, hf⟩ := Lib.mapM_at hm i i (by simp [hi]);obtain ⟨z, hc, rfl, _⟩ := DataW.trod_string he hf
    have h1 : cs[i]? = some (.string z) := by
     have := congrArg (·[0]?) hc;simpa [List.getElem?_take, List.getElem?_drop] using this
    have h2 : (xs.map (·.1))[i]? = some (DataW.lit (.string z.data.toList) : DataW H) := by simp [hb]
    rw [hxs] at h2;simp only [List.getElem?_map, Option.map_eq_some_iff, DataW.lit.injEq, Lit.string.injEq] at h2;obtain ⟨z', hz', he'⟩ := h2
    have : z' = z := by
     cases z' with
     |mk a => cases z with
      |mk b => congr 1; exact Array.toList_inj.1 he'
    subst this;simp [h1, hz']
   ·rw [List.getElem?_eq_none (by omega), List.getElem?_eq_none (by simp; omega)]
  ·cases h
end Go.Sk

namespace Go.Sk
open Go.RowKit Go.ChangeShapes Go.WideShapes
theorem LaidVars_at {P : Program} {w : World} {n : String} {d : DataW Unit} : ∀ {l : List (String × DataW Unit)} {ps : List MemPlace}, DataW.LaidVars P w l ps → (n, d) ∈ l →
  ∃ g t cs fuel p, P.globalNamed n = some g ∧ (P.globals[g]?).map (·.type) = some t ∧ w.var? P n = some cs ∧ DataW.trod (fun _ => ()) P w 0 (fun _ => true) false fuel t cs.toList = some (d, p)
 |[], _, _, h => by cases h
 |(m, e) :: r, ps, ⟨g, t, cs, fuel, p, q, h1, h2, h3, h4, h5, _⟩, h => by
  cases h with
  |head => exact ⟨g, t, cs, fuel, p, h1, h2, h3, h4⟩
  |tail _ h => exact LaidVars_at h5 h
theorem tabs_of_mem {P : Program} {W : World} {laid : List (String × DataW Unit)} {name : String} {g : Nat} {t e : TypeId} (hg : P.globalNamed name = some g) (hty : (P.globals[g]?).map (·.type) = some t) (ht : P.underlying t = some (.array 6 e)) (he : P.underlying e = some .string) (hce : P.cellsOf e = 1) (hct : P.cellsOf t = 6)
  (hone : (List.range P.globals.size).all (fun i => !tabG P i || i == g) = true) (hm : (name, strData letters) ∈ laid) (h : laidMet P laid W) : ∀ i, tabG P i = true → i < W.heap.size ∧ TabAt W i := by
 obtain ⟨ps, h, _⟩ := h;obtain ⟨g', t', cs, fuel, p, hg', ht', hvar, hd⟩ := LaidVars_at h hm;obtain rfl := Option.some.inj (hg.symm.trans hg');obtain rfl := Option.some.inj (hty.symm.trans ht');have hcs := cells_of_strs ht he hce hct hd;intro i hi
 have hlt : i < P.globals.size := by
  rcases Nat.lt_or_ge i P.globals.size with h | h
  ·exact h
  ·unfold tabG at hi; rw [Array.getElem?_eq_none h] at hi; cases hi
 have h1 := List.all_eq_true.1 hone i (List.mem_range.2 hlt);rw [hi] at h1;have : i = g := by simpa using h1
 subst this
 have hat : TabAt W i := fun j s hj => by
  have := World.var?_cell hg hvar j;rw [this, ← Array.getElem?_toList, hcs, List.getElem?_map, hj]
  rfl
 refine ⟨?_, hat⟩;have h0 := hat 0 _ (show letters[0]? = some _ from rfl);unfold World.cell? at h0;rcases Nat.lt_or_ge i W.heap.size with h | h
 ·exact h
 ·simp [Array.getElem?_eq_none h] at h0
def byteData {H : Type} (ns : List Int) : DataW H := .agg (ns.map fun n => .lit (.int .u8 n))
theorem cells_of_bytes {H : Type} {enc : TypeId × Value → H} {P : Program} {w : World} {base : Nat} {sp : Nat → Bool} {held : Bool} {fuel : Nat} {t e : TypeId} {n : Nat} {cs : List Value} {ss : List Int} {p : List MemPlace}
  (ht : P.underlying t = some (.array n e)) (he : P.underlying e = some (.int .u8)) (hce : P.cellsOf e = 1) (hct : P.cellsOf t = n)
  (h : DataW.trod enc P w base sp held fuel t cs = some (byteData ss, p)) : cs = ss.map (Value.int .u8 ·) := by
 cases fuel with
 |zero => simp [DataW.trod] at h
 |succ fuel =>
  simp only [DataW.trod, ht, hce, hct, Nat.mul_one] at h
  split at h
  ·rename_i hl;obtain ⟨xs, hm, hx⟩ := Option.map_eq_some_iff.1 h
   have hxs : xs.map (·.1) = ss.map fun s => (DataW.lit (.int .u8 s) : DataW H) := by
    have := congrArg Prod.fst hx;simpa [byteData] using this
   have hxl : xs.length = n := by simpa using Lib.mapM_length hm
   have hzl : ss.length = n := by
    have := congrArg List.length hxs;simp at this;omega
   apply List.ext_getElem?;intro i
   by_cases hi : i < n
   ·obtain ⟨b, hb, hf⟩ := Lib.mapM_at hm i i (by simp [hi]);obtain ⟨z, hc, rfl, _⟩ := DataW.trod_int he hf
    have h1 : cs[i]? = some (.int .u8 z) := by
     have := congrArg (·[0]?) hc;simpa [List.getElem?_take, List.getElem?_drop] using this
    have h2 : (xs.map (·.1))[i]? = some (DataW.lit (.int .u8 z) : DataW H) := by simp [hb]
    rw [hxs] at h2;simp only [List.getElem?_map, Option.map_eq_some_iff, DataW.lit.injEq, Lit.int.injEq, true_and] at h2;obtain ⟨z', hz', rfl⟩ := h2;simp [h1, hz']
   ·rw [List.getElem?_eq_none (by omega), List.getElem?_eq_none (by simp; omega)]
  ·cases h
theorem tabsB_of_mem {P : Program} {W : World} {laid : List (String × DataW Unit)} {name : String} {g : Nat} {t e : TypeId} (hg : P.globalNamed name = some g) (hty : (P.globals[g]?).map (·.type) = some t) (ht : P.underlying t = some (.array 32 e)) (he : P.underlying e = some (.int .u8)) (hce : P.cellsOf e = 1) (hct : P.cellsOf t = 32)
  (hone : (List.range P.globals.size).all (fun i => !tabBG P i || i == g) = true) (hm : (name, byteData db32) ∈ laid) (h : laidMet P laid W) : ∀ i, tabBG P i = true → i < W.heap.size ∧ TabBAt W i := by
 obtain ⟨ps, h, _⟩ := h;obtain ⟨g', t', cs, fuel, p, hg', ht', hvar, hd⟩ := LaidVars_at h hm;obtain rfl := Option.some.inj (hg.symm.trans hg');obtain rfl := Option.some.inj (hty.symm.trans ht');have hcs := cells_of_bytes ht he hce hct hd;intro i hi
 have hlt : i < P.globals.size := by
  rcases Nat.lt_or_ge i P.globals.size with h | h
  ·exact h
  ·unfold tabBG at hi; rw [Array.getElem?_eq_none h] at hi; cases hi
 have h1 := List.all_eq_true.1 hone i (List.mem_range.2 hlt);rw [hi] at h1;have : i = g := by simpa using h1
 subst this
 have hat : TabBAt W i := fun j s hj => by
  have := World.var?_cell hg hvar j;rw [this, ← Array.getElem?_toList, hcs, List.getElem?_map, hj]
  rfl
 refine ⟨?_, hat⟩;have h0 := hat 0 _ (show db32[0]? = some _ from rfl);unfold World.cell? at h0;rcases Nat.lt_or_ge i W.heap.size with h | h
 ·exact h
 ·simp [Array.getElem?_eq_none h] at h0
end Go.Sk

namespace Go.Proofs
open Go.Sk
end Go.Proofs

namespace Go.Proofs
open Go.Sk
theorem exact_self {s : List Nd} {h : Nat} (hc : zj s = 0) (hh : h ≤ 16) : z2u s (z2c (z17 s) h) h = true := by
 have he : bldE s h = 0 := by rw [bldE, if_neg (by simp [hc]), if_neg (by omega)]
 simp [z2u, he, z5d]
end Go.Proofs

namespace Go.Proofs
open Go.Sk
theorem mrg_two {a b : List Nd} {h : Nat} (hca : zj a = 0) (hcb : zj b = 0) (hc : zj (a ++ b) = 0) (hh : h ≤ 16) :
  mrgE a (z2c (z17 a) h) b (z2c (z17 b) h) h = 0 ∧ mrgR a (z2c (z17 a) h) b (z2c (z17 b) h) h = z2c (z17 (a ++ b)) h := by
 have he : mrgE a (z2c (z17 a) h) b (z2c (z17 b) h) h = 0 := by
  rw [mrgE, if_neg (by omega), if_neg (by rw [exact_self hca hh, exact_self hcb hh]; decide), hc]
 exact ⟨he, by rw [mrgR, if_pos he]; rfl⟩
theorem z4v (a : List Nd) (h : Nat) : (z2c (z17 a) h).length = a.length := by rw [z12, srtN_length]
theorem blk_lv (a : List Nd) {h : Nat} (hh : h ≤ 16) : lvOk (z2c (z17 a) h) := fun i hi => by
 rw [z12] at hi; rw [z3g _ hi]; simp; omega
end Go.Proofs

namespace Go.Sk
open Go.RowKit
def Obj.rd : Obj → Obj
 |.row r => .row { r with own := false }
 |.blk _ p => .blk false p
 |.mapo _ M => .mapo false M
 |.gone => .gone
theorem Obj.rd_holds {o : Obj} {β : Env} {w : World} {q : Option Loc} (h : o.holds β w q) : o.rd.holds β w q := by
 cases o with
 |row r =>
  rcases h with h | ⟨L, h1, h2, h3, h4, _⟩
  ·exact .inl h
  ·exact .inr ⟨L, h1, h2, h3, h4, fun e => by cases e⟩
 |blk _ p => exact h
 |mapo _ M => exact h
 |gone => trivial
theorem Obj.rd_lt {o : Obj} {m : Nat} (h : o.lt m) : o.rd.lt m := by cases o <;> exact h
theorem Obj.rd_own (o : Obj) : o.rd.own = false := by cases o <;> rfl
def rdF (N : List Nat) (id : Nat) (F : Nat → Obj) : Nat → Obj := fun k => if N.contains id = true then F k else (F k).rd
def rdOs (N : List Nat) (os : List (Nat × Nat × (Nat → Obj))) : List (Nat × Nat × (Nat → Obj)) := os.map fun x => (x.1, x.2.1, rdF N x.1 x.2.2)
theorem find_rdOs (N : List Nat) : ∀ (os : List (Nat × Nat × (Nat → Obj))) (id : Nat), find (rdOs N os) id = (find os id).map fun x => (x.1, rdF N id x.2)
 |[], _ => rfl
 |(i, c, F) :: os, id => by
  simp only [rdOs, List.map_cons, find]
  split
  ·rename_i e; subst e; rfl
  ·exact find_rdOs N os id
theorem look_rdOs {N : List Nat} {os : List (Nat × Nat × (Nat → Obj))} {id k : Nat} {o : Obj} (h : look (rdOs N os) id k = some o) : ∃ o0, look os id k = some o0 ∧ ((N.contains id = true ∧ o = o0) ∨ (N.contains id = false ∧ o = o0.rd)) := by
 have hg := z4c h;obtain ⟨c, F, hf, hk, rfl⟩ := z10 h;rw [find_rdOs, Option.map_eq_some_iff] at hf;obtain ⟨⟨c0, F0⟩, hf0, he⟩ := hf
 cases he
 refine ⟨F0 k, (zo hf0 hk).trans (Obj.opt_of fun e => hg ?_), ?_⟩
 ·simp only [rdF]; rw [e]; split <;> rfl
 ·simp only [rdF]
  cases hc : N.contains id with
  |true => exact .inl ⟨rfl, by simp⟩
  |false => exact .inr ⟨rfl, by simp⟩
def cutW (w : World) (n : Nat) : World := { w with heap := w.heap.extract 0 n }
theorem cutW_size {w : World} {n : Nat} (h : n ≤ w.heap.size) : (cutW w n).heap.size = n := by simp [cutW]; omega
theorem cutW_get {w : World} {n b : Nat} (h : n ≤ w.heap.size) (hb : b < n) : w.heap[b]? = (cutW w n).heap[b]? := by
 simp only [cutW, Array.getElem?_extract];rw [if_pos (by omega)]; simp
theorem St.made {X : Cx} {β : Env} {H : AH} {w : World} (hS : St X β H w) {c1 : Nat} (h1 : X.w0.heap.size ≤ c1) (h2 : c1 ≤ w.heap.size) {N : List Nat} (hN : ∀ id, N.contains id = true → ∀ k o L, look H.os id k = some o → o.own = true → β id k = some L → c1 ≤ L.blk) :
  St ⟨X.P, X.n, cutW w c1, fun _ _ => False, 0, β, X.wrap⟩ β ⟨H.nxt, rdOs N H.os⟩ w := by
 have hown : ∀ {id k : Nat} {o : Obj}, look (rdOs N H.os) id k = some o → o.own = true → N.contains id = true ∧ look H.os id k = some o := fun h ho => by
  obtain ⟨o0, h0, e⟩ := look_rdOs h;rcases e with ⟨e1, rfl⟩ | ⟨_, rfl⟩
  ·exact ⟨e1, h0⟩
  ·rw [Obj.rd_own] at ho; cases ho
 have hget : ∀ {b : Nat}, b < c1 → w.heap[b]? = (cutW w c1).heap[b]? := fun hb => cutW_get h2 hb;refine ⟨rfl, rfl, rfl, ?_, fun _ _ h => absurd h (Nat.not_lt_zero _), fun id k o h => ?_, fun id k id' k' o o' L L' h h' ho hb hb' he => ?_, fun b hb _ => ?_, fun id k o L h ho hb => .inr ⟨Nat.zero_le _, ?_⟩, fun _ _ h => h.elim, Nat.zero_le _, fun id k o h => ?_, ⟨fun g hg => ?_, fun g hg => ?_⟩, Nat.le_refl _⟩
 ·show (cutW w c1).heap.size ≤ w.heap.size
  rw [cutW_size h2]; exact h2
 ·obtain ⟨o0, h0, e⟩ := look_rdOs h;rcases e with ⟨_, rfl⟩ | ⟨_, rfl⟩
  ·exact hS.holds _ _ _ h0
  ·exact Obj.rd_holds (hS.holds _ _ _ h0)
 ·obtain ⟨_, g1⟩ := hown h ho;obtain ⟨o0, g2, _⟩ := look_rdOs h';exact hS.sep _ _ _ _ _ _ _ _ g1 g2 ho hb hb' he
 ·have hb' : b < (cutW w c1).heap.size := hb;rw [cutW_size h2] at hb';exact hget hb'
 ·show (cutW w c1).heap.size ≤ L.blk
  rw [cutW_size h2];obtain ⟨g1, g2⟩ := hown h ho;exact hN id g1 k o L g2 ho hb
 ·obtain ⟨o0, h0, e⟩ := look_rdOs h;have := hS.lt _ _ _ h0;refine ⟨this.1, ?_⟩;rcases e with ⟨_, rfl⟩ | ⟨_, rfl⟩
  ·exact this.2
  ·exact Obj.rd_lt this.2
 ·obtain ⟨_, _, htab⟩ := hS.tab hg;have hlt : g < c1 := Nat.lt_of_lt_of_le (hS.tabs.1 g hg).1 h1;refine ⟨by show g < (cutW w c1).heap.size; rw [cutW_size h2]; exact hlt, fun j s hj => ?_, fun _ _ _ h => h.elim⟩;exact (World.cell?_of_block (w := w) (a := ⟨g, j, none⟩) (hget hlt).symm).trans (htab j s hj)
 ·obtain ⟨_, _, htab⟩ := hS.tabB hg;have hlt : g < c1 := Nat.lt_of_lt_of_le (hS.tabs.2 g hg).1 h1;refine ⟨by show g < (cutW w c1).heap.size; rw [cutW_size h2]; exact hlt, fun j s hj => ?_, fun _ _ _ h => h.elim⟩;exact (World.cell?_of_block (w := w) (a := ⟨g, j, none⟩) (hget hlt).symm).trans (htab j s hj)
def Fresh (H : AH) (q : Nat) (s : SV) (H' : AH) : Prop := s = .slc true H.nxt 0 0 q ∧ H'.nxt = H.nxt + 1 ∧ (∃ o, look H'.os H.nxt 0 = some o ∧ o.own = true) ∧ ∀ k o, look H'.os H.nxt k = some o → k = 0
theorem fresh_cons (H : AH) (q : Nat) (os : List (Nat × Nat × (Nat → Obj))) (e : TypeId) (sz n : Nat) (f : Nat → List SV) : Fresh H q (.slc true H.nxt 0 0 q) ⟨H.nxt + 1, (H.nxt, one (.row ⟨true, false, e, sz, n, f⟩)) :: os⟩ := by
 refine ⟨rfl, rfl, ⟨_, by rw [z2p, if_pos rfl]; rfl, rfl⟩, fun k o h => ?_⟩;rw [z2p, if_pos rfl] at h
 split at h
 ·omega
 ·cases h
theorem appendK_rd {P : Program} {m0 : Nat} {dr : Bool} {W : List Nat} {H : AH} {t t' : TypeId} {id n : Nat} {x : SV} {k : SV → AH → Prop} (h : z1i P m0 dr W H t t' (.slc true id 0 0 n) x k) {N : List Nat} (hid : N.contains id = true) :
    ∃ q, z1i P m0 dr W H t t' (.slc true id 0 0 n) x (fun s' H' => k s' H' ∧ Fresh H q s' H') ∧ z1i P 0 false [] ⟨H.nxt, rdOs N H.os⟩ t t' (.slc true id 0 0 n) x (fun s' H' => Fresh H q s' H') := by
  unfold z1i at h ⊢
  split at h
  · rename_i e hkd;obtain ⟨h0, h⟩ := h;simp only [hkd]
    have key : ∀ (m : Nat) (g : Nat → List SV), (match find H.os id with
        | some (c, F) =>
          match F 0 with
          | .row r => (r.own = true ∧ (dr = true → W.contains id = true) ∧ c = 1 ∧ m0 ≤ id ∧ n ≤ r.n ∧ r.sz = z3s P e ∧ r.e = e ∧ n + m ≤ 1073741824 ∧ (z28 P e).bytes ≤ 1024) ∧
              k (.slc true H.nxt 0 0 (n + m)) ⟨H.nxt + 1, (H.nxt, one (.row ⟨true, false, e, z3s P e, n + m, app r.f n g⟩)) :: z1v H.os id⟩
          | _ => False
        | none => False) → (match find H.os id with
        | some (c, F) =>
          match F 0 with
          | .row r => (r.own = true ∧ (dr = true → W.contains id = true) ∧ c = 1 ∧ m0 ≤ id ∧ n ≤ r.n ∧ r.sz = z3s P e ∧ r.e = e ∧ n + m ≤ 1073741824 ∧ (z28 P e).bytes ≤ 1024) ∧
              (k (.slc true H.nxt 0 0 (n + m)) ⟨H.nxt + 1, (H.nxt, one (.row ⟨true, false, e, z3s P e, n + m, app r.f n g⟩)) :: z1v H.os id⟩ ∧ Fresh H (n + m) (.slc true H.nxt 0 0 (n + m)) ⟨H.nxt + 1, (H.nxt, one (.row ⟨true, false, e, z3s P e, n + m, app r.f n g⟩)) :: z1v H.os id⟩)
          | _ => False
        | none => False) ∧ (match find (rdOs N H.os) id with
        | some (c, F) =>
          match F 0 with
          | .row r => (r.own = true ∧ (false = true → [].contains id = true) ∧ c = 1 ∧ 0 ≤ id ∧ n ≤ r.n ∧ r.sz = z3s P e ∧ r.e = e ∧ n + m ≤ 1073741824 ∧ (z28 P e).bytes ≤ 1024) ∧
              Fresh H (n + m) (.slc true H.nxt 0 0 (n + m)) ⟨H.nxt + 1, (H.nxt, one (.row ⟨true, false, e, z3s P e, n + m, app r.f n g⟩)) :: z1v (rdOs N H.os) id⟩
          | _ => False
        | none => False) := fun m g h => by
      rw [find_rdOs]
      cases hf : find H.os id with
      | none => rw [hf] at h; exact h.elim
      | some x =>
        obtain ⟨c, F⟩ := x;rw [hf] at h;simp only at h;simp only [Option.map_some, rdF, hid, if_true]
        cases hr : F 0 with
        | row r =>
          rw [hr] at h;simp only at h ⊢;obtain ⟨⟨a1, a2, a3, a4, a5, a6, a7, a8, a9⟩, hk⟩ := h;exact ⟨⟨⟨a1, a2, a3, a4, a5, a6, a7, a8, a9⟩, hk, fresh_cons ..⟩, ⟨a1, fun e => (by cases e), a3, Nat.zero_le _, a5, a6, a7, a8, a9⟩, fresh_cons ..⟩
        | _ => rw [hr] at h; exact h.elim
    unfold srcK at h ⊢
    split at h
    · obtain ⟨k1, k2⟩ := key _ _ h;exact ⟨n + 0, ⟨h0, k1⟩, h0, k2⟩
    · rename_i g id2 kk o m
      cases hf : find H.os id2 with
      | none => rw [hf] at h; exact h.elim
      | some y =>
        obtain ⟨c, F⟩ := y;rw [hf] at h;simp only at h
        cases hr : F kk with
        | row r =>
          rw [hr] at h;simp only at h;obtain ⟨hc, h⟩ := h;obtain ⟨k1, k2⟩ := key _ _ h;refine ⟨n + m, ⟨h0, ?_⟩, h0, ?_⟩
          · simp only [hf, hr]; exact ⟨hc, k1⟩
          · simp only [find_rdOs, hf, Option.map_some]
            have : ∃ b, rdF N id2 F kk = .row { r with own := b } := by
              simp only [rdF, hr]
              split
              · exact ⟨r.own, rfl⟩
              · exact ⟨false, rfl⟩
            obtain ⟨b, hb⟩ := this;simp only [hb];rw [find_rdOs] at k2;exact ⟨hc, k2⟩
        | _ => rw [hr] at h; exact h.elim
    · exact h.elim
  · exact h.elim
theorem fresh_blk {H : AH} {q : Nat} {β1 β2 : Env} {s1 s2 : SV} {H1 H2 : AH} {v : Value} (h1 : Fresh H q s1 H1) (h2 : Fresh H q s2 H2) (d1 : den β1 s1 v) (d2 : den β2 s2 v) {L : Loc} (hL : β1 H.nxt 0 = some L) : ∃ L2, β2 H.nxt 0 = some L2 ∧ L2.blk = L.blk := by
 obtain ⟨rfl, _⟩ := h1;obtain ⟨rfl, _⟩ := h2;simp only [den, z65, if_true] at d1 d2;rcases d1 with ⟨e, _⟩ | ⟨L1, c1, e1, _, _, _, _, e2⟩
 ·rw [hL] at e; cases e
 ·rw [hL] at e1; cases e1
  rcases d2 with ⟨_, _, _, e3⟩ | ⟨L2, c2, e3, _, _, _, _, e4⟩
  ·rw [e2] at e3; cases e3
  ·rw [e2] at e4;simp only [Value.slice.injEq, Option.some.injEq, Addr.mk.injEq] at e4;exact ⟨L2, e3, e4.1.1.symm⟩
theorem appendK_made {X : Cx} {β : Env} {H : AH} {w : World} (hS : St X β H w) {c1 : Nat} (h1 : X.w0.heap.size ≤ c1) (h2 : c1 ≤ w.heap.size) {N : List Nat} (hN : ∀ id, N.contains id = true → ∀ k o L, look H.os id k = some o → o.own = true → β id k = some L → c1 ≤ L.blk)
  {dr : Bool} {W : List Nat} {t t' ty : TypeId} {id n : Nat} {x : SV} {vs vx : Value} {k : SV → AH → Prop} (h : z1i X.P X.m0 dr W H t t' (.slc true id 0 0 n) x k) (hid : N.contains id = true) (hs : den β (.slc true id 0 0 n) vs) (hx : den β x vx) :
  ∃ v' w', (Builtin.append_ #[t, t'] ty #[vs, vx]).run X.P w = .ok v' w' ∧ (∃ β' s H', k s H' ∧ den β' s v' ∧ s.lt H'.nxt ∧ St X β' H' w' ∧ Env.agree H.nxt β β' ∧ H.nxt < H'.nxt ∧ Sub H H' ∧ ∀ k o L, look H'.os H.nxt k = some o → β' H.nxt k = some L → c1 ≤ L.blk) ∧ (dr = true → Kp w (inW β H W) w') := by
 obtain ⟨q, g1, g2⟩ := appendK_rd h hid;obtain ⟨v', w', hr, ⟨β', s, H', ⟨hk, hf⟩, d1, d2, d3, d4, d5, d6⟩, hkp⟩ := appendK_ok (ty := ty) hS g1 hs hx;obtain ⟨v2, w2, hr2, ⟨β2, s2, H2, hf2, e1, e2, e3, e4, e5, e6⟩, _⟩ := appendK_ok (ty := ty) (hS.made h1 h2 hN) g2 hs hx;have hrr : (Builtin.append_ #[t, t'] ty #[vs, vx]).run X.P w = .ok v2 w2 := hr2;rw [hr] at hrr
 cases hrr
 refine ⟨v', w', hr, ⟨β', s, H', hk, d1, d2, d3, d4, by rw [hf.2.1]; exact Nat.lt_succ_self _, d6, fun kk o L hl hL => ?_⟩, hkp⟩;obtain rfl := hf.2.2.2 kk o hl;obtain ⟨L2, q1, q2⟩ := fresh_blk hf hf2 d1 e1 hL;obtain ⟨o2, q3, q4⟩ := hf2.2.2.1;rcases e3.mine _ _ _ _ q3 q4 q1 with ⟨z, _⟩ | ⟨_, z⟩
 ·exact absurd z (Nat.not_lt_zero _)
 ·have z' : (cutW w c1).heap.size ≤ L2.blk := z;rw [cutW_size h2] at z';omega
theorem bsliceK_rd {P : Program} {H : AH} {t : TypeId} {len : Nat} {ps : List (Nat × SV)} {k : SV → AH → Prop} (h : z1m P H t len ps k) : z1m P H t len ps (fun s' H' => k s' H' ∧ Fresh H len s' H') := by
 unfold z1m at h ⊢
 split at h
 ·rename_i e hkd;simp only [hkd]
  cases hz : z52 P e with
  |none => rw [hz] at h; exact h.elim
  |some z =>
   rw [hz] at h
   try simp only at h
   split at h
   ·rename_i cs hcs;simp only [hcs];exact ⟨h.1, h.2, fresh_cons ..⟩
   ·exact h.elim
 ·exact h.elim
theorem bsliceK_made {X : Cx} {β : Env} {H : AH} {w : World} (hS : St X β H w) {t : TypeId} {len : Nat} {ps : List (Nat × SV)} {pv : List (Nat × Value)} {k : SV → AH → Prop} (h : z1m X.P H t len ps k)
  (he : ps.map (·.1) = pv.map (·.1)) (hd : z41 β (ps.map (·.2)) (pv.map (·.2))) (hl : SV.ltL H.nxt (ps.map (·.2))) :
  ∃ v' w', (Instr.buildSlice t len pv.toArray).run X.P w = .ok v' w' ∧ (∃ β' s H', k s H' ∧ den β' s v' ∧ s.lt H'.nxt ∧ St X β' H' w' ∧ Env.agree H.nxt β β' ∧ H.nxt < H'.nxt ∧ Sub H H' ∧ ∀ k o L, look H'.os H.nxt k = some o → β' H.nxt k = some L → w.heap.size ≤ L.blk) ∧ Blw w.heap.size w w' := by
 obtain ⟨v', w', hr, ⟨β', s, H', ⟨hk, hf⟩, d1, d2, d3, d4, d5, d6⟩, hkp⟩ := bsliceK_ok hS (bsliceK_rd h) he hd hl
 let Z : Cx := ⟨X.P, X.n, w, fun id k => ∃ o, look H.os id k = some o ∧ o.own = true, H.nxt, β, X.wrap⟩
 have hZ : St Z β H w := ⟨rfl, rfl, rfl, Nat.le_refl _, fun _ _ _ => rfl, hS.holds, hS.sep, fun _ _ _ => rfl, fun id k o L h ho _ => .inl ⟨(hS.lt _ _ _ h).1, o, h, ho⟩, fun id k ⟨o, h, ho⟩ => ⟨(hS.lt _ _ _ h).1, o, h, ho⟩, Nat.le_refl _, hS.lt, ⟨fun g hg => by
  obtain ⟨a, b, c⟩ := hS.tab hg;exact ⟨b, c, fun id k L ⟨o, h, ho⟩ hL => a id k o L h ho hL⟩, fun g hg => by
  obtain ⟨a, b, c⟩ := hS.tabB hg
  exact ⟨b, c, fun id k L ⟨o, h, ho⟩ hL => a id k o L h ho hL⟩⟩, Nat.le_refl _⟩
 obtain ⟨v2, w2, hr2, ⟨β2, s2, H2, ⟨_, hf2⟩, e1, e2, e3, e4, e5, e6⟩, _⟩ := bsliceK_ok (X := Z) hZ (bsliceK_rd h) he hd hl;have hrr : (Instr.buildSlice t len pv.toArray).run X.P w = .ok v2 w2 := hr2;rw [hr] at hrr
 cases hrr
 refine ⟨v', w', hr, ⟨β', s, H', hk, d1, d2, d3, d4, by rw [hf.2.1]; exact Nat.lt_succ_self _, d6, fun kk o L hl hL => ?_⟩, hkp⟩;obtain rfl := hf.2.2.2 kk o hl;obtain ⟨L2, q1, q2⟩ := fresh_blk hf hf2 d1 e1 hL;obtain ⟨o2, q3, q4⟩ := hf2.2.2.1;rcases e3.mine _ _ _ _ q3 q4 q1 with ⟨z, _⟩ | ⟨_, z⟩
 ·exact absurd z (Nat.lt_irrefl _)
 ·have z' : w.heap.size ≤ L2.blk := z;omega
end Go.Sk

namespace Go.Sk
open Go.RowKit
def appN (fr : Fr) (N : List Nat) (x y : Operand) : Bool :=
 (match x with
 |.tmp t => (match get fr t with
  |some (.slc true id 0 0 _) => N.contains id
  |_ => false)
 |_ => false) && (match y with
 |.tmp t => (match get fr t with
  |some (.slc ..) => true
  |some .nils => true
  |_ => false)
 |_ => false)
def isNewF (ops : Array Oper) (i : Nat) (fr : Fr) (N : List Nat) : Bool := match ops[i]? with
 |some o => o.guard.isNone && (match o.op with
  |.alloc _ => true
  |.buildSlice .. => true
  |.call c => (match c.callee, c.args, c.argTypes with
   |.builtin .append, ⟨[x, y]⟩, ⟨[_, _]⟩ => appN fr N x y
   |_, _, _ => false)
  |_ => false)
 |none => false
theorem isNewF_eff {ops : Array Oper} {i : Nat} {fr : Fr} {N : List Nat} {o : Oper} (ho : ops[i]? = some o) (hq : isQ o.op = true) : isNewF ops i fr N = false := by
 unfold isNewF;rw [ho]
 cases hop : o.op <;> simp_all [isQ]
 rename_i c;obtain ⟨ce, args, ats⟩ := c
 cases ce <;> simp_all
 rename_i b
 cases b <;> simp_all
theorem stp_made {X : Cx} {β : Env} {H : AH} {w : World} (hS : St X β H w) {c1 : Nat} (h1 : X.w0.heap.size ≤ c1) (h2 : c1 ≤ w.heap.size) {N : List Nat} (hN : ∀ id, N.contains id = true → ∀ k o L, look H.os id k = some o → o.own = true → β id k = some L → c1 ≤ L.blk)
  {W Wq : List Nat} {fr : Fr} {a : Act} (hF : FrOk X β H.nxt fr a) {ops : Array Oper} {o : Oper} {i : Nat} (hi : ops[i]? = some o) (hd : ∀ t, o.dst = some t → t < X.n) {K : Fr → AH → Prop} (hnew : isNewF ops i fr N = true)
  (h : stp X.P X.wrap X.m0 true W Wq ops o fr H K) {Q : Exit → Act → World → Prop} :
  o.guard = none ∧ o.wp X.P a w (fun a' w' => ∃ β' fr' H', K fr' H' ∧ FrOk X β' H'.nxt fr' a' ∧ St X β' H' w' ∧ Env.agree H.nxt β β' ∧ H.nxt < H'.nxt ∧ Sub H H' ∧ (∀ k o L, look H'.os H.nxt k = some o → β' H.nxt k = some L → c1 ≤ L.blk) ∧ Kp w (inW β H W) w') Q := by
 unfold isNewF at hnew;rw [hi] at hnew;simp only [Bool.and_eq_true, Option.isNone_iff_eq_none] at hnew;obtain ⟨hg, hnew⟩ := hnew;refine ⟨hg, ?_⟩
 split at hnew
 ·rename_i e hop;refine Oper.wp_mono (fun a' w' hp => ?_) (stp_new (Q := Q) hS hF hd hg hop h);obtain ⟨β', fr', H', q1, q2, q3, q4, q5, q6, q7, q8⟩ := hp;exact ⟨β', fr', H', q1, q2, q3, q4, q5, q6, fun k o L _ hL => Nat.le_trans h2 (q7 k L hL), q8.mono fun b hb => hb.elim⟩
 ·rename_i t len ps hop;unfold stp at h;rw [hg, hop] at h;simp only [isQ, Bool.false_eq_true, ↓reduceIte, eop] at h;obtain ⟨ss, g1, he, hs⟩ := partsK_ok hF h;obtain ⟨v, w', hr, ⟨β', s, H', q1, q2, q3, q4, q5, q6, q7, q8⟩, hB⟩ := bsliceK_made (pv := (ps.toList.map fun p => (p.1, a.eval p.2))) hS g1 (by rw [he, List.map_map]; rfl) (by rw [List.map_map]; exact (hs rfl).1) (hs rfl).2
  have hex : execOp a.eval o = (do pure (.value (← Instr.buildSlice t len (ps.toList.map fun p => (p.1, a.eval p.2)).toArray))) := by
   simp only [execOp, hop]
   have : (ps.map fun x => (x.1, a.eval x.2)) = (ps.toList.map fun p => (p.1, a.eval p.2)).toArray := by
    rw [← List.map_toArray]
   rw [← this]
  unfold Oper.wp;rw [hex];simp only [Sem.run_bind, hr, Result.andThen_ok, Sem.run_pure, Oper.upon];exact ⟨β', _, H', q1, (hF.agree (Nat.le_of_lt q6) q5).put hd q3 q2, q4, q5, q6, q7, fun k o L hl hL => Nat.le_trans h2 (q8 k o L hl hL), .of_below hB⟩
 ·rename_i c hop
  split at hnew
  ·rename_i x y t t' hc1 hc2 hc3;obtain ⟨ce, args, ats⟩ := c;simp only at hc1 hc2 hc3;subst hc1 hc2 hc3;have hq : isQ o.op = false := by rw [hop]; rfl
   unfold stp at h;rw [hg] at h;simp only at h;rw [if_neg (by rw [hq]; decide), hop] at h;simp only [eop] at h;unfold appN at hnew;simp only [Bool.and_eq_true] at hnew;obtain ⟨n1, n2⟩ := hnew
   split at n1
   ·rename_i t1
    split at n1
    ·rename_i id nn hget;have hx := z1n (x := .tmp t1) (G := true) hF (k := fun s => s = .slc true id 0 0 nn) (by simp only [z40, hget]);obtain ⟨_, rfl, hx⟩ := hx;simp only [z40, hget] at h
     have fin : ∀ (sy : SV), (∀ kd n, sy ≠ .int kd n) → den β sy (a.eval y) → z1i X.P X.m0 true W H t t' (.slc true id 0 0 nn) sy (fun s H' => K (put o.dst s fr) H') → o.wp X.P a w (fun a' w' => ∃ β' fr' H', K fr' H' ∧ FrOk X β' H'.nxt fr' a' ∧ St X β' H' w' ∧ Env.agree H.nxt β β' ∧ H.nxt < H'.nxt ∧ Sub H H' ∧ (∀ k o L, look H'.os H.nxt k = some o → β' H.nxt k = some L → c1 ≤ L.blk) ∧ Kp w (inW β H W) w') Q := fun sy _ hy hap => by
      obtain ⟨v, w', hr, ⟨β', s, H', q1, q2, q3, q4, q5, q6, q7, q8⟩, hK⟩ := appendK_made (ty := o.type) hS h1 h2 hN hap n1 (hx rfl).1 hy;unfold Oper.wp;simp only [execOp, hop, resolve, Sem.run_bind, Sem.run_pure, Result.andThen_ok, invoke, builtin, List.map_toArray, List.map_cons, List.map_nil, hr, Oper.upon];exact ⟨β', _, H', q1, (hF.agree (Nat.le_of_lt q6) q5).put hd q3 q2, q4, q5, q6, q7, q8, hK rfl⟩
     split at n2
     ·rename_i t2
      split at n2
      ·rename_i g2 id2 kk2 o2 m2 hget2;obtain ⟨_, rfl, hy⟩ := z1n (x := .tmp t2) (G := true) hF (k := fun s => s = .slc g2 id2 kk2 o2 m2) (by simp only [z40, hget2]);simp only [z40, hget2] at h;exact fin _ (fun _ _ e => by cases e) (hy rfl).1 h
      ·rename_i hget2;obtain ⟨_, rfl, hy⟩ := z1n (x := .tmp t2) (G := true) hF (k := fun s => s = .nils) (by simp only [z40, hget2]);simp only [z40, hget2] at h;exact fin _ (fun _ _ e => by cases e) (hy rfl).1 h
      ·cases n2
     ·cases n2
    ·cases n1
   ·cases n1
  ·cases hnew
 ·cases hnew
def newF (ops : Array Oper) (i : Nat) (H : AH) (fr : Fr) (N : List Nat) : List Nat := if isNewF ops i fr N = true then H.nxt :: N else N
def runF (P : Program) (wr : Bool) (m0 : Nat) (W U : List (List Nat)) (ops : Array Oper) : Plan → List Nat → Fr → AH → (Fr → AH → Prop) → Prop
 |.done, _, fr, H, K => K fr H
 |.op i p, N, fr, H, K => stpI P wr m0 W U ops N i fr H fun fr' H' => runF P wr m0 W U ops p (newF ops i H fr N) fr' H' K
 |.two i j p q, N, fr, H, K => (stpI P wr m0 W U ops N i fr H fun fr' H' => runF P wr m0 W U ops p (newF ops i H fr N) fr' H' K) ∧ (stpI P wr m0 W U ops N j fr H fun fr' H' => runF P wr m0 W U ops q (newF ops j H fr N) fr' H' K)
 |.three i j k p q r, N, fr, H, K => (stpI P wr m0 W U ops N i fr H fun fr' H' => runF P wr m0 W U ops p (newF ops i H fr N) fr' H' K) ∧ (stpI P wr m0 W U ops N j fr H fun fr' H' => runF P wr m0 W U ops q (newF ops j H fr N) fr' H' K) ∧ (stpI P wr m0 W U ops N k fr H fun fr' H' => runF P wr m0 W U ops r (newF ops k H fr N) fr' H' K)
 |.four i j k m p q r t, N, fr, H, K => (stpI P wr m0 W U ops N i fr H fun fr' H' => runF P wr m0 W U ops p (newF ops i H fr N) fr' H' K) ∧ (stpI P wr m0 W U ops N j fr H fun fr' H' => runF P wr m0 W U ops q (newF ops j H fr N) fr' H' K) ∧ (stpI P wr m0 W U ops N k fr H fun fr' H' => runF P wr m0 W U ops r (newF ops k H fr N) fr' H' K) ∧ (stpI P wr m0 W U ops N m fr H fun fr' H' => runF P wr m0 W U ops t (newF ops m H fr N) fr' H' K)
@[congr] theorem runF_c {P : Program} {wr : Bool} {m0 : Nat} {W U : List (List Nat)} {ops : Array Oper} {p : Plan} {N : List Nat} {fr : Fr} {H : AH} {K : Fr → AH → Prop} : runF P wr m0 W U ops p N fr H K = runF P wr m0 W U ops p N fr H K := rfl
section
variable {X : Cx} {ops : Array Oper} {K : Fr → AH → Prop} {Q : Exit → Act → World → Prop} {A Wf Uq : List (List Nat)} {w1 : World} {β1 : Env} {H1 : AH}
def AtF (X : Cx) (w1 : World) (β1 : Env) (H1 : AH) (β : Env) (H : AH) (w : World) (dirty : Bool) (N : List Nat) : Prop :=
 St X β H w ∧ (dirty = false → w = w1 ∧ β = β1 ∧ H = H1) ∧ Env.agree H1.nxt β1 β ∧ H1.nxt ≤ H.nxt ∧ Sub H1 H ∧ w1.heap.size ≤ w.heap.size ∧ ∀ id ∈ N, id < H.nxt ∧ ∀ k o L, look H.os id k = some o → o.own = true → β id k = some L → w1.heap.size ≤ L.blk
theorem forcedF (hw1 : X.w0.heap.size ≤ w1.heap.size) (hWn : ∀ j, anyW (Wf.getD j []) = false → ∀ id ∈ Wf.getD j [], id < H1.nxt) {listed : Array Bool} {dirty : Bool} {β : Env} {H : AH} {w : World} {fr : Fr} {a : Act} {N : List Nat} (hd : dstOk X.n ops.toList = true) {fuel : Nat} {i : Nat}
  (hA : AtF X w1 β1 H1 β H w dirty N) (hF : FrOk X β H.nxt fr a) {k : Fr → AH → Prop} (h : stpI X.P X.wrap X.m0 Wf Uq ops N i fr H k)
  (next : ∀ β' H' w' fr' a', AtF X w1 β1 H1 β' H' w' (dirty || !opQ ops i) (newF ops i H fr N) → FrOk X β' H'.nxt fr' a' → k fr' H' → wpAnyG X.P ops Q (SW w1 β1 H1 Wf) (z5i ops) fuel (listed.setIfInBounds i true) a' w') :
  wpOp X.P ops Q i (fun a' w' => ((z5i ops i = true → w' = w) ∧ SW w1 β1 H1 Wf i w w') ∧ wpAnyG X.P ops Q (SW w1 β1 H1 Wf) (z5i ops) fuel (listed.setIfInBounds i true) a' w') a w := by
 obtain ⟨hS, hnd, hag, hle, hsub, hwz, hN⟩ := hA;unfold stpI at h
 cases ho : ops[i]? with
 |none => rw [ho] at h; exact h.elim
 |some o =>
  rw [ho] at h;simp only at h;have hom : o ∈ ops.toList := by have := Array.mem_of_getElem? ho; simpa using this
  have hdo : ∀ t, o.dst = some t → t < X.n := dstOk_spec hd hom
  cases hq : isQ o.op with
  |true =>
   have hisq : z5i ops i = true := by unfold z5i; rw [ho]; exact hq
   have hoq : opQ ops i = true := by unfold opQ; rw [ho]; exact hq
   have hnn : newF ops i H fr N = N := by
    unfold newF;rw [isNewF_eff ho hq]; rfl
   obtain ⟨v, fr', hy, hk, hF'⟩ := z76 (C := fun w' => w' = w) hS hF hdo hq (fun _ w' hw' => by rw [hw']; exact Kp.refl _ _) h;refine hy.wpOp ho rfl ⟨⟨fun _ => rfl, Kp.refl _ _⟩, next β H w fr' _ ⟨hS, ?_, hag, hle, hsub, hwz, ?_⟩ hF' hk⟩
   ·rw [hoq]; simpa using hnd
   ·rw [hnn]; exact hN
  |false =>
   have hisq : z5i ops i = false := by unfold z5i; rw [ho]; exact hq
   have hoq : opQ ops i = false := by unfold opQ; rw [ho]; exact hq
   have hdt : (dirty || !opQ ops i) = true := by rw [hoq]; simp
   rw [hdt] at next
   by_cases hnew : isNewF ops i fr N = true
   ·have hnn : newF ops i H fr N = H.nxt :: N := by unfold newF; rw [if_pos hnew]
    rw [hnn] at next;obtain ⟨hg, he⟩ := stp_made (Q := Q) hS hw1 hwz (fun id hid => (hN id (by simpa using hid)).2) hF ho hdo hnew h;unfold wpOp;rw [ho];simp only;rw [if_pos (by simp [Region.wanted, hg])];refine .inl (Oper.wp_mono (fun a' w' hp => ?_) he);obtain ⟨β', fr', H', hk, hF', hS', hag', hle', hsub', hfr, hkp'⟩ := hp
    have hkp2 : SW w1 β1 H1 Wf i w w' := hkp'.mono fun b hin => by
     cases hany : anyW (Wf.getD i []) with
     |true => exact .inl rfl
     |false =>
      obtain ⟨id, k, o', L, hm, hlk, how, hbb, hblk⟩ := hin;rw [wOf, hany, if_neg Bool.false_ne_true] at hm;rcases List.mem_append.1 hm with hm | hm
      ·obtain ⟨o0, q1, q2⟩ := hsub id k o' (hWn i hany id hm) hlk how;exact .inr (.inl ⟨id, k, o0, L, hm, q1, q2, by rw [← hag id k (hWn i hany id hm)]; exact hbb, hblk⟩)
      ·exact .inr (.inr (by rw [← hblk]; exact (hN id hm).2 k o' L hlk how hbb))
    refine ⟨⟨fun hh => (by rw [hisq] at hh; cases hh), hkp2⟩, next β' H' w' fr' a' ⟨hS', fun hh => (by cases hh), hag.trans hag' hle, Nat.le_trans hle (Nat.le_of_lt hle'), hsub.trans hsub' hle, Nat.le_trans hwz hkp2.1, ?_⟩ hF' hk⟩;intro id hid;rcases List.mem_cons.1 hid with rfl | hid
    ·exact ⟨hle', fun k o L hl _ hL => hfr k o L hl hL⟩
    ·obtain ⟨q1, q2⟩ := hN id hid
     exact ⟨Nat.lt_trans q1 hle', fun k o L hl how hL => by
      obtain ⟨o0, r1, r2⟩ := hsub' id k o q1 hl how
      exact q2 k o0 L r1 r2 (by rw [← hag' id k q1]; exact hL)⟩
   ·have hnn : newF ops i H fr N = N := by unfold newF; rw [if_neg hnew]
    rw [hnn] at next;have he := stp_eff (Q := Q) hS hF hdo hq h;unfold wpOp;rw [ho];simp only
    split at he
    ·rename_i hw;rw [if_pos hw];refine .inl (Oper.wp_mono (fun a' w' hp => ?_) he);obtain ⟨β', fr', H', hk, hF', hS', hag', hle', hsub', hkp'⟩ := hp
     have hkp2 : SW w1 β1 H1 Wf i w w' := (hkp' rfl).mono fun b hin => by
      cases hany : anyW (Wf.getD i []) with
      |true => exact .inl rfl
      |false =>
       obtain ⟨id, k, o', L, hm, hlk, how, hbb, hblk⟩ := hin;rw [wOf, hany, if_neg Bool.false_ne_true] at hm;rcases List.mem_append.1 hm with hm | hm
       ·obtain ⟨o0, q1, q2⟩ := hsub id k o' (hWn i hany id hm) hlk how;exact .inr (.inl ⟨id, k, o0, L, hm, q1, q2, by rw [← hag id k (hWn i hany id hm)]; exact hbb, hblk⟩)
       ·exact .inr (.inr (by rw [← hblk]; exact (hN id hm).2 k o' L hlk how hbb))
     refine ⟨⟨fun hh => (by rw [hisq] at hh; cases hh), hkp2⟩, next β' H' w' fr' a' ⟨hS', fun hh => (by cases hh), hag.trans hag' hle, Nat.le_trans hle hle', hsub.trans hsub' hle, Nat.le_trans hwz hkp2.1, fun id hid => ?_⟩ hF' hk⟩;obtain ⟨q1, q2⟩ := hN id hid
     exact ⟨Nat.lt_of_lt_of_le q1 hle', fun k o L hl how hL => by
      obtain ⟨o0, r1, r2⟩ := hsub' id k o q1 hl how
      exact q2 k o0 L r1 r2 (by rw [← hag' id k q1]; exact hL)⟩
    ·rename_i hw;rw [if_neg hw];obtain ⟨fr', hk, hF'⟩ := he;exact ⟨⟨fun hh => (by rw [hisq] at hh; cases hh), Kp.refl _ _⟩, next β H w fr' _ ⟨hS, fun hh => (by cases hh), hag, hle, hsub, hwz, hN⟩ hF' hk⟩
theorem runF_ok (hw1 : X.w0.heap.size ≤ w1.heap.size) (hQ : ∀ a w, At X K a w → Q .normal a w) (hQp : ∀ c a w, ¬ Q (.panic c) a w)
  (hns : Region.noSelect ops = true) (hA : afterOk ops A = true) (hE : effOkT ops A Wf Uq = true) (hWn : ∀ j, anyW (Wf.getD j []) = false → ∀ id ∈ Wf.getD j [], id < H1.nxt) (hd : dstOk X.n ops.toList = true) :
  ∀ (p : Plan) (listed : Array Bool) (dirty : Bool) {N : List Nat} {β : Env} {H : AH} {w : World} {fr : Fr} {a : Act}, z5u ops p listed dirty = true → Closed ops listed →
   AtF X w1 β1 H1 β H w dirty N → FrOk X β H.nxt fr a →
   runF X.P X.wrap X.m0 Wf Uq ops p N fr H K → wpAnyG X.P ops Q (SW w1 β1 H1 Wf) (z5i ops) p.len listed a w
 |.done, listed, dirty, N, β, H, w, fr, a, hs, _, hT, hF, h => ⟨by simpa [z5u] using hs, hQ _ _ ⟨β, fr, H, h, hF, hT.1⟩⟩
 |.two i j p q, listed, dirty, N, β, H, w, fr, a, hs, hcl, hT, hF, h => by
  simp only [z5u, Bool.and_eq_true, beq_iff_eq] at hs;obtain ⟨⟨⟨hrd, hl⟩, hs1⟩, hs2⟩ := hs;simp only [runF] at h;refine ⟨fun h0 => (by rw [hrd] at h0; cases h0), fun x hx => ?_⟩;have hcx := hcl.set hx;rw [hrd] at hx;simp only [List.mem_cons, List.not_mem_nil, or_false] at hx;rcases hx with rfl | rfl
  ·exact forcedF hw1 hWn hd hT hF h.1 fun β' H' w' fr' a' hT' hF' hk => runF_ok hw1 hQ hQp hns hA hE hWn hd p _ _ hs1 hcx hT' hF' hk
  ·refine forcedF hw1 hWn hd hT hF h.2 fun β' H' w' fr' a' hT' hF' hk => ?_;rw [hl];exact runF_ok hw1 hQ hQp hns hA hE hWn hd q _ _ hs2 hcx hT' hF' hk
 |.three i j k p q r, listed, dirty, N, β, H, w, fr, a, hs, hcl, hT, hF, h => by
  simp only [z5u, Bool.and_eq_true, beq_iff_eq] at hs;obtain ⟨⟨⟨⟨⟨hrd, hl⟩, hl2⟩, hs1⟩, hs2⟩, hs3⟩ := hs;simp only [runF] at h;refine ⟨fun h0 => (by rw [hrd] at h0; cases h0), fun x hx => ?_⟩;have hcx := hcl.set hx;rw [hrd] at hx;simp only [List.mem_cons, List.not_mem_nil, or_false] at hx;rcases hx with rfl | rfl | rfl
  ·exact forcedF hw1 hWn hd hT hF h.1 fun β' H' w' fr' a' hT' hF' hk => runF_ok hw1 hQ hQp hns hA hE hWn hd p _ _ hs1 hcx hT' hF' hk
  ·refine forcedF hw1 hWn hd hT hF h.2.1 fun β' H' w' fr' a' hT' hF' hk => ?_;rw [hl];exact runF_ok hw1 hQ hQp hns hA hE hWn hd q _ _ hs2 hcx hT' hF' hk
  ·refine forcedF hw1 hWn hd hT hF h.2.2 fun β' H' w' fr' a' hT' hF' hk => ?_;rw [hl2];exact runF_ok hw1 hQ hQp hns hA hE hWn hd r _ _ hs3 hcx hT' hF' hk
 |.four i j k m p q r t, listed, dirty, N, β, H, w, fr, a, hs, hcl, hT, hF, h => by
  simp only [z5u, Bool.and_eq_true, beq_iff_eq] at hs;obtain ⟨⟨⟨⟨⟨⟨⟨hrd, hl⟩, hl2⟩, hl3⟩, hs1⟩, hs2⟩, hs3⟩, hs4⟩ := hs;simp only [runF] at h;refine ⟨fun h0 => (by rw [hrd] at h0; cases h0), fun x hx => ?_⟩;have hcx := hcl.set hx;rw [hrd] at hx;simp only [List.mem_cons, List.not_mem_nil, or_false] at hx;rcases hx with rfl | rfl | rfl | rfl
  ·exact forcedF hw1 hWn hd hT hF h.1 fun β' H' w' fr' a' hT' hF' hk => runF_ok hw1 hQ hQp hns hA hE hWn hd p _ _ hs1 hcx hT' hF' hk
  ·refine forcedF hw1 hWn hd hT hF h.2.1 fun β' H' w' fr' a' hT' hF' hk => ?_;rw [hl];exact runF_ok hw1 hQ hQp hns hA hE hWn hd q _ _ hs2 hcx hT' hF' hk
  ·refine forcedF hw1 hWn hd hT hF h.2.2.1 fun β' H' w' fr' a' hT' hF' hk => ?_;rw [hl2];exact runF_ok hw1 hQ hQp hns hA hE hWn hd r _ _ hs3 hcx hT' hF' hk
  ·refine forcedF hw1 hWn hd hT hF h.2.2.2 fun β' H' w' fr' a' hT' hF' hk => ?_;rw [hl3];exact runF_ok hw1 hQ hQp hns hA hE hWn hd t _ _ hs4 hcx hT' hF' hk
 |.op i p, listed, dirty, N, β, H, w, fr, a, hs, hcl, hT, hF, h => by
  simp only [z5u, Bool.and_eq_true] at hs;obtain ⟨hs1, hs2⟩ := hs;simp only [runF] at h
  have one : Region.ready .any ops listed = [i] → wpAnyG X.P ops Q (SW w1 β1 H1 Wf) (z5i ops) (p.len + 1) listed a w := fun hrd => by
   refine ⟨fun h0 => (by rw [hrd] at h0; cases h0), fun x hx => ?_⟩;have hcx := hcl.set hx;rw [hrd] at hx;simp only [List.mem_cons, List.not_mem_nil, or_false] at hx;subst hx;exact forcedF hw1 hWn hd hT hF h fun β' H' w' fr' a' hT' hF' hk => runF_ok hw1 hQ hQp hns hA hE hWn hd p _ _ hs2 hcx hT' hF' hk
  split at hs1
  ·rename_i hq0
   split at hs1
   ·exact one (by simpa using hs1)
   ·rename_i hnf;simp only [Bool.and_eq_true] at hs1;obtain ⟨hr, hfree⟩ := hs1;have hr' : i ∈ Region.ready .any ops listed := by simpa using hr
    have hcx := hcl.set hr';have hisq : z5i ops i = true := by unfold opQ at hq0; unfold z5i; exact hq0
    rw [hq0] at hs2;simp only [Bool.not_true, Bool.or_false] at hs2;obtain ⟨hS, hnd, hag, hle, hsub, hwz, hN⟩ := hT
    have hnn : newF ops i H fr N = N := by
     unfold newF;unfold opQ at hq0
     cases ho' : ops[i]? with
     |none => unfold isNewF; rw [ho']; rfl
     |some o' => rw [ho'] at hq0; rw [isNewF_eff ho' hq0]; rfl
    rw [hnn] at h;unfold stpI at h
    cases ho : ops[i]? with
    |none => rw [ho] at h; exact h.elim
    |some o =>
     rw [ho] at h;simp only at h;have hq : isQ o.op = true := by unfold opQ at hq0; rw [ho] at hq0; exact hq0
     have hom : o ∈ ops.toList := by have := Array.mem_of_getElem? ho; simpa using this
     have hdo : ∀ t, o.dst = some t → t < X.n := dstOk_spec hd hom
     have rest : ∀ v fr', runF X.P X.wrap X.m0 Wf Uq ops p N fr' H K → FrOk X β H.nxt fr' (a.put o.dst v) → wpAnyG X.P ops Q (SW w1 β1 H1 Wf) (z5i ops) p.len (listed.setIfInBounds i true) (a.put o.dst v) w :=
      fun v fr' hk hF' => runF_ok hw1 hQ hQp hns hA hE hWn hd p _ dirty hs2 hcx ⟨hS, hnd, hag, hle, hsub, hwz, hN⟩ hF' hk
     by_cases hld : isLoad o.op = true
     ·have hol : opL ops i = true := by unfold opL; rw [ho]; exact hld
      have hdf : dirty = false := by
       cases dirty with
       |false => rfl
       |true => simp [hol] at hnf
      obtain ⟨rfl, rfl, rfl⟩ := hnd hdf;obtain ⟨v, fr', hy, hk, hF'⟩ := z76 (C := Kp w (inW β H (Uq.getD i []))) hS hF hdo hq (fun _ w' hw' => hw') h;refine z6w (T := Kp w (inW β H (Uq.getD i []))) ho hisq (Region.noSelect_spec hns) (fun c a w hh => absurd hh (hQp c _ w)) ?_ (fun _ => Kp.refl _ _) p.len listed a w hcl (Region.free_spec ho hfree) hr' hy (Kp.refl _ _) (rest v fr' hk hF');intro listed' hcl' hun j hj hji w2 w3 hT hjq hSw
      by_cases hjq1 : z5i ops j = true
      ·rw [hjq hjq1];exact hT
      ·obtain ⟨_, oj, hoj, hall⟩ := mem_ready.1 hj;have hjs : j < ops.size := (Array.getElem?_eq_some_iff.1 hoj).1;have his : i < ops.size := (Array.getElem?_eq_some_iff.1 ho).1;have h1 := List.all_eq_true.1 hE j (List.mem_range.2 hjs);simp only [hoj, Bool.or_eq_true] at h1;rcases h1 with h1 | h1
       ·exact absurd (by unfold z5i; rw [hoj]; exact h1) hjq1
       ·have h2 := List.all_eq_true.1 h1 i (List.mem_range.2 his);simp only [hol, Bool.not_true, Bool.false_or, Bool.or_eq_true, Bool.and_eq_true] at h2;rcases h2 with h2 | h2
        ·exfalso
         have h3 := afterOk_listed hA hcl' (j + 1) j (Nat.lt_succ_self _) oj hoj hall i (by simpa using h2);rw [getD_down hun] at h3
         cases h3
        ·refine ⟨Nat.le_trans hT.1 hSw.1, fun b hb hnb => ?_⟩;rw [← hT.2 b hb hnb];refine hSw.2 b (Nat.lt_of_lt_of_le hb hT.1) fun hor => ?_;rcases hor with hor | hor | hor
         ·have h3 := h2.1;rw [hor] at h3; cases h3
         ·exact hnb (hor.mono fun id hid => by simpa using List.all_eq_true.1 h2.2 id hid)
         ·omega
     ·obtain ⟨v, fr', hy, hk, hF'⟩ := z76 (C := fun _ => True) hS hF hdo hq (fun he => by
      rcases he with ⟨t, x, he⟩ | he
      ·rw [he] at hld; exact absurd rfl hld
      ·cases he) h
      exact z6w (T := fun _ => True) ho hisq (Region.noSelect_spec hns) (fun c a w hh => absurd hh (hQp c _ w)) (fun _ _ _ _ _ _ _ _ _ _ _ => trivial) (fun _ => Kp.refl _ _) p.len listed a w hcl (Region.free_spec ho hfree) hr' hy trivial (rest v fr' hk hF')
  ·exact one (by simpa using hs1)
end
variable {X : Cx} {Q : Exit → Fr → AH → Prop} {fr : Fr} {H : AH} {l : List Code}
theorem Cs.regF {c : Code} {id : Nat} {ops : List Oper} (keep : List Nat) (p : Plan) (A W U : List (List Nat)) (hm : X.P.follows .mixedOrders = true)
  (hd : dstOk X.n ops = true) (hlen : p.len = ops.length) (hns : Region.noSelect ops.toArray = true) (hA : afterOk ops.toArray A = true) (hE : effOkT ops.toArray A W U = true) (hWn : W.all (fun l => anyW l || l.all fun i => decide (i < H.nxt)) = true)
  (hs : z5u ops.toArray p (Array.replicate ops.length false) false = true)
  (h : ∀ K : Fr → AH → Prop, (∀ fr H, Cs X (c :: l) Q fr H → K fr H) → (∀ fr H F G ρ, z2d X ρ fr H F G → K F G → K fr H) → runF X.P X.wrap X.m0 W U ops.toArray p [] fr H (fun fr H => K (prune keep fr) H)) : Cs X (.region id ops.toArray true :: c :: l) Q fr H := by
 have h1 := h (fun fr H => Cs X (c :: l) Q fr H) (fun _ _ h => h) (fun fr H F G ρ hg hk => Cs.give ρ hg hk)
 have h2 : Cw X (.region id ops.toArray true) (fun e fr H => match e with | .normal => Cs X (c :: l) Q (prune keep fr) H | e => Q e fr H) fr H := fun β a w hF hS => by
  refine wp_region_any hm (wpAny_of_G (S := SW w.drew β H W) (isq := z5i ops.toArray) _ _ _ _ ?_)
  have := runF_ok (X := X) (ops := ops.toArray) (Q := lift X (fun e fr H => match e with | .normal => Cs X (c :: l) Q (prune keep fr) H | e => Q e fr H)) hS.size (fun _ _ h => h) (fun _ _ _ h => h) hns hA hE (w1 := w.drew) (β1 := β) (H1 := H) (fun j hany id hid => by
   rcases Nat.lt_or_ge j W.length with hj | hj
   ·rw [List.getD, List.getElem?_eq_getElem hj] at hid hany;have h3 := List.all_eq_true.1 hWn _ (List.getElem_mem hj);simp only [Option.getD_some] at hid hany;rw [hany, Bool.false_or] at h3;simpa using List.all_eq_true.1 h3 id hid
   ·rw [List.getD, List.getElem?_eq_none hj] at hid
    cases hid) (by simpa using hd) p (Array.replicate ops.length false) false (N := []) (a := a) hs (fun j oj _ hl => by
    exfalso
    rcases Nat.lt_or_ge j ops.length with h' | h'
    ·simp [h'] at hl
    ·simp [h'] at hl) ⟨hS.drew, fun _ => ⟨rfl, rfl, rfl⟩, Env.agree.refl _ _, Nat.le_refl _, Sub.refl _, Nat.le_refl _, fun _ h => by cases h⟩ hF h1
  rw [hlen] at this;simpa using this
 refine Cw.conv h2 ?_;intro e a w hh
 cases e with
 |normal => exact At.prune (K := fun fr H => Cs X (c :: l) Q fr H) hh
 |_ => exact hh
theorem z6e {P : Program} {wr : Bool} {m0 : Nat} {W U : List (List Nat)} {ops : List Oper} {N : List Nat} {i : Nat} {p : Plan} {fr : Fr} {H : AH} {K : Fr → AH → Prop} (o : Oper) (w1 w2 N1 : List Nat) (hi : ops[i]? = some o) (hw1 : wOf W i H N = w1) (hw2 : U.getD i [] = w2) (hN1 : newF ops.toArray i H fr N = N1)
  (h : stp P wr m0 true w1 w2 ops.toArray o fr H (fun fr' H' => runF P wr m0 W U ops.toArray p N1 fr' H' K)) : runF P wr m0 W U ops.toArray (.op i p) N fr H K := by
 subst hw1 hw2 hN1;simp only [runF, stpI, List.getElem?_toArray, hi]; exact h
theorem runF_done {P : Program} {wr : Bool} {m0 : Nat} {W U : List (List Nat)} {ops : Array Oper} {N : List Nat} {fr : Fr} {H : AH} {K : Fr → AH → Prop} (h : K fr H) : runF P wr m0 W U ops .done N fr H K := h
end Go.Sk

namespace Go.Proofs
open Go.Sk
theorem Tryd.tyArN : z28 Tryd.prog 73 = ⟨true, .array 3 25, 3, 72, []⟩ := by kernel_rfl
theorem Tryd.zArN : z52 Tryd.prog 73 = some [.nils, .nils, .nils] := by kernel_rfl
theorem Tryd.szArN : z3s Tryd.prog 73 = 3 := by kernel_rfl
theorem Tryd.tyArL : z28 Tryd.prog 74 = ⟨true, .array 3 28, 3, 72, []⟩ := by kernel_rfl
theorem Tryd.zArL : z52 Tryd.prog 74 = some [.nils, .nils, .nils] := by kernel_rfl
theorem Tryd.szArL : z3s Tryd.prog 74 = 3 := by kernel_rfl
theorem perm_add0 {p0 p1 p2 l : List Nd} (x : Nd) (h : (p0 ++ p1 ++ p2).Perm l) : (p0 ++ [x] ++ p1 ++ p2).Perm (l ++ [x]) := by
 rw [List.perm_iff_count] at h ⊢;intro a;have := h a;simp only [List.count_append] at this ⊢; omega
theorem perm_add1 {p0 p1 p2 l : List Nd} (x : Nd) (h : (p0 ++ p1 ++ p2).Perm l) : (p0 ++ (p1 ++ [x]) ++ p2).Perm (l ++ [x]) := by
 rw [List.perm_iff_count] at h ⊢;intro a;have := h a;simp only [List.count_append] at this ⊢; omega
theorem perm_add2 {p0 p1 p2 l : List Nd} (x : Nd) (h : (p0 ++ p1 ++ p2).Perm l) : (p0 ++ p1 ++ (p2 ++ [x])).Perm (l ++ [x]) := by
 rw [List.perm_iff_count] at h ⊢;intro a;have := h a;simp only [List.count_append] at this ⊢; omega
def LL (i k : Nat) (B : List Lk) : List Lk := if k < i then B else []
theorem LL00 (B : List Lk) : LL 0 0 B = [] := rfl
theorem LL01 (B : List Lk) : LL 0 1 B = [] := rfl
theorem LL02 (B : List Lk) : LL 0 2 B = [] := rfl
theorem LL10 (B : List Lk) : LL 1 0 B = B := rfl
theorem LL11 (B : List Lk) : LL 1 1 B = [] := rfl
theorem LL12 (B : List Lk) : LL 1 2 B = [] := rfl
theorem LL20 (B : List Lk) : LL 2 0 B = B := rfl
theorem LL21 (B : List Lk) : LL 2 1 B = B := rfl
theorem LL22 (B : List Lk) : LL 2 2 B = [] := rfl
theorem LL30 (B : List Lk) : LL 3 0 B = B := rfl
theorem LL31 (B : List Lk) : LL 3 1 B = B := rfl
theorem LL32 (B : List Lk) : LL 3 2 B = B := rfl
theorem BvEm.s {a : Prop} (h : a := by simp [SV.wkL, SV.wk, z14, z1e, Sk.get, Sk.find, Sk.one, z9.eq_1, z9.eq_2, z9.eq_3, zi, z15, zr, SV.renL, SV.ren, Obj.lt_row, SV.ltL, SV.lt, z5k, z2k, zk, z1q, Obj.own.eq_1, Obj.own.eq_2, Obj.own.eq_3, Obj.own.eq_4, zy, ze, zl, z1c, nds, Nd.sv, zz, zt, z3j, z3k, z1x, z1a, z2a, z1k, z1f, z1z, zr, z2g, z4r, z1p, z30, z34, z37, zf, ints]) : a := h
theorem BvEm.ca {P : Program} {f : FuncId} {args args0 : List SV} {H0 H : AH} {R : SV → AH → Prop} {dr : Bool} {W : List Nat} {k : SV → AH → Prop} (hF : zd P f args0 H0 R) (ρ : Nat → Nat) (hk : ∀ s0 H1, R s0 H1 → ∀ s1 H2, s1 = s0.ren (z4e H0.nxt H.nxt ρ) → H2 = after H0.nxt ρ H0 H H1 → k s1 H2) (q : CaQ args args0 ρ H0 H dr W := by constructor <;> exact BvEm.s) (r : CaR ρ H0 H := by exact ⟨rfl, rfl⟩) : z45 P f args H dr W k := caS hF ρ hk q r
theorem BvEm.t {s e : SV} {H g : AH} (q : AfQ s e H g := by constructor <;> (simp only [z22, after, z4e, id, z1v, reduceCtorEq, Nat.reduceEqDiff, Nat.one_ne_zero, Nat.zero_ne_one, z4g, z24, zk, Sk.one, Obj.own.eq_1, Obj.own.eq_2, Obj.own.eq_3, Obj.own.eq_4, Obj.ren.eq_1, Obj.ren.eq_2, Obj.ren_blk, Row.ren, SV.ren, SV.renL, List.map_cons, List.map_nil, List.nil_append, List.cons_append, ↓reduceIte, Nat.reduceLT, Nat.reduceAdd, Nat.reduceSub, Nat.reduceEqDiff, Nat.add_zero, Bool.false_eq_true, Tryd.tyInt, Tryd.szInt, Tryd.tyStr, Tryd.tyU32, Tryd.tyNode, Tryd.szNode, Tryd.zNode, Tryd.tyNodes, Tryd.szNodes, zy, ze, nds, Nd.sv, Tryd.tyErr, Tryd.tyBoolB, Tryd.tyBoolW, Tryd.tyLink, Tryd.szLink, Tryd.zLink, Tryd.tyLinks, Tryd.szLinks, Tryd.tyLinked, Tryd.szLinked, Tryd.tyLinkeds, Tryd.szLinkeds, Tryd.zLinked, z4l, Tryd.tyInts, Tryd.szInts, Tryd.zInt, zf, z1p, z30, Tryd.tyTape, Tryd.szTape, Tryd.zTape, Tryd.tyArN, Tryd.zArN, Tryd.szArN, Tryd.tyArL, Tryd.zArL, Tryd.szArL, z3p, z2l, z51, z6c, z55, z5y, z6d, z3p]; exact rfl)) : AfQ s e H g := q
theorem BvEm.af {s e e1 : SV} {H g g1 : AH} (h1 : s = e) (h2 : H = g) (q : AfQ e e1 g g1 := by exact BvEm.t) : s = e1 ∧ H = g1 := ⟨h1.trans q.s, h2.trans q.h⟩
theorem BvEm.c1 {P : Program} {f : FuncId} {args args0 : List SV} {H0 H Y g : AH} {X e : SV} {dr : Bool} {W : List Nat} {k : SV → AH → Prop} (hF : zd P f args0 H0 fun s H1 => s = X ∧ H1 = Y) (ρ : Nat → Nat) (h : k e g) (q : CaQ args args0 ρ H0 H dr W := by constructor <;> exact BvEm.s) (r : CaR ρ H0 H := by exact ⟨rfl, rfl⟩) (b : AfQ (X.ren (z4e H0.nxt H.nxt ρ)) e (after H0.nxt ρ H0 H Y) g := by exact BvEm.t) : z45 P f args H dr W k := c1S hF ρ h q r b
theorem BvEm.s_Listlength_append {a : Prop} (h : a := by simp [SV.wkL, SV.wk, z14, z1e, Sk.get, Sk.find, Sk.one, z9.eq_1, z9.eq_2, z9.eq_3, zi, z15, zr, SV.renL, SV.ren, Obj.lt_row, SV.ltL, SV.lt, z5k, z2k, zk, z1q, Obj.own.eq_1, Obj.own.eq_2, Obj.own.eq_3, Obj.own.eq_4, zy, ze, zl, z1c, nds, Nd.sv, zz, zt, z3j, z3k, z1x, z1a, z2a, z1k, z1f, z1z, zr, z2g, z4r, z1p, z30, z34, z37, zf, ints, List.length_append]) : a := h
theorem z57 {X : Cx} {fr : Fr} {H : AH} {fr1 : Fr} {H1 : AH} (ρ : Nat → Nat) (q : GvQ X ρ fr H fr1 H1 := by constructor <;> exact BvEm.s_Listlength_append) (r : GvR X ρ H1 := by exact ⟨rfl, rfl, Nat.le_of_ble_eq_true rfl, rfl⟩) : z2d X ρ fr H fr1 H1 := gvS ρ q r
theorem BvEm.s_LL00_LL01_LL02 {a : Prop} (h : a := by simp [SV.wkL, SV.wk, z14, z1e, Sk.get, Sk.find, Sk.one, z9.eq_1, z9.eq_2, z9.eq_3, zi, z15, zr, SV.renL, SV.ren, Obj.lt_row, SV.ltL, SV.lt, z5k, z2k, zk, z1q, Obj.own.eq_1, Obj.own.eq_2, Obj.own.eq_3, Obj.own.eq_4, zy, ze, zl, z1c, nds, Nd.sv, zz, zt, z3j, z3k, z1x, z1a, z2a, z1k, z1f, z1z, zr, z2g, z4r, z1p, z30, z34, z37, zf, ints, LL00, LL01, LL02]) : a := h
theorem BvEm.g_LL00_LL01_LL02 {X : Cx} {fr : Fr} {H : AH} {fr1 : Fr} {H1 : AH} (ρ : Nat → Nat) (q : GvQ X ρ fr H fr1 H1 := by constructor <;> exact BvEm.s_LL00_LL01_LL02) (r : GvR X ρ H1 := by exact ⟨rfl, rfl, Nat.le_of_ble_eq_true rfl, rfl⟩) : z2d X ρ fr H fr1 H1 := gvS ρ q r
theorem BvEm.s_LL10_LL11_LL12 {a : Prop} (h : a := by simp [SV.wkL, SV.wk, z14, z1e, Sk.get, Sk.find, Sk.one, z9.eq_1, z9.eq_2, z9.eq_3, zi, z15, zr, SV.renL, SV.ren, Obj.lt_row, SV.ltL, SV.lt, z5k, z2k, zk, z1q, Obj.own.eq_1, Obj.own.eq_2, Obj.own.eq_3, Obj.own.eq_4, zy, ze, zl, z1c, nds, Nd.sv, zz, zt, z3j, z3k, z1x, z1a, z2a, z1k, z1f, z1z, zr, z2g, z4r, z1p, z30, z34, z37, zf, ints, LL10, LL11, LL12]) : a := h
theorem BvEm.g_LL10_LL11_LL12 {X : Cx} {fr : Fr} {H : AH} {fr1 : Fr} {H1 : AH} (ρ : Nat → Nat) (q : GvQ X ρ fr H fr1 H1 := by constructor <;> exact BvEm.s_LL10_LL11_LL12) (r : GvR X ρ H1 := by exact ⟨rfl, rfl, Nat.le_of_ble_eq_true rfl, rfl⟩) : z2d X ρ fr H fr1 H1 := gvS ρ q r
theorem BvEm.s_LL20_LL21_LL22 {a : Prop} (h : a := by simp [SV.wkL, SV.wk, z14, z1e, Sk.get, Sk.find, Sk.one, z9.eq_1, z9.eq_2, z9.eq_3, zi, z15, zr, SV.renL, SV.ren, Obj.lt_row, SV.ltL, SV.lt, z5k, z2k, zk, z1q, Obj.own.eq_1, Obj.own.eq_2, Obj.own.eq_3, Obj.own.eq_4, zy, ze, zl, z1c, nds, Nd.sv, zz, zt, z3j, z3k, z1x, z1a, z2a, z1k, z1f, z1z, zr, z2g, z4r, z1p, z30, z34, z37, zf, ints, LL20, LL21, LL22]) : a := h
theorem BvEm.g_LL20_LL21_LL22 {X : Cx} {fr : Fr} {H : AH} {fr1 : Fr} {H1 : AH} (ρ : Nat → Nat) (q : GvQ X ρ fr H fr1 H1 := by constructor <;> exact BvEm.s_LL20_LL21_LL22) (r : GvR X ρ H1 := by exact ⟨rfl, rfl, Nat.le_of_ble_eq_true rfl, rfl⟩) : z2d X ρ fr H fr1 H1 := gvS ρ q r
theorem BvEm.s_LL30_LL31_LL32 {a : Prop} (h : a := by simp [SV.wkL, SV.wk, z14, z1e, Sk.get, Sk.find, Sk.one, z9.eq_1, z9.eq_2, z9.eq_3, zi, z15, zr, SV.renL, SV.ren, Obj.lt_row, SV.ltL, SV.lt, z5k, z2k, zk, z1q, Obj.own.eq_1, Obj.own.eq_2, Obj.own.eq_3, Obj.own.eq_4, zy, ze, zl, z1c, nds, Nd.sv, zz, zt, z3j, z3k, z1x, z1a, z2a, z1k, z1f, z1z, zr, z2g, z4r, z1p, z30, z34, z37, zf, ints, LL30, LL31, LL32]) : a := h
theorem BvEm.g_LL30_LL31_LL32 {X : Cx} {fr : Fr} {H : AH} {fr1 : Fr} {H1 : AH} (ρ : Nat → Nat) (q : GvQ X ρ fr H fr1 H1 := by constructor <;> exact BvEm.s_LL30_LL31_LL32) (r : GvR X ρ H1 := by exact ⟨rfl, rfl, Nat.le_of_ble_eq_true rfl, rfl⟩) : z2d X ρ fr H fr1 H1 := gvS ρ q r
theorem BvEm.g {X : Cx} {fr : Fr} {H : AH} {fr1 : Fr} {H1 : AH} (ρ : Nat → Nat) (q : GvQ X ρ fr H fr1 H1 := by constructor <;> exact BvEm.s) (r : GvR X ρ H1 := by exact ⟨rfl, rfl, Nat.le_of_ble_eq_true rfl, rfl⟩) : z2d X ρ fr H fr1 H1 := gvS ρ q r
theorem zx {a c d : Prop} (r : a → c) (h : d) (e : Sd a d := by simp only [stp, isQ, z40, Sk.get, Sk.put, z1s, zm, ↓reduceIte, reduceCtorEq, Nat.reduceEqDiff, true_and, and_true, true_implies, implies_true, forall_const, imp_self, Bool.false_eq_true, false_implies, false_and, and_false, Bool.false_and, Bool.and_false, qop, grdK, List.getElem?_toArray, List.getElem?_cons_zero, List.getElem?_cons_succ, beq_true, beq_false, beq_self_eq_true, Bool.and_true, Bool.true_and, Bool.not_true, Bool.not_false, Bool.not_not, Bool.and_eq_true, Bool.not_eq_true', Bool.not_eq_false', zu, Bool.cond_true_left, Bool.cond_false_left, Bool.cond_true_right, Bool.cond_false_right, cond_true, cond_false, and_imp, z3q, Sk.find, Sk.one, z1j, z1l, Kd.agg, List.contains_nil, List.contains_cons, Nat.reduceBEq, Bool.or_false, Bool.true_or, Bool.or_true, Bool.false_or, ite_self, Nat.lt_one_iff, Nat.zero_add, Nat.add_zero, Nat.reduceAdd, Nat.reduceMul, Nat.reduceSub, Nat.reduceLT, Nat.reduceLeDiff, Nat.le_refl, Nat.zero_le, ne_eq, Nat.one_ne_zero, not_false_eq_true, not_true_eq_false, Int.toNat_natCast, Int.reduceToNat, List.length_cons, List.length_nil, and_self, Kd.slice.injEq, exists_eq', Option.map_some, Option.some.injEq, List.drop_zero, List.drop_succ_cons, List.take_succ_cons, List.take_zero, List.take_nil, List.drop_nil, List.nil_append, List.cons_append, List.append_nil, List.append_eq, List.all_cons, List.all_nil, spl, z1y, SV.cells, SV.scalar, binK, z4u, z4t, intK, z2i, strK, z2r, z4s, z3d, unK, z4q, z2v, z2w, z4o, z2x, z2y, optK, z31, bndK, Option.isSome_some, Option.isSome_none, Nat.sub_zero, or_true, true_or, z2q, z2t, z4f, z35, lenK, z11.len, zg.n, z4a, mmK, z1o, eop, z4y, srcK, z13, z6x, z36, capK, z4z, z1i, z1v, z2n, boxK, z1m, z38, z2o, updF, mkK, z4m, z11.ofKd, zg.ofKd, z4n, z11.add, z11.okKd, zg.put, zg.okKd, zg.okP, z2z, z11.has, zg.get, zg.z, Tryd.tyInt, Tryd.szInt, Tryd.tyStr, Tryd.tyU32, Tryd.tyNode, Tryd.szNode, Tryd.zNode, Tryd.tyNodes, Tryd.szNodes, zy, ze, nds, Nd.sv, Tryd.tyErr, Tryd.tyBoolB, Tryd.tyBoolW, Tryd.tyLink, Tryd.szLink, Tryd.zLink, Tryd.tyLinks, Tryd.szLinks, Tryd.tyLinked, Tryd.szLinked, Tryd.tyLinkeds, Tryd.szLinkeds, Tryd.zLinked, lkR_ap, lkF_ap, z4l, Tryd.tyInts, Tryd.szInts, Tryd.zInt, zf, z1p, z30, Tryd.tyTape, Tryd.szTape, Tryd.zTape, ints, Tryd.tyArN, Tryd.zArN, Tryd.szArN, Tryd.tyArL, Tryd.zArL, Tryd.szArL]; (repeat (with_reducible apply Sd.and; exact za)); exact Sd.rfl) : c := r (e.f h)
set_option maxHeartbeats 4000000 in
theorem associates_spec (ls : List Int) (hx : ls.length ≤ 9223372036854775807) :
  zd Tryd.prog 10 [.slc false 0 0 0 ls.length] ⟨1, [(0, z1p ls)]⟩ (fun s _ => s = .bool true) := by
 refine zd.ofC false 155 [.tmp 2] Tryd.func10 rfl rfl Tryd.ntmps10 Tryd.results10 rfl ?_;intro w0 own0 β0 Q hQ hQn;simp only [z1r];refine sg [0] rfl ?_;intro K hK;refine zx z5 ?_;refine z7 (z6 (hK _ _ ?_)); clear hK K;refine sg [3] rfl ?_;intro K hK;refine zx z5 ?_;refine zx z5 ?_;refine BvEm.ca (new_spec ls hx) (id) ?_;rintro s0 H0 ⟨m, hm, rfl, rfl⟩ s1 H1 hs1 hH1;obtain ⟨hs2, hH2⟩ := BvEm.af hs1 hH1;clear hs1 hH1;subst hs2 hH2;repeat (with_reducible apply ai;exact za)
 refine zx z5 ?_;refine z7 (z6 (hK _ _ ?_)); clear hK K;refine sg [3, 4, 5] rfl ?_;intro K hK;refine zx z5 ?_;refine zx z5 ?_;refine BvEm.ca (roster_spec ls m 0 9 hx hm (Nat.zero_le _) (by omega)) (fun k => if k = 0 then 1 else 0) ?_;rintro s0 H0 ⟨xs, at2, ha2, hxl, hxc, rfl, rfl⟩ s1 H1 hs1 hH1;obtain ⟨hs2, hH2⟩ := BvEm.af hs1 hH1;clear hs1 hH1;subst hs2 hH2;repeat (with_reducible apply ai;exact za)
 refine zx z5 ?_;refine zx z5 ?_;refine BvEm.ca (z21 ls m at2 4 hx hm ha2 (by omega)) (fun k => if k = 0 then 1 else 0) ?_;rintro s0 H0 ⟨hI, at3, ha3, h2, h3, h4, rfl, rfl⟩ s1 H1 hs1 hH1;obtain ⟨hs2, hH2⟩ := BvEm.af hs1 hH1;clear hs1 hH1;subst hs2 hH2;repeat (with_reducible apply ai;exact za)
 have h5 := h3 (by omega);obtain ⟨h, rfl⟩ := Int.eq_ofNat_of_zero_le h2;have hh : h ≤ 16 := by omega
 have hn : xs.length ≤ 9 := by omega
 iterate 2 (refine zx z5 ?_)
 refine z7 (z6 (hK _ _ ?_)); clear hK K;refine sg [3, 4, 5, 6] rfl ?_;intro K hK;refine zx z5 ?_;refine z7 (z6 (hK _ _ ?_)); clear hK K;refine sg [3, 4, 5, 6, 7] rfl ?_;intro K hK;refine zx z5 ?_;refine z7 (z6 (hK _ _ ?_)); clear hK K;refine Cs.seq ?_;refine Cs.seq ?_;refine Cs.nilR 3 0 55 3 (nds []) rfl rfl rfl rfl rfl rfl rfl rfl (by dsimp only; omega) (by simp [SV.ltL, SV.lt]) ?_;dsimp only;refine Cs.nilR 3 1 55 3 (nds []) rfl rfl rfl rfl rfl rfl rfl rfl (by dsimp only; omega) (by simp [SV.ltL, SV.lt]) ?_;dsimp only;refine Cs.nilR 3 2 55 3 (nds []) rfl rfl rfl rfl rfl rfl rfl rfl (by dsimp only; omega) (by simp [SV.ltL, SV.lt]) ?_;simp only [z6x, ↓reduceIte, Nat.reduceEqDiff, Nat.reduceAdd, List.set_cons_zero, List.set_cons_succ, reduceCtorEq, Sk.one];refine Cs.reg [3, 4, 5, 6, 7, 8] rfl ?_;intro K hK;refine zx z5 ?_;refine z7 (z6 (hK _ _ ?_)); clear hK K;refine Cs.block ?_;intro Q0 hN0 hX0 hR0 hE0;refine Cs.loop (σ := List Nd × List Nd × List Nd × Nat × Nat) (fun σ => (σ.1 ++ σ.2.1 ++ σ.2.2.1).Perm (xs.take σ.2.2.2.2) ∧ σ.2.2.2.1 ≤ m ∧ σ.2.2.2.2 ≤ xs.length) (fun σ => xs.length - σ.2.2.2.2) (fun σ => [(3, .ptr 1 0 0 0), (4, .slc true 2 0 0 xs.length), (5, .int .i64 h), (6, .ptr 3 0 0 0), (7, .ptr 4 0 0 0), (8, .int .i64 σ.2.2.2.2)]) (fun σ => ⟨8, [(5, ze σ.1), (6, ze σ.2.1), (7, ze σ.2.2.1), (3, Sk.one (.row ⟨true, true, 73, 3, 1, fun _ => [.slc true 5 0 0 σ.1.length, .slc true 6 0 0 σ.2.1.length, .slc true 7 0 0 σ.2.2.1.length]⟩)), (4, Sk.one (.row ⟨true, true, 74, 3, 1, fun _ => [.nils, .nils, .nils]⟩)), (2, ze xs), (1, zf 0 m σ.2.2.2.1), (0, z1p ls)]⟩) ([], [], [], at3, 0) ⟨by simp, ha3, Nat.zero_le _⟩ (ρ := id) (BvEm.g id) ?_
 rintro ⟨p0, p1, p2, at4, i⟩ ⟨hp, ha4, hi⟩ QL1 hL1 hRL1 hEL1;refine Cs.seq ?_;refine sg [3, 4, 5, 6, 7, 8, 32] rfl ?_;intro K hK;iterate 4 (refine zx z5 ?_)
 refine z7 (z6 (hK _ _ ?_)); clear hK K;refine Cs.cond _ rfl ?_ ?_
 ·intro h32;replace h32 := z8 h32;dsimp only at hp ha4 hi;have hii : i < xs.length := by omega
  have hT : xs.take (i + 1) = xs.take i ++ [⟨(nd xs i).id, (nd xs i).key, (nd xs i).word⟩] := by
   rw [List.take_succ_eq_append_getElem hii, ← z46 hii]
  have hlen := hp.length_eq;rw [List.length_append, List.length_append, List.length_take] at hlen;refine Cs.skip ?_;refine Cs.seq ?_;refine Cs.block ?_;intro Q1 hN1 hX1 hR1 hE1;refine sg [3, 4, 5, 6, 7, 8, 9] rfl ?_;intro K hK;refine zx z5 ?_;refine zx z5 ?_;refine BvEm.ca (z21 ls m at4 3 hx hm ha4 (by omega)) (fun k => if k = 0 then 1 else 0) ?_;rintro s0 H0 ⟨v, at5, ha5, q2, q3, q4, rfl, rfl⟩ s1 H1 hs1 hH1;obtain ⟨hs2, hH2⟩ := BvEm.af hs1 hH1;clear hs1 hH1;subst hs2 hH2;repeat (with_reducible apply ai;exact za)
  have q5 := q3 (by omega);obtain rfl | rfl | rfl : v = 0 ∨ v = 1 ∨ v = 2 := by omega
  ·skip
   refine zx z5 ?_;refine z7 (z6 (hK _ _ ?_)); clear hK K;refine Cs.regDraw [3, 4, 5, 6, 7, 8] [0, 1, 2, 3, 4, 5, 6, 7, 8, 9, 10, 11] [[], [], [1], [1, 2], [], [], [4, 5], [4, 5, 6], [4, 5, 6, 7], [1, 2, 3, 4, 5, 6, 7, 8], [0, 1, 2, 3, 4, 5, 6, 7, 8, 9], [0, 1, 2, 3, 4, 5, 6, 7, 8, 9, 10]] [[], [], [], [], [], [], [], [], [], [5], [], [3]] [[5], [], [], [], [], [], [], [], [], [5], [5], [3, 5]] Tryd.mo rfl rfl rfl (by kernel_rfl) (by kernel_rfl) (by kernel_rfl) rfl (by kernel_rfl) ?_;intro K hK;refine zx (zb _ [] [5] rfl rfl rfl) ?_;iterate 8 (refine zx (zb _ [] [] rfl rfl rfl) ?_)
   refine zx (zb _ [5] [5] rfl rfl rfl) ?_;refine zx (zb _ [] [5] rfl rfl rfl) ?_;refine zx (zb _ [3] [3, 5] rfl rfl rfl) ?_;refine z2b (z6 (hK _ _ ?_)); clear hK K;refine Cs.nil ?_;refine hN1 _ _ ?_;refine Cs.reg [3, 4, 5, 6, 7, 8] rfl ?_;intro K hK;iterate 3 (refine zx z5 ?_)
   refine z7 (z6 (hK _ _ ?_)); clear hK K;refine Cs.nil ?_;refine hL1 _ _ ?_;rw [z33, z3h, show (i : Int) + 1 = ((i + 1 : Nat) : Int) from by omega];exact ⟨(p0 ++ [⟨(nd xs i).id, (nd xs i).key, (nd xs i).word⟩], p1, p2, at5, i + 1), ⟨⟨by rw [hT]; exact perm_add0 _ hp, ha5, by dsimp only; omega⟩, by dsimp only; omega⟩, fun k => if k = 5 then 9 else k, (z57 (fun k => if k = 5 then 9 else k))⟩
  ·skip
   refine zx z5 ?_;refine z7 (z6 (hK _ _ ?_)); clear hK K;refine Cs.regDraw [3, 4, 5, 6, 7, 8] [0, 1, 2, 3, 4, 5, 6, 7, 8, 9, 10, 11] [[], [], [1], [1, 2], [], [], [4, 5], [4, 5, 6], [4, 5, 6, 7], [1, 2, 3, 4, 5, 6, 7, 8], [0, 1, 2, 3, 4, 5, 6, 7, 8, 9], [0, 1, 2, 3, 4, 5, 6, 7, 8, 9, 10]] [[], [], [], [], [], [], [], [], [], [6], [], [3]] [[6], [], [], [], [], [], [], [], [], [6], [6], [3, 6]] Tryd.mo rfl rfl rfl (by kernel_rfl) (by kernel_rfl) (by kernel_rfl) rfl (by kernel_rfl) ?_;intro K hK;refine zx (zb _ [] [6] rfl rfl rfl) ?_;iterate 8 (refine zx (zb _ [] [] rfl rfl rfl) ?_)
   refine zx (zb _ [6] [6] rfl rfl rfl) ?_;refine zx (zb _ [] [6] rfl rfl rfl) ?_;refine zx (zb _ [3] [3, 6] rfl rfl rfl) ?_;refine z2b (z6 (hK _ _ ?_)); clear hK K;refine Cs.nil ?_;refine hN1 _ _ ?_;refine Cs.reg [3, 4, 5, 6, 7, 8] rfl ?_;intro K hK;iterate 3 (refine zx z5 ?_)
   refine z7 (z6 (hK _ _ ?_)); clear hK K;refine Cs.nil ?_;refine hL1 _ _ ?_;rw [z33, z3h, show (i : Int) + 1 = ((i + 1 : Nat) : Int) from by omega];exact ⟨(p0, p1 ++ [⟨(nd xs i).id, (nd xs i).key, (nd xs i).word⟩], p2, at5, i + 1), ⟨⟨by rw [hT]; exact perm_add1 _ hp, ha5, by dsimp only; omega⟩, by dsimp only; omega⟩, fun k => if k = 6 then 9 else k, (z57 (fun k => if k = 6 then 9 else k))⟩
  ·skip
   refine zx z5 ?_;refine z7 (z6 (hK _ _ ?_)); clear hK K;refine Cs.regDraw [3, 4, 5, 6, 7, 8] [0, 1, 2, 3, 4, 5, 6, 7, 8, 9, 10, 11] [[], [], [1], [1, 2], [], [], [4, 5], [4, 5, 6], [4, 5, 6, 7], [1, 2, 3, 4, 5, 6, 7, 8], [0, 1, 2, 3, 4, 5, 6, 7, 8, 9], [0, 1, 2, 3, 4, 5, 6, 7, 8, 9, 10]] [[], [], [], [], [], [], [], [], [], [7], [], [3]] [[7], [], [], [], [], [], [], [], [], [7], [7], [3, 7]] Tryd.mo rfl rfl rfl (by kernel_rfl) (by kernel_rfl) (by kernel_rfl) rfl (by kernel_rfl) ?_;intro K hK;refine zx (zb _ [] [7] rfl rfl rfl) ?_;iterate 8 (refine zx (zb _ [] [] rfl rfl rfl) ?_)
   refine zx (zb _ [7] [7] rfl rfl rfl) ?_;refine zx (zb _ [] [7] rfl rfl rfl) ?_;refine zx (zb _ [3] [3, 7] rfl rfl rfl) ?_;refine z2b (z6 (hK _ _ ?_)); clear hK K;refine Cs.nil ?_;refine hN1 _ _ ?_;refine Cs.reg [3, 4, 5, 6, 7, 8] rfl ?_;intro K hK;iterate 3 (refine zx z5 ?_)
   refine z7 (z6 (hK _ _ ?_)); clear hK K;refine Cs.nil ?_;refine hL1 _ _ ?_;rw [z33, z3h, show (i : Int) + 1 = ((i + 1 : Nat) : Int) from by omega];exact ⟨(p0, p1, p2 ++ [⟨(nd xs i).id, (nd xs i).key, (nd xs i).word⟩], at5, i + 1), ⟨⟨by rw [hT]; exact perm_add2 _ hp, ha5, by dsimp only; omega⟩, by dsimp only; omega⟩, fun k => if k = 7 then 9 else k, (z57 (fun k => if k = 7 then 9 else k))⟩
 ·intro h32;replace h32 := z8 h32;dsimp only at hp ha4 hi;refine Cs.exit ?_;refine hEL1 _ _ _ ?_;refine hX0 _ _ ?_;refine Cs.seq ?_;refine Cs.seq ?_;have him : i = xs.length := by omega
  rw [him, List.take_length] at hp;have hlen := hp.length_eq;rw [List.length_append, List.length_append] at hlen;have hc : zj (p0 ++ p1 ++ p2) = 0 := z3o hp.symm hxc;have hc01 : zj (p0 ++ p1) = 0 := z5h (List.sublist_append_left _ _) hc;have hc12 : zj (p1 ++ p2) = 0 := z5h (by rw [List.append_assoc]; exact List.sublist_append_right _ _) hc;have hc0 : zj p0 = 0 := z5h (List.sublist_append_left _ _) hc01;have hc1 : zj p1 = 0 := z5h (List.sublist_append_right _ _) hc01;have hc2 : zj p2 = 0 := z5h (List.sublist_append_right _ _) hc12;have hc' : zj (p0 ++ (p1 ++ p2)) = 0 := by rw [← List.append_assoc]; exact hc
  obtain ⟨m1, m2⟩ := mrg_two hc0 hc1 hc01 hh;obtain ⟨m3, m4⟩ := mrg_two hc1 hc2 hc12 hh;obtain ⟨m5, m6⟩ := mrg_two hc01 hc2 hc hh;obtain ⟨m7, m8⟩ := mrg_two hc0 hc12 hc' hh;rw [← List.append_assoc, srtN_congr hxc hp.symm] at m8;rw [srtN_congr hxc hp.symm] at m6;have hbe : ∀ p : List Nd, zj p = 0 → bldE p h = 0 := fun p hp => by rw [bldE, if_neg (by simp [hp]), if_neg (by omega)]
  have hbr : ∀ p : List Nd, zj p = 0 → z5d p h = z2c (z17 p) h := fun p hp => by rw [z5d, if_pos (hbe p hp)]; rfl
  refine Cs.nilR 4 0 42 2 (lkR true 9 []) rfl rfl rfl rfl rfl rfl rfl rfl (by dsimp only; omega) (by simp [SV.ltL, SV.lt]) ?_;dsimp only;refine Cs.fam0 45 2 (lkF true []) ?_;dsimp only;refine Cs.nilR 4 1 42 2 (lkR true 11 []) rfl rfl rfl rfl rfl rfl rfl rfl (by dsimp only; omega) (by simp [SV.ltL, SV.lt]) ?_;dsimp only;refine Cs.fam0 45 2 (lkF true []) ?_;dsimp only;refine Cs.nilR 4 2 42 2 (lkR true 13 []) rfl rfl rfl rfl rfl rfl rfl rfl (by dsimp only; omega) (by simp [SV.ltL, SV.lt]) ?_;dsimp only;refine Cs.fam0 45 2 (lkF true []) ?_;simp only [z6x, ↓reduceIte, Nat.reduceEqDiff, Nat.reduceAdd, List.set_cons_zero, List.set_cons_succ, reduceCtorEq, Sk.one];obtain ⟨B0, hB0⟩ : ∃ B, B = z2c (z17 p0) h := ⟨_, rfl⟩;obtain ⟨B1, hB1⟩ : ∃ B, B = z2c (z17 p1) h := ⟨_, rfl⟩;obtain ⟨B2, hB2⟩ : ∃ B, B = z2c (z17 p2) h := ⟨_, rfl⟩;have l0 : B0.length = p0.length := by rw [hB0]; exact z4v _ _
  have l1 : B1.length = p1.length := by rw [hB1]; exact z4v _ _
  have l2 : B2.length = p2.length := by rw [hB2]; exact z4v _ _
  have v0 : lvOk B0 := by rw [hB0]; exact blk_lv _ hh
  have v1 : lvOk B1 := by rw [hB1]; exact blk_lv _ hh
  have v2 : lvOk B2 := by rw [hB2]; exact blk_lv _ hh
  refine Cs.reg [4, 5, 6, 7, 10] rfl ?_;intro K hK;refine zx z5 ?_;refine z7 (z6 (hK _ _ ?_)); clear hK K;refine Cs.block ?_;intro Q2 hN2 hX2 hR2 hE2;refine Cs.loop (σ := Nat) (fun i => i ≤ 3) (fun i => 3 - i) (fun i => [(4, .slc true 2 0 0 xs.length), (5, .int .i64 h), (6, .ptr 3 0 0 0), (7, .ptr 4 0 0 0), (10, .int .i64 i)]) (fun i => ⟨14, [(8, Sk.one (.row ⟨true, false, 42, 2, (LL i 0 B0).length, lkR true 9 (LL i 0 B0)⟩)), (9, ((LL i 0 B0).length + 1, fam true 45 2 (lkF true (LL i 0 B0)))), (10, Sk.one (.row ⟨true, false, 42, 2, (LL i 1 B1).length, lkR true 11 (LL i 1 B1)⟩)), (11, ((LL i 1 B1).length + 1, fam true 45 2 (lkF true (LL i 1 B1)))), (12, Sk.one (.row ⟨true, false, 42, 2, (LL i 2 B2).length, lkR true 13 (LL i 2 B2)⟩)), (13, ((LL i 2 B2).length + 1, fam true 45 2 (lkF true (LL i 2 B2)))), (5, ze p0), (6, ze p1), (7, ze p2), (3, Sk.one (.row ⟨true, true, 73, 3, 1, fun _ => [.slc true 5 0 0 p0.length, .slc true 6 0 0 p1.length, .slc true 7 0 0 p2.length]⟩)), (4, Sk.one (.row ⟨true, true, 74, 3, 1, fun _ => [.slc true 8 0 0 (LL i 0 B0).length, .slc true 10 0 0 (LL i 1 B1).length, .slc true 12 0 0 (LL i 2 B2).length]⟩)), (2, ze xs), (0, z1p ls)]⟩) 0 (Nat.zero_le _) (ρ := id) (BvEm.g_LL00_LL01_LL02 (id)) ?_;rintro j hj QL2 hL2 hRL2 hEL2;refine Cs.seq ?_;refine sg [4, 5, 6, 7, 10, 49] rfl ?_;intro K hK;iterate 2 (refine zx z5 ?_)
  refine z7 (z6 (hK _ _ ?_)); clear hK K;refine Cs.cond _ rfl ?_ ?_
  ·intro h49;replace h49 := z8 h49;obtain rfl | rfl | rfl : j = 0 ∨ j = 1 ∨ j = 2 := by omega
   ·skip
    refine Cs.skip ?_;refine Cs.seq ?_;refine Cs.block ?_;intro Q3 hN3 hX3 hR3 hE3;refine Cs.seq ?_;simp only [LL00, LL01, LL02, List.length_nil];refine Cs.reg [4, 5, 6, 7, 10, 11, 12] rfl ?_;intro K hK;iterate 4 (refine zx z5 ?_)
    refine zx z5 ?_;refine BvEm.c1 (build_spec p0 p0.length rfl h (by omega)) (fun _ => 5) ?_;rw [hbe _ hc0, hbr _ hc0, ← hB0];iterate 5 (refine zx z5 ?_)
    refine z7 (z6 (hK _ _ ?_)); clear hK K;refine Cs.seq ?_;refine sg [4, 5, 6, 7, 10, 11, 61] rfl ?_;intro K hK;iterate 2 (refine zx z5 ?_)
    refine z7 (z6 (hK _ _ ?_)); clear hK K;refine Cs.cond _ rfl ?_ ?_
    ·intro h61
     exfalso; simp at h61
    ·intro h61
     
     refine Cs.skip ?_;refine Cs.reg [4, 5, 6, 7, 10] rfl ?_;intro K hK;iterate 4 (refine zx z5 ?_)
     refine z7 (z6 (hK _ _ ?_)); clear hK K;refine Cs.nil ?_;refine hN3 _ _ ?_;refine Cs.reg [4, 5, 6, 7, 10] rfl ?_;intro K hK;iterate 3 (refine zx z5 ?_)
     refine z7 (z6 (hK _ _ ?_)); clear hK K;refine Cs.nil ?_;refine hL2 _ _ ?_;exact ⟨1, ⟨by omega, by omega⟩, fun k => if k = 8 then 14 else if k = 9 then 15 else k, (BvEm.g_LL10_LL11_LL12 (fun k => if k = 8 then 14 else if k = 9 then 15 else k))⟩
   ·skip
    refine Cs.skip ?_;refine Cs.seq ?_;refine Cs.block ?_;intro Q3 hN3 hX3 hR3 hE3;refine Cs.seq ?_;simp only [LL10, LL11, LL12, List.length_nil];refine Cs.reg [4, 5, 6, 7, 10, 11, 12] rfl ?_;intro K hK;iterate 4 (refine zx z5 ?_)
    refine zx z5 ?_;refine BvEm.c1 (build_spec p1 p1.length rfl h (by omega)) (fun _ => 6) ?_;rw [hbe _ hc1, hbr _ hc1, ← hB1];iterate 5 (refine zx z5 ?_)
    refine z7 (z6 (hK _ _ ?_)); clear hK K;refine Cs.seq ?_;refine sg [4, 5, 6, 7, 10, 11, 61] rfl ?_;intro K hK;iterate 2 (refine zx z5 ?_)
    refine z7 (z6 (hK _ _ ?_)); clear hK K;refine Cs.cond _ rfl ?_ ?_
    ·intro h61
     exfalso; simp at h61
    ·intro h61
     
     refine Cs.skip ?_;refine Cs.reg [4, 5, 6, 7, 10] rfl ?_;intro K hK;iterate 4 (refine zx z5 ?_)
     refine z7 (z6 (hK _ _ ?_)); clear hK K;refine Cs.nil ?_;refine hN3 _ _ ?_;refine Cs.reg [4, 5, 6, 7, 10] rfl ?_;intro K hK;iterate 3 (refine zx z5 ?_)
     refine z7 (z6 (hK _ _ ?_)); clear hK K;refine Cs.nil ?_;refine hL2 _ _ ?_;exact ⟨2, ⟨by omega, by omega⟩, fun k => if k = 10 then 14 else if k = 11 then 15 else k, (BvEm.g_LL20_LL21_LL22 (fun k => if k = 10 then 14 else if k = 11 then 15 else k))⟩
   ·skip
    refine Cs.skip ?_;refine Cs.seq ?_;refine Cs.block ?_;intro Q3 hN3 hX3 hR3 hE3;refine Cs.seq ?_;simp only [LL20, LL21, LL22, List.length_nil];refine Cs.reg [4, 5, 6, 7, 10, 11, 12] rfl ?_;intro K hK;iterate 4 (refine zx z5 ?_)
    refine zx z5 ?_;refine BvEm.c1 (build_spec p2 p2.length rfl h (by omega)) (fun _ => 7) ?_;rw [hbe _ hc2, hbr _ hc2, ← hB2];iterate 5 (refine zx z5 ?_)
    refine z7 (z6 (hK _ _ ?_)); clear hK K;refine Cs.seq ?_;refine sg [4, 5, 6, 7, 10, 11, 61] rfl ?_;intro K hK;iterate 2 (refine zx z5 ?_)
    refine z7 (z6 (hK _ _ ?_)); clear hK K;refine Cs.cond _ rfl ?_ ?_
    ·intro h61
     exfalso; simp at h61
    ·intro h61
     
     refine Cs.skip ?_;refine Cs.reg [4, 5, 6, 7, 10] rfl ?_;intro K hK;iterate 4 (refine zx z5 ?_)
     refine z7 (z6 (hK _ _ ?_)); clear hK K;refine Cs.nil ?_;refine hN3 _ _ ?_;refine Cs.reg [4, 5, 6, 7, 10] rfl ?_;intro K hK;iterate 3 (refine zx z5 ?_)
     refine z7 (z6 (hK _ _ ?_)); clear hK K;refine Cs.nil ?_;refine hL2 _ _ ?_;exact ⟨3, ⟨by omega, by omega⟩, fun k => if k = 12 then 14 else if k = 13 then 15 else k, (BvEm.g_LL30_LL31_LL32 (fun k => if k = 12 then 14 else if k = 13 then 15 else k))⟩
  ·intro h49;replace h49 := z8 h49;have hj3 : j = 3 := by omega
   subst hj3;simp only [LL30, LL31, LL32, l0, l1, l2];refine Cs.exit ?_;refine hEL2 _ _ _ ?_;refine hX2 _ _ ?_;refine Cs.seq ?_;refine Cs.regF [4, 5, 6, 7, 13] (.op 1 (.op 2 (.op 4 (.op 5 (.op 0 (.op 3 (.op 6 (.op 7 .done)))))))) [[], [], [1], [0, 1, 2], [], [4], [0, 1, 2, 3, 4, 5], [0, 1, 2, 3, 4, 5, 6]] [[], [], [], [], [], [], [], []] [[], [], [], [], [], [], [], []] Tryd.mo rfl rfl (by kernel_rfl) (by kernel_rfl) (by kernel_rfl) rfl (by kernel_rfl) ?_;intro K hK hG
   have hk17 : K [(4, .slc true 2 0 0 xs.length), (5, .int .i64 h), (6, .ptr 3 0 0 0), (7, .ptr 4 0 0 0), (13, .slc true 14 0 0 (p0.length + p1.length))] ⟨15, [(14, Sk.one (.row ⟨true, false, 55, 3, p0.length + p1.length, nds (p0 ++ p1)⟩)), (8, Sk.one (.row ⟨true, false, 42, 2, p0.length, lkR true 9 B0⟩)), (9, (p0.length + 1, fam true 45 2 (lkF true B0))), (10, Sk.one (.row ⟨true, false, 42, 2, p1.length, lkR true 11 B1⟩)), (11, (p1.length + 1, fam true 45 2 (lkF true B1))), (12, Sk.one (.row ⟨true, false, 42, 2, p2.length, lkR true 13 B2⟩)), (13, (p2.length + 1, fam true 45 2 (lkF true B2))), (5, ze p0), (6, ze p1), (7, ze p2), (3, Sk.one (.row ⟨true, true, 73, 3, 1, fun _ => [.slc true 5 0 0 p0.length, .slc true 6 0 0 p1.length, .slc true 7 0 0 p2.length]⟩)), (4, Sk.one (.row ⟨true, true, 74, 3, 1, fun _ => [.slc true 8 0 0 p0.length, .slc true 10 0 0 p1.length, .slc true 12 0 0 p2.length]⟩)), (2, ze xs), (0, z1p ls)]⟩ := by
    refine hK _ _ ?_;clear hG hK K;refine Cs.seq ?_;refine Cs.regF [4, 5, 6, 7, 13, 14] (.op 1 (.op 2 (.op 4 (.op 5 (.op 0 (.op 3 (.op 6 (.op 7 .done)))))))) [[], [], [1], [0, 1, 2], [], [4], [0, 1, 2, 3, 4, 5], [0, 1, 2, 3, 4, 5, 6]] [[], [], [], [], [], [], [], []] [[], [], [], [], [], [], [], []] Tryd.mo rfl rfl (by kernel_rfl) (by kernel_rfl) (by kernel_rfl) rfl (by kernel_rfl) ?_;intro K hK hG
    have hk18 : K [(4, .slc true 2 0 0 xs.length), (5, .int .i64 h), (6, .ptr 3 0 0 0), (7, .ptr 4 0 0 0), (13, .slc true 14 0 0 (p0.length + p1.length)), (14, .slc true 15 0 0 (p1.length + p2.length))] ⟨16, [(15, Sk.one (.row ⟨true, false, 55, 3, p1.length + p2.length, nds (p1 ++ p2)⟩)), (14, Sk.one (.row ⟨true, false, 55, 3, p0.length + p1.length, nds (p0 ++ p1)⟩)), (8, Sk.one (.row ⟨true, false, 42, 2, p0.length, lkR true 9 B0⟩)), (9, (p0.length + 1, fam true 45 2 (lkF true B0))), (10, Sk.one (.row ⟨true, false, 42, 2, p1.length, lkR true 11 B1⟩)), (11, (p1.length + 1, fam true 45 2 (lkF true B1))), (12, Sk.one (.row ⟨true, false, 42, 2, p2.length, lkR true 13 B2⟩)), (13, (p2.length + 1, fam true 45 2 (lkF true B2))), (5, ze p0), (6, ze p1), (7, ze p2), (3, Sk.one (.row ⟨true, true, 73, 3, 1, fun _ => [.slc true 5 0 0 p0.length, .slc true 6 0 0 p1.length, .slc true 7 0 0 p2.length]⟩)), (4, Sk.one (.row ⟨true, true, 74, 3, 1, fun _ => [.slc true 8 0 0 p0.length, .slc true 10 0 0 p1.length, .slc true 12 0 0 p2.length]⟩)), (2, ze xs), (0, z1p ls)]⟩ := by
     refine hK _ _ ?_;clear hG hK K;refine Cs.seq ?_;rw [← hB0, ← hB1] at m1 m2;rw [← hB1, ← hB2] at m3 m4;rw [← hB2] at m5 m6;rw [← hB0] at m7 m8;have k01 : (p0 ++ p1).length = p0.length + p1.length := List.length_append;have k12 : (p1 ++ p2).length = p1.length + p2.length := List.length_append;obtain ⟨C01, hC01⟩ : ∃ C, C = z2c (z17 (p0 ++ p1)) h := ⟨_, rfl⟩;obtain ⟨C12, hC12⟩ : ∃ C, C = z2c (z17 (p1 ++ p2)) h := ⟨_, rfl⟩;obtain ⟨CC, hCC⟩ : ∃ C, C = z2c (z17 xs) h := ⟨_, rfl⟩;have k2 : C01.length = p0.length + p1.length := by rw [hC01, z4v]; exact k01
     have k3 : C12.length = p1.length + p2.length := by rw [hC12, z4v]; exact k12
     have k4 : CC.length = xs.length := by rw [hCC, z4v]
     have w2 : lvOk C01 := by rw [hC01]; exact blk_lv _ hh
     have w3 : lvOk C12 := by rw [hC12]; exact blk_lv _ hh
     have w4 : lvOk CC := by rw [hCC]; exact blk_lv _ hh
     rw [← hC01] at m2 m5 m6;rw [← hC12] at m4 m7 m8;rw [← hCC] at m6 m8;have hex := exact_self hxc hh;rw [← hCC] at hex;refine Cs.reg [4, 5, 6, 7, 13, 14, 15, 16] rfl ?_;intro K hK;iterate 9 (refine zx z5 ?_)
     refine zx z5 ?_;refine BvEm.c1 (z6s p0 B0 p1 B1 p0.length p0.length p1.length p1.length h rfl l0 rfl l1 (by omega) (by omega) (by omega) (by omega) v0 v1) (fun k => if k = 0 then 5 else if k = 1 then 8 else if k = 2 then 9 else if k = 3 then 6 else if k = 4 then 10 else 11) ?_;rw [m1, m2, k2];iterate 5 (refine zx z5 ?_)
     refine z7 (z6 (hK _ _ ?_)); clear hK K;refine sg [4, 5, 6, 7, 13, 14, 15, 16, 17, 18] rfl ?_;intro K hK;iterate 9 (refine zx z5 ?_)
     refine zx z5 ?_;refine BvEm.c1 (z6s p1 B1 p2 B2 p1.length p1.length p2.length p2.length h rfl l1 rfl l2 (by omega) (by omega) (by omega) (by omega) v1 v2) (fun k => if k = 0 then 6 else if k = 1 then 10 else if k = 2 then 11 else if k = 3 then 7 else if k = 4 then 12 else 13) ?_;rw [m3, m4, k3];iterate 5 (refine zx z5 ?_)
     refine z7 (z6 (hK _ _ ?_)); clear hK K;refine sg [4, 5, 6, 7, 14, 16, 17, 18, 19, 20] rfl ?_;intro K hK;iterate 7 (refine zx z5 ?_)
     refine zx z5 ?_;refine BvEm.c1 (z6s (p0 ++ p1) C01 p2 B2 (p0.length + p1.length) (p0.length + p1.length) p2.length p2.length h k01 k2 rfl l2 (by omega) (by omega) (by omega) (by omega) w2 v2) (fun k => if k = 0 then 14 else if k = 1 then 16 else if k = 2 then 17 else if k = 3 then 7 else if k = 4 then 12 else 13) ?_;rw [m5, m6, k4];iterate 5 (refine zx z5 ?_)
     refine z7 (z6 (hK _ _ ?_)); clear hK K;refine sg [4, 5, 16, 18, 19, 20, 21, 22] rfl ?_;intro K hK;iterate 7 (refine zx z5 ?_)
     refine zx z5 ?_;refine BvEm.c1 (z6s p0 B0 (p1 ++ p2) C12 p0.length p0.length (p1.length + p2.length) (p1.length + p2.length) h rfl l0 k12 k3 (by omega) (by omega) (by omega) (by omega) v0 w3) (fun k => if k = 0 then 5 else if k = 1 then 8 else if k = 2 then 9 else if k = 3 then 15 else if k = 4 then 18 else 19) ?_;rw [m7, m8, k4];iterate 5 (refine zx z5 ?_)
     refine z7 (z6 (hK _ _ ?_)); clear hK K;refine Cs.seq ?_;refine Cs.regG [2] rfl ?_;intro K hK hG
     have hk23 : K [(2, .bool true)] ⟨24, [(0, z1p ls)]⟩ := by
      refine hK _ _ ?_;clear hG hK K;refine Cs.ret ?_;refine hQ _ _ ?_;refine zn.mk (H' := ⟨24, []⟩) (.inl rfl) ?_;refine zc ?_;refine ⟨BvEm.s, (BvEm.g id), BvEm.s, ?_⟩
      all_goals first | trivial | exact rfl
     iterate 17 (refine zx z5 ?_)
     refine z5 ?_;refine z27 rfl rfl ?_;refine z1g ?_;refine ⟨fun _ => ?_, fun h => (by cases h)⟩;refine zx id ?_;refine BvEm.c1 (z3r CC CC xs.length xs.length k4 k4 (by omega) (by omega) w4 w4) (fun k => k + 20) ?_;simp only [decide_true];iterate 5 (refine zx z5 ?_)
     refine z5 ?_;refine z27 rfl rfl ?_;refine z1g ?_;refine ⟨fun _ => ?_, fun h => (by cases h)⟩;refine zx id ?_;refine BvEm.c1 (z5o xs CC xs.length xs.length rfl k4 h (by omega) (by omega) w4) (fun k => if k = 0 then 2 else if k = 1 then 20 else 21) ?_;rw [hex];iterate 2 (refine zx z5 ?_)
     refine z5 ?_;refine z27 rfl rfl ?_;refine z1g ?_;refine ⟨fun _ => ?_, fun h => (by cases h)⟩;refine zx id ?_;refine BvEm.c1 (sane9_spec) (id) ?_;iterate 2 (refine zx z5 ?_)
     refine z7 ?_;refine z6 ?_;exact hG _ _ _ _ id (BvEm.g id) hk23
    refine zx (z6e _ [] [] [] rfl rfl rfl rfl) ?_;refine zx (z6e _ [] [] [] rfl rfl rfl rfl) ?_;refine zx (z6e _ [] [] [] rfl rfl rfl rfl) ?_;refine zx (z6e _ [] [] [] rfl rfl rfl rfl) ?_;refine zx (z6e _ [] [] [15] rfl rfl rfl rfl) ?_;refine zx (z6e _ [15] [] [16, 15] rfl rfl rfl rfl) ?_;refine zx (z6e _ [16, 15] [] [17, 16, 15] rfl rfl rfl rfl) ?_;refine zx (z6e _ [17, 16, 15] [] [17, 16, 15] rfl rfl rfl rfl) ?_;refine runF_done ?_;refine z6 ?_;rw [app00, z3h];exact hG _ _ _ _ (fun k => if k = 15 then 17 else k) (BvEm.g (fun k => if k = 15 then 17 else k)) hk18
   refine zx (z6e _ [] [] [] rfl rfl rfl rfl) ?_;refine zx (z6e _ [] [] [] rfl rfl rfl rfl) ?_;refine zx (z6e _ [] [] [] rfl rfl rfl rfl) ?_;refine zx (z6e _ [] [] [] rfl rfl rfl rfl) ?_;refine zx (z6e _ [] [] [14] rfl rfl rfl rfl) ?_;refine zx (z6e _ [14] [] [15, 14] rfl rfl rfl rfl) ?_;refine zx (z6e _ [15, 14] [] [16, 15, 14] rfl rfl rfl rfl) ?_;refine zx (z6e _ [16, 15, 14] [] [16, 15, 14] rfl rfl rfl rfl) ?_;refine runF_done ?_;refine z6 ?_;rw [app00, z3h];exact hG _ _ _ _ (fun k => if k = 14 then 16 else k) (BvEm.g (fun k => if k = 14 then 16 else k)) hk17
end Go.Proofs

namespace Go.Proofs.YtdlmfcidbojniaaDoor
open Go.ChangeShapes Go.WideShapes Go.RowKit Go.Sk Go.Proofs
theorem own : ownKnob Tryd.prog.godebug = none := by kernel_rfl
theorem laid : laidOutB Tryd.prog = true := by kernel_rfl
theorem rowed : mapsRowed Tryd.prog = true := by kernel_rfl
theorem fullS : ∀ t e, t < Tryd.prog.types.size → Tryd.prog.underlying t = some (.slice e) → 0 < Tryd.prog.cellsOf e := slices_full_of _ (by kernel_rfl)
theorem uInts : Tryd.prog.underlying 22 = some (.slice 3) := by kernel_rfl
theorem uStr : Tryd.prog.underlying 9 = some .string := by kernel_rfl
theorem uBool : Tryd.prog.underlying 4 = some .bool := by kernel_rfl
theorem fInt : flatB Tryd.prog 3 [.i .i64] = true := by kernel_rfl
theorem gTab : Tryd.prog.globalNamed "skipgraph/skipgraphworld.letters" = some 0 := by kernel_rfl
theorem gTabType : (Tryd.prog.globals[0]?).map (·.type) = some 99 := by kernel_rfl
theorem uTab : Tryd.prog.underlying 99 = some (.array 6 9) := by kernel_rfl
theorem cTab : Tryd.prog.cellsOf 99 = 6 := by kernel_rfl
theorem cStr : Tryd.prog.cellsOf 9 = 1 := by kernel_rfl
theorem oneTab : (List.range Tryd.prog.globals.size).all (fun i => !tabG Tryd.prog i || i == 0) = true := by kernel_rfl
theorem tabs {W : World} (h : laidMetH Tryd.prog [("math/bits.deBruijn32tab", Rows.laid_math_bits_deBruijn32tab), ("skipgraph/skipgraphworld.letters", Rows.laid_skipgraph_skipgraphworld_letters)] W) : ∀ i, tabG Tryd.prog i = true → i < W.heap.size ∧ TabAt W i :=
 tabs_of_mem gTab gTabType uTab uStr cStr cTab oneTab (laid := [("math/bits.deBruijn32tab", Rows.laid_math_bits_deBruijn32tab), ("skipgraph/skipgraphworld.letters", Rows.laid_skipgraph_skipgraphworld_letters)]) (by exact .tail _ (.head _)) h
theorem gTabB : Tryd.prog.globalNamed "math/bits.deBruijn32tab" = some 1 := by kernel_rfl
theorem gTabBType : (Tryd.prog.globals[1]?).map (·.type) = some 157 := by kernel_rfl
theorem uTabB : Tryd.prog.underlying 157 = some (.array 32 5) := by kernel_rfl
theorem uByte : Tryd.prog.underlying 5 = some (.int .u8) := by kernel_rfl
theorem cTabB : Tryd.prog.cellsOf 157 = 32 := by kernel_rfl
theorem cByte : Tryd.prog.cellsOf 5 = 1 := by kernel_rfl
theorem oneTabB : (List.range Tryd.prog.globals.size).all (fun i => !tabBG Tryd.prog i || i == 1) = true := by kernel_rfl
theorem tabsB {W : World} (h : laidMetH Tryd.prog [("math/bits.deBruijn32tab", Rows.laid_math_bits_deBruijn32tab), ("skipgraph/skipgraphworld.letters", Rows.laid_skipgraph_skipgraphworld_letters)] W) : ∀ i, tabBG Tryd.prog i = true → i < W.heap.size ∧ TabBAt W i :=
 tabsB_of_mem gTabB gTabBType uTabB uByte cByte cTabB oneTabB (laid := [("math/bits.deBruijn32tab", Rows.laid_math_bits_deBruijn32tab), ("skipgraph/skipgraphworld.letters", Rows.laid_skipgraph_skipgraphworld_letters)]) (by exact .head _) h
def toInt : List Value → Int
 |[.int _ z] => z
 |_ => 0
def toInts (rows : List (List Value)) : List Int := rows.map toInt
theorem ints_rows {w : World} {v : Value} {q : Option Sk.Loc} {rows : List (List Value)} (h : RwIn w v q [.i .i64] rows) (i : Nat) (r : List Value) (hr : rows[i]? = some r) : ints (toInts rows) i = r.map svOf := by
 have hok := h.ok r (List.mem_of_getElem? hr);rcases r with _ | ⟨v, _ | ⟨v', r⟩⟩
 ·exact hok.elim
 ·obtain ⟨⟨z, rfl, _⟩, _⟩ := hok;simp only [ints, nth, toInts, List.getD, List.getElem?_map, hr, Option.map_some, Option.getD_some, toInt, List.map_cons, List.map_nil, svOf]
 ·exact hok.2.elim
theorem ints_in {β : Env} {w : World} {v : Value} {q : Option Sk.Loc} {rows : List (List Value)} (h : RwIn w v q [.i .i64] rows) {id : Nat} (hq : β id 0 = q) :
  den β (.slc false id 0 0 (toInts rows).length) v ∧ (Sk.Obj.row ⟨false, false, 3, 1, (toInts rows).length, ints (toInts rows)⟩).holds β w q := by
 have := rows_in h hq 3 (ints (toInts rows)) (ints_rows h);simpa [toInts] using this
theorem ints_len {w : World} {v : Value} {q : Option Sk.Loc} {rows : List (List Value)} (h : RwIn w v q [.i .i64] rows) : (toInts rows).length ≤ 9223372036854775807 := by
 have := h.len;simpa [toInts, maxLen] using this
theorem ints_ltO (m : Nat) (xs : List Int) : (Sk.Obj.row ⟨false, false, 3, 1, xs.length, ints xs⟩).lt m := Sk.Obj.lt_row.2 fun i _ => by simp [ints, SV.ltL, SV.lt]
def putCells (l : List Value) : Go.Obj → Go.Obj
 |.cells _ t frozen => .cells l.toArray t frozen
 |o => o
noncomputable def z4j (os : Os) : World :=
 { World.holding Tryd.prog os ⟨#[], #[], []⟩ with heap := ((World.holding Tryd.prog os ⟨#[], #[], []⟩).heap.modify 0 (putCells (letters.map Value.string))).modify 1 (putCells (db32.map (Value.int IntKind.u8))) }
end Go.Proofs.YtdlmfcidbojniaaDoor

namespace Go.Proofs.YtdlmfcidbojniaaDoor.bulkAssociatesTop
open Go.ChangeShapes Go.WideShapes Go.RowKit Go.Sk Go.Proofs
theorem top (W : World) (v0 : Value) (q0 : Option Sk.Loc) (r0 : List (List Value)) (h0 : RwIn W v0 q0 [.i .i64] r0)
  (htab : ∀ i, tabG Tryd.prog i = true → i < W.heap.size ∧ TabAt W i) (htabB : ∀ i, tabBG Tryd.prog i = true → i < W.heap.size ∧ TabBAt W i) : Calls Tryd.prog 10 #[v0] W fun e w' => e = .returned (.bool true) ∧ Below W.heap.size W w' := by
 let β : Env := fun _ _ => q0
 obtain ⟨a0, b0⟩ := ints_in (β := β) (id := 0) h0 rfl;refine zd.top (Ent.of Tryd.func10 (by kernel_rfl) (by kernel_rfl)) (associates_spec (toInts r0) (ints_len h0)) β W [v0] (fun id k o ho => ?_) ⟨v0, [], a0, rfl, rfl⟩ (by simp [SV.ltL, SV.lt]) htab htabB;obtain ⟨c, F, hf, hk, rfl⟩ := z10 ho;simp only [Sk.find, z1p, Sk.one] at hf
 split at hf
 ·rename_i e; subst e; cases hf
  exact ⟨rfl, by show (0 : Nat) < 1; omega, ints_ltO _ _, b0⟩
 ·cases hf
theorem contract (H : Type) (enc : TypeId × Value → H) (W : World) (base : Nat) (args : Array Value) (ds gs : List (DataW H)) (before : List MemPlace)
  (hval : ∀ (j : Nat) t v, Tryd.f10.params[j]? = some t → args[j]? = some v → Value.okWide Tryd.prog W .any base t v)
  (hW : DataW.Whole enc Tryd.prog Tryd.f10.params.toList Rows.bulkAssociatesSpec.vars false W args.toList ds gs before) (hL : laidMetH Tryd.prog Rows.bulkAssociatesRow.laid W) :
  Calls Tryd.prog 10 args W fun e W' => ∃ v, e = .returned v ∧ Rows.bulkAssociatesSpec.post enc Tryd.prog Tryd.f10 false true false false W args v W' := by
 have hW1 := hW;obtain ⟨p, q, hA0, hV, rfl, _, _⟩ := hW;have hA : DataW.TrodAll enc Tryd.prog W 0 (fun _ => true) true Tryd.f10.params.toList args.toList ds p := hA0;have hval1 : ∀ (j : Nat) t v, Tryd.f10.params[j]? = some t → args[j]? = some v → Value.okWide Tryd.prog W .any base t v := hval;rw [Tryd.params10] at hA hval1;obtain ⟨v0, vs0, d0, ds0, p0, q0, ha0, rfl, rfl, h0, r0⟩ := trodAll_cons hA;obtain ⟨rfl, rfl, rfl⟩ := trodAll_nil r0;obtain rfl : args = #[v0] := by cases args; simp_all
 obtain ⟨_, _, x0⟩ := rows_open uInts fInt (by simp) (hval1 0 _ v0 rfl rfl) h0;refine (top W v0 _ _ x0 (tabs hL) (tabsB hL)).mono fun e W1 ⟨he, hb⟩ => ?_;subst he;refine ⟨_, rfl, law_post laid rowed fullS (by decide +kernel) rfl hW1 hb rfl uBool fun ds hd => ?_⟩;have hd1 : ds.length = 1 := hd
 match ds, hd1 with
 |[_], _ => rfl
theorem laid_met (os : Os) : laidMet Tryd.prog Rows.bulkAssociatesRow.laid ((z4j os).forCall (fun _ _ => 0) ⟨#[], #[.slice none 0 0], []⟩).memory :=
 laidMet_of_run' 8 (by kernel_rfl) (by kernel_rfl)
theorem reads (os : Os) {H : Type} (enc : TypeId × Value → H) : ∃ places, DataW.whole enc Tryd.prog ((z4j os).forCall (fun _ _ => 0) ⟨#[], #[.slice none 0 0], []⟩).memory Tryd.f10.params.toList Rows.bulkAssociatesSpec.vars false #[Value.slice none 0 0].toList 8 = some ([.nil], [], places) :=
 ⟨[], by kernel_rfl⟩
set_option maxRecDepth 100000 in
theorem lifted (os : Os) (started : os.Started) (H : Type) (enc : TypeId × Value → H) (F : Stop.Interp) :
  ReturnsInHanded {} Tryd.checked os 10 .any ((OpenSpec.ofChange Rows.bulkAssociatesSpec).preRow enc Tryd.prog Tryd.f10 Rows.bulkAssociatesRow.domain false Rows.bulkAssociatesRow.laid) (((OpenSpec.ofChange Rows.bulkAssociatesSpec).at F).post enc Tryd.prog Tryd.f10 false true false false) := by
 obtain ⟨places, hx⟩ := reads os enc
 refine returnsInHanded_of_row (C := Tryd.checked) (s := OpenSpec.ofChange Rows.bulkAssociatesSpec) own started (by kernel_rfl) Tryd.func10
  (witness_row_at (enc := enc) (C := Tryd.checked) false (z4j os) #[.slice none 0 0] rfl (by kernel_rfl) (by kernel_rfl) (by kernel_rfl)
   (OpenSpec.preRow_of_cond 8 hx (by kernel_rfl) (fun k hk => by cases hk) (by kernel_rfl) (laid_met os))) ?_
 intro W base args ds gs before hval hW _ _ _ hL _ _;exact contract H enc W base args ds gs before hval hW hL
theorem said : Rows.BulkAssociatesSaid :=
 OpenClaim.holds_of_cond 10 Tryd.f10 rfl rfl rfl rfl rfl rfl rfl ⟨rfl, rfl, rfl, rfl, rfl⟩ rfl rfl rfl rfl rfl (by kernel_rfl) Tryd.func10 (by kernel_rfl)
  (of_decide_eq_true (by kernel_rfl)) (by unfold Func.isWrapper; first | (rw [if_pos (by decide +kernel)]; kernel_rfl) | (rw [if_neg (by decide +kernel)]; exact ⟨rfl, rfl⟩))
  (fun os started H enc _ F => by rw [OpenClaim.pre_eq_preRow]; exact lifted os started H enc F)
theorem plain (f : FuncId) (fn : Func) (hf : Tryd.pinned.checked.prog.funcNamed "skipgraph/skipgraphlaw9.BulkAssociates" = some f) (hfn : Tryd.pinned.checked.prog.funcs[f]? = some fn) :
  false = Tryd.pinned.checked.prog.looks [] ∧ ∀ (j : Nat) t, fn.params[j]? = some t → Tryd.pinned.checked.prog.wantsStandIn t = false := by
 obtain rfl : f = 10 := Option.some.inj ((show Tryd.prog.funcNamed "skipgraph/skipgraphlaw9.BulkAssociates" = some 10 by kernel_rfl).symm.trans hf) |>.symm
 obtain rfl : fn = Tryd.f10 := (Option.some.inj (Tryd.func10.symm.trans hfn)).symm;refine ⟨by kernel_rfl, fun j t ht => ?_⟩;rw [Tryd.params10] at ht;have hm : t ∈ [22] := by simpa using Array.mem_of_getElem? ht
 have hall : ([22].all fun u => !Tryd.prog.wantsStandIn u) = true := by kernel_rfl
 exact (show Tryd.prog.wantsStandIn t = false by simpa using List.all_eq_true.1 hall t hm)
theorem proved : Rows.BulkAssociatesCardSaid :=
 Claim7.holds_tied_plain_at .later [] _ _ _ _ said (fun _ h => by cases h) (by kernel_rfl) (fun _ h => by cases h) bulkAssociates_row_tie rfl ⟨rfl, rfl⟩ (by kernel_rfl) rfl plain (by kernel_rfl)
end Go.Proofs.YtdlmfcidbojniaaDoor.bulkAssociatesTop
#print axioms Go.Proofs.YtdlmfcidbojniaaDoor.bulkAssociatesTop.proved
