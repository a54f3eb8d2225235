/-
  BulkMerges: for every input the law returns true, and the input reads as before.
  Conditions: those that each statement names.
-/
import Derived.Test.YtdlmfcidbojniaaDoorQsb
import Derived.Test.YtdlmfcidbojniaaDoorChecked
import Derived.Below
import Derived.ChangeSame
import Derived.ChangeSlices
import Derived.ReadAgain
import Derived.OpenShut
import Derived.JoinedOf
import Derived.Handed
import Derived.Deep.Slices
import Derived.Lib.LaidTab
import Derived.Test.YtdlmfcidbojniaaDoorQsd
import Derived.Test.YtdlmfcidbojniaaDoorQsc
import Derived.Test.YtdlmfcidbojniaaDoorQse
import Derived.Test.YtdlmfcidbojniaaDoorRows
import Derived.Test.YtdlmfcidbojniaaDoorCards
import Derived.Test.YtdlmfcidbojniaaDoorTie
import Derived.WalkKit
import Derived.ProofKit
import Derived.Deep.DeepHandedRow
import Derived.ChangeMaps5
set_option linter.unusedSimpArgs false
set_option linter.unusedVariables false
set_option maxRecDepth 4000
namespace Go.Sk
open Go.RowKit Go.WideShapes Go.ChangeShapes
theorem below_sameAt {w w' : World} (h : Below w.heap.size w w') {p : MemPlace} (hp : p.block < w.heap.size) : w.sameAt w' p := by
 cases p with
 |cell b off => exact World.cell?_of_block (h.block b hp)
 |map b => exact h.block b hp
section
variable {H : Type} {enc : TypeId × Value → H} {P : Program}
theorem trodAll_carry {w w' : World} {base : Nat} {sp : Nat → Bool} {held : Bool} : ∀ {ts : List TypeId} {vs : List Value} {ds : List (DataW H)} {ps : List MemPlace}, DataW.TrodAll enc P w base sp held ts vs ds ps → (∀ p ∈ ps, w.sameAt w' p) →
  DataW.TrodAll enc P w' base sp held ts vs ds ps
 |[], [], [], _, h, _ => h
 |_ :: _, _ :: _, _ :: _, _, ⟨p, q, ⟨n, h1⟩, h2, e⟩, hs =>
  ⟨p, q, ⟨n, DataW.trod_carry n _ _ _ h1 fun x hx => hs x (by rw [e]; exact List.mem_append_left _ hx)⟩, trodAll_carry h2 (fun x hx => hs x (by rw [e]; exact List.mem_append_right _ hx)), e⟩
theorem trodAll_len {w : World} {base : Nat} {sp : Nat → Bool} {held : Bool} : ∀ {ts : List TypeId} {vs : List Value} {ds : List (DataW H)} {ps : List MemPlace}, DataW.TrodAll enc P w base sp held ts vs ds ps → ds.length = ts.length
 |[], [], [], _, _ => rfl
 |_ :: _, _ :: _, _ :: _, _, ⟨_, _, _, h2, _⟩ => by simp [trodAll_len h2]
theorem law_post {f : Func} {s : ChangeSpec} {apart fresh handsOn again : Bool} {W W' : World} {args : Array Value} {ds gs : List (DataW H)} {before : List MemPlace} (hl : laidOutB P = true) (hm : mapsRowed P = true)
  (hz : ∀ t e, t < P.types.size → P.underlying t = some (.slice e) → 0 < P.cellsOf e) (hts : ∀ t ∈ f.params.toList, t < P.types.size) (hv : s.vars = [])
  (hW : DataW.Whole enc P f.params.toList s.vars apart W args.toList ds gs before) (hb : Below W.heap.size W W') {tb : TypeId} (hres : f.resultTypes = #[tb]) (hbool : P.underlying tb = some .bool)
  (hfn : ∀ ds : List (DataW H), ds.length = f.params.toList.length → s.fn H ds = { results := [.lit (.bool true)], args := ds }) : s.post enc P f apart fresh handsOn again W args (.bool true) W' := by
 have hW' := hW;obtain ⟨p, q, hA, hV, rfl, hfz, hnd⟩ := hW;rw [hv] at hV
 have hq : gs = [] ∧ q = [] := by
  cases gs with
  |nil => exact ⟨rfl, hV⟩
  |cons _ _ => exact hV.elim
 obtain ⟨rfl, rfl⟩ := hq;have hfn' := hfn (ds ++ []) (by rw [List.append_nil]; exact trodAll_len hA);have hlt : ∀ x ∈ p, x.block < W.heap.size := DataW.TrodAll.lt hA
 have hargs : ∀ sp : Nat → Bool, (∀ x ∈ p ++ [], sp x.block = true) → DataW.TrodAll enc P W' 0 sp true f.params.toList args.toList ds p := fun sp hsp =>
  trodAll_carry (DataW.TrodAll.respare (kids_rows hl hm) hz hts hA fun x hx => hsp x (List.mem_append_left _ hx)) fun x hx => below_sameAt hb (hlt x hx)
 have hrl : ((Value.bool true).resultList f.resultTypes.size) = [.bool true] := by rw [hres]; rfl
 have hres' : ∀ (b : Nat) (sp : Nat → Bool) (hd : Bool), DataW.TrodAll enc P W' b sp hd f.resultTypes.toList ((Value.bool true).resultList f.resultTypes.size) (s.fn H (ds ++ [])).results [] := fun b sp hd => by
  rw [hrl, hfn', hres];exact trodAll_mk1 (shut_bool hbool true)
 have hvars : ∀ sp : Nat → Bool, DataW.TrodVars enc P W' sp s.vars (s.fn H (ds ++ [])).vars [] := fun sp => by rw [hfn', hv]; rfl
 have hargs' : ∀ sp : Nat → Bool, (∀ x ∈ p ++ [], sp x.block = true) → DataW.TrodAll enc P W' 0 sp true f.params.toList args.toList (s.fn H (ds ++ [])).args p := fun sp hsp => by
  rw [hfn']; simpa using hargs sp hsp
 have hold : ∀ x ∈ p ++ [], (fun b => decide (b < W.heap.size)) x.block = true := fun x hx => by simpa using hlt x (by simpa using hx)
 refine ⟨ds, [], p ++ [], [], p, [], hW', hres' _ _ _, hargs' _ hold, hvars _, World.keptBut_mono (fun x hx => ⟨hx, ?_⟩) (hb.frame (· ∈ p ++ [])), fun _ => ⟨?_, _, _, ([] ++ p) ++ [], ⟨[] ++ p, [], trodAll_append (hargs' _ (fun _ _ => rfl)) (hres' _ _ _), hvars _, rfl, ?_, ?_⟩, ?_⟩⟩
 ·exact .inr (.inl (by simpa using hx))
 ·intro j t r ht hr;rw [hrl] at hr;rw [hres] at ht
  cases j with
  |zero => simp at ht hr; subst ht hr; exact okWide_bool_mk hbool _
  |succ j => simp at hr
 ·intro b off hp;have hin : MemPlace.cell b off ∈ p ++ [] := by simpa using hp
  rw [hb.frozen (hlt _ (by simpa using hin))];exact hfz b off hin
 ·intro ha;simpa using hnd ha
 ·intro x hx _;simpa using hx
end
theorem zd.top {P : Program} {f : FuncId} {args : List SV} {H0 : AH} (hent : Ent P f) (hF : zd P f args H0 (fun s _ => s = .bool true)) (β : Env) (w : World) (vs : List Value)
  (hh : ∀ id k o, look H0.os id k = some o → o.own = false ∧ id < H0.nxt ∧ o.lt H0.nxt ∧ o.holds β w (β id k)) (hd : z41 β args vs) (hl : SV.ltL H0.nxt args) (htab : ∀ g, tabG P g = true → g < w.heap.size ∧ TabAt w g) (htabB : ∀ g, tabBG P g = true → g < w.heap.size ∧ TabBAt w g) :
  Calls P f vs.toArray w fun e w' => e = .returned (.bool true) ∧ Below w.heap.size w w' := by
 let own0 : Nat → Nat → Prop := fun id k => ∃ o, look H0.os id k = some o ∧ o.own = true
 let X : Cx := { P := P, n := 0, w0 := w, own0 := own0, m0 := H0.nxt, β0 := β }
 have no : ∀ id k o, look H0.os id k = some o → ¬ o.own = true := fun id k o h => by rw [(hh id k o h).1]; simp
 have no0 : ∀ id k, ¬ own0 id k := fun id k ⟨o, h1, h2⟩ => no id k o h1 h2
 have hS : St X β H0 w := {
  os := rfl, tape := rfl, output := rfl, size := Nat.le_refl _, fix := fun _ _ _ => rfl
  holds := fun id k o h => (hh id k o h).2.2.2
  sep := fun id k id' k' o o' L L' h _ ho => absurd ho (no id k o h)
  old := fun _ _ _ => rfl
  mine := fun id k o L h ho => absurd ho (no id k o h)
  keep := fun id k h => absurd h (no0 id k)
  m0 := Nat.le_refl _
  lt := fun id k o h => ⟨(hh id k o h).2.1, (hh id k o h).2.2.1⟩
  tabs := ⟨fun g hg => ⟨(htab g hg).1, (htab g hg).2, fun id k _ h _ => absurd h (no0 id k)⟩, fun g hg => ⟨(htabB g hg).1, (htabB g hg).2, fun id k _ h _ => absurd h (no0 id k)⟩⟩
  drawn := Nat.le_refl _ }
 refine ((hF X β w vs rfl rfl rfl rfl rfl hS hd hl).calls hent).mono fun e w' ⟨v, he, β', s, H', hs, _, hdv, _, hS'⟩ => ?_;subst hs;simp only [den] at hdv;subst hdv
 exact ⟨he, hS'.os, hS'.tape, hS'.output, hS'.size, fun b hb => hS'.old b hb fun id k o L h ho hβ => by
  rcases hS'.mine id k o L h ho hβ with ⟨_, h1⟩ | ⟨_, h2⟩
  ·exact absurd h1 (no0 id k)
  ·have : w.heap.size ≤ L.blk := h2
   omega⟩
end Go.Sk

namespace Go.Sk
open Go.RowKit Go.WideShapes Go.ChangeShapes
inductive FK where
 |i (k : IntKind) | s | b
def FK.is (P : Program) (t : TypeId) : FK → Bool
 |.i k => match P.underlying t with | some (.int k') => k' == k | _ => false
 |.s => match P.underlying t with | some .string => true | _ => false
 |.b => match P.underlying t with | some .bool => true | _ => false
def FK.ok : FK → Value → Prop
 |.i k, v => ∃ z, v = .int k z ∧ (Lit.int k z).wf = true
 |.s, v => ∃ x : ByteArray, v = .string x ∧ x.size ≤ maxLen
 |.b, v => ∃ x, v = .bool x
def svOf : Value → SV
 |.int k z => .int k z
 |.string x => .str x
 |.bool x => .bool x
 |v => .raw v
theorem FK.den {β : Env} {k : FK} {v : Value} (h : k.ok v) : den β (svOf v) v ∧ (svOf v).scalar = true ∧ ∀ m, (svOf v).lt m := by
 cases k <;> simp only [FK.ok] at h
 ·obtain ⟨z, rfl, _⟩ := h; exact ⟨rfl, rfl, fun _ => trivial⟩
 ·obtain ⟨z, rfl, _⟩ := h; exact ⟨rfl, rfl, fun _ => trivial⟩
 ·obtain ⟨z, rfl⟩ := h; exact ⟨rfl, rfl, fun _ => trivial⟩
def okRow : List FK → List Value → Prop
 |[], [] => True
 |k :: ks, v :: vs => k.ok v ∧ okRow ks vs
 |_, _ => False
theorem okRow_len : ∀ {ks : List FK} {vs : List Value}, okRow ks vs → vs.length = ks.length
 |[], [], _ => rfl
 |_ :: _, _ :: _, h => by simp [okRow_len h.2]
 |[], _ :: _, h => h.elim
 |_ :: _, [], h => h.elim
theorem okRow_get : ∀ {ks : List FK} {vs : List Value}, okRow ks vs → ∀ (j : Nat) (v : Value), vs[j]? = some v → ∃ k : FK, k.ok v
 |[], [], _, j, v, h => by simp at h
 |k :: _, _ :: _, h, j, v, hj => by
  cases j with
  |zero => simp at hj; subst hj; exact ⟨k, h.1⟩
  |succ j => simp at hj; exact okRow_get h.2 j v hj
 |[], _ :: _, h, _, _, _ => h.elim
 |_ :: _, [], h, _, _, _ => h.elim
def fldsB (P : Program) (fs : Array Field) : Nat → List FK → Bool
 |i, [] => i == fs.size
 |i, k :: ks => (match fs[i]? with | some f => f.offset == i && P.cellsOf f.type == 1 && k.is P f.type | none => false) && fldsB P fs (i + 1) ks
def flatB (P : Program) (t : TypeId) (ks : List FK) : Bool :=
 P.cellsOf t == ks.length && (match P.underlying t with
  |some (.struct fs) => fldsB P fs 0 ks
  |_ => match ks with | [k] => k.is P t | _ => false)
section
variable {H : Type} {enc : TypeId × Value → H} {P : Program} {w : World} {base : Nat} {sp : Nat → Bool} {held : Bool}
theorem one_open {k : FK} {t : TypeId} {fuel : Nat} {cs : List Value} {x : DataW H × List MemPlace} (hk : k.is P t = true) (h : DataW.trod enc P w base sp held fuel t cs = some x) : ∃ v, cs = [v] ∧ k.ok v := by
 cases k <;> simp only [FK.is] at hk
 ·split at hk
  ·rename_i k' hu;obtain rfl := eq_of_beq hk;obtain ⟨n, rfl, _, hw⟩ := DataW.trod_int hu h;exact ⟨_, rfl, n, rfl, hw⟩
  ·cases hk
 ·split at hk
  ·rename_i hu;obtain ⟨s, rfl, _, hs⟩ := DataW.trod_string hu h;exact ⟨_, rfl, s, rfl, hs⟩
  ·cases hk
 ·split at hk
  ·rename_i hu;obtain ⟨b, rfl, _⟩ := DataW.trod_bool hu h;exact ⟨_, rfl, b, rfl⟩
  ·cases hk
theorem flds_open {fs : Array Field} {n : Nat} {cs : List Value} {xs : List (DataW H × List MemPlace)} (hx : xs.length = fs.size) (hf : ∀ (i : Nat) (f : Field), fs[i]? = some f → DataW.trod enc P w base sp held n f.type ((cs.drop f.offset).take (P.cellsOf f.type)) = xs[i]?) :
  ∀ (ks : List FK) (i : Nat), fldsB P fs i ks = true → i + ks.length = cs.length → okRow ks (cs.drop i)
 |[], i, _, hl => by rw [List.drop_eq_nil_of_le (by simp at hl; omega)]; trivial
 |k :: ks, i, h, hl => by
  simp only [fldsB, Bool.and_eq_true] at h;obtain ⟨h1, h2⟩ := h;simp only [List.length_cons] at hl
  split at h1
  ·rename_i f hfi;simp only [Bool.and_eq_true, beq_iff_eq] at h1;obtain ⟨⟨h3, h4⟩, h5⟩ := h1;have h6 := hf i f hfi;have hi : i < xs.length := by rw [hx]; exact (Array.getElem?_eq_some_iff.1 hfi).1
   rw [h3, h4, List.getElem?_eq_getElem hi] at h6;obtain ⟨v, hv, hok⟩ := one_open h5 h6;rw [List.drop_eq_getElem_cons (by omega), List.take_succ_cons, List.take_zero] at hv;rw [List.drop_eq_getElem_cons (by omega)];have : cs[i] = v := by simpa using hv
   rw [this];exact ⟨hok, flds_open hx hf ks (i + 1) h2 (by omega)⟩
  ·cases h1
theorem flat_open {t : TypeId} {ks : List FK} {fuel : Nat} {cs : List Value} {x : DataW H × List MemPlace} (hb : flatB P t ks = true) (h : DataW.trod enc P w base sp held fuel t cs = some x) : okRow ks cs := by
 simp only [flatB, Bool.and_eq_true, beq_iff_eq] at hb;obtain ⟨hc, hb⟩ := hb
 split at hb
 ·rename_i fs hu;obtain ⟨xs, m, _, _, hl, hxl, hf⟩ := DataW.trod_struct hu h;have := flds_open hxl hf ks 0 hb (by omega);rwa [List.drop_zero] at this
 ·split at hb
  ·rename_i k;obtain ⟨v, rfl, hok⟩ := one_open hb h;exact ⟨hok, trivial⟩
  ·cases hb
structure RwIn (w : World) (v : Value) (q : Option Loc) (ks : List FK) (rows : List (List Value)) : Prop where
 len : rows.length ≤ maxLen
 ok : ∀ r ∈ rows, okRow ks r
 val : ∃ a c, v = .slice a rows.length c ∧ rows.length ≤ c ∧ (0 < rows.length → ∃ L, q = some L ∧ a = some ⟨L.blk, L.off, none⟩)
 mem : (rows.length = 0 ∧ q = none) ∨ ∃ L, q = some L ∧ L.sz = ks.length ∧ L.blk < w.heap.size ∧ ∀ (i : Nat) (r : List Value), rows[i]? = some r → ∀ (j : Nat) (u : Value), r[j]? = some u → w.cell? ⟨L.blk, L.off + i * ks.length + j, none⟩ = some u
theorem rows_open {t e : TypeId} {ks : List FK} {v : Value} {d : DataW H} {p : List MemPlace} (ht : P.underlying t = some (.slice e)) (hb : flatB P e ks = true) (hk0 : 0 < ks.length) {b0 : Nat}
  (hval : Value.okWide P w .any b0 t v) (h : DataW.Trod enc P w base sp held t v d p) : ∃ q rows, RwIn w v q ks rows := by
 obtain ⟨n, hn⟩ := h;obtain ⟨a0, l0, c0, rfl⟩ := okWide_slice ht hval;have hce : P.cellsOf e = ks.length := by simp only [flatB, Bool.and_eq_true, beq_iff_eq] at hb; exact hb.1
 have hcs : (Value.slice a0 l0 c0).cells.toList = [Value.slice a0 l0 c0] := rfl;rw [hcs] at hn;rcases Deep.open_slice ht hn with ⟨hv, _⟩ | ⟨a, len, cap, m, n', D, Pl, hv, hbb, hlc, hcm, hmm, _, hel⟩
 ·cases hv
  exact ⟨none, [], ⟨by simp, by simp, ⟨none, 0, rfl, by simp, by simp⟩, .inl ⟨rfl, rfl⟩⟩⟩
 ·cases hv
  have hml : l0 ≤ m := by rw [hmm]; split <;> omega
  obtain ⟨R, hR⟩ := Deep.choose_lt (α := List Value) (p := fun i cs => w.cells? base (a.add (i * P.cellsOf e)) (P.cellsOf e) = some cs ∧ DataW.trod enc P w base sp held n' e cs = some (D i, Pl i)) hel;have hrl : ((List.range l0).map R).length = l0 := by simp
  have hget : ∀ i r, ((List.range l0).map R)[i]? = some r → i < l0 ∧ r = R i := fun i r h => by
   simp only [List.getElem?_map, Option.map_eq_some_iff] at h;obtain ⟨k, h1, h2⟩ := h
   have hi : i < l0 := by
    rcases Nat.lt_or_ge i l0 with h | h
    ·exact h
    ·rw [List.getElem?_eq_none (by simpa using h)] at h1; cases h1
   rw [List.getElem?_range hi] at h1
   cases h1
   exact ⟨hi, h2.symm⟩
  have hok : ∀ i, i < m → okRow ks (R i) := fun i hi => flat_open hb (hR i hi).2
  have hrow : ∀ r ∈ (List.range l0).map R, okRow ks r := fun r hr => by
   obtain ⟨i, hi, rfl⟩ := List.mem_map.1 hr;exact hok i (by have := List.mem_range.1 hi; omega)
  by_cases h0 : l0 = 0
  ·subst h0;exact ⟨none, [], ⟨by simp, by simp, ⟨some a, c0, rfl, by simp, by simp⟩, .inl ⟨rfl, rfl⟩⟩⟩
  ·have hcell : ∀ i, i < l0 → ∀ (j : Nat) (u : Value), (R i)[j]? = some u → w.cell? ((a.add (i * ks.length)).add j) = some u := fun i hi j u hj => by
    obtain ⟨h1, h2⟩ := hR i (by omega);obtain ⟨_, hlen, hc⟩ := World.cells?_some h1;have hjl : j < P.cellsOf e := by rw [← hlen]; exact (List.getElem?_eq_some_iff.1 hj).1
    rw [← hce, hc j hjl];exact hj
   have hr0 : ∃ u, (R 0)[0]? = some u := by
    have := okRow_len (hok 0 (by omega));exact ⟨_, List.getElem?_eq_getElem (by omega)⟩
   obtain ⟨u0, hu0⟩ := hr0;have hc0 := hcell 0 (by omega) 0 u0 hu0;have hsp : a.spot = none := World.cell?_spot (by unfold Addr.add at hc0; simpa using hc0);obtain ⟨b, o, s0⟩ := a;simp only at hsp;subst hsp
   have hblk : b < w.heap.size := by
    rw [z5s, z5s] at hc0;unfold World.cell? at hc0;rcases Nat.lt_or_ge b w.heap.size with h | h
    ·exact h
    ·simp [Array.getElem?_eq_none h] at hc0
   refine ⟨some ⟨b, o, ks.length, 0⟩, (List.range l0).map R, ⟨by omega, hrow, ⟨some ⟨b, o, none⟩, c0, by rw [hrl], by omega, fun _ => ⟨_, rfl, rfl⟩⟩, .inr ⟨_, rfl, rfl, hblk, fun i r hr j u hj => ?_⟩⟩⟩;obtain ⟨hi, rfl⟩ := hget i r hr;have := hcell i hi j u hj;rw [z5s, z5s] at this;exact this
end
theorem rows_in {β : Env} {w : World} {v : Value} {q : Option Loc} {ks : List FK} {rows : List (List Value)} (h : RwIn w v q ks rows) {id : Nat} (hq : β id 0 = q) (e : TypeId) (f : Nat → List SV) (hf : ∀ (i : Nat) (r : List Value), rows[i]? = some r → f i = r.map svOf) :
  den β (.slc false id 0 0 rows.length) v ∧ (Obj.row ⟨false, false, e, ks.length, rows.length, f⟩).holds β w q := by
 obtain ⟨_, hok, ⟨a, c, rfl, hc, hp⟩, hm⟩ := h;refine ⟨?_, ?_⟩
 ·simp only [den, z65, Bool.false_eq_true, if_false];refine ⟨a, c, rfl, hc, fun h => ?_⟩;obtain ⟨L, h1, h2⟩ := hp h;exact ⟨L, hq.trans h1, by rw [h2]; simp⟩
 ·rcases hm with hm | ⟨L, h1, h2, h3, h4⟩
  ·exact .inl hm
  ·refine .inr ⟨L, h1, h2, h3, fun i hi => ?_, fun h => by cases h⟩;have hi' : i < rows.length := hi;have hr := List.getElem?_eq_getElem hi';have hfi := hf i _ hr;have hoki := hok _ (List.getElem_mem hi')
   show (f i).length = ks.length ∧ ∀ (j : Nat) (s : SV), (f i)[j]? = some s → _
   rw [hfi];refine ⟨by rw [List.length_map]; exact okRow_len hoki, fun j s hs => ?_⟩;rw [List.getElem?_map, Option.map_eq_some_iff] at hs;obtain ⟨u, hu, rfl⟩ := hs;obtain ⟨k, hk⟩ := okRow_get hoki j u hu;obtain ⟨g1, g2, _⟩ := FK.den (β := β) hk;refine ⟨g2, u, ?_, g1⟩;rw [h2];exact h4 i _ hr j u hu
def strData {H : Type} (ss : List ByteArray) : DataW H := .agg (ss.map fun s => .lit (.string s.data.toList))
theorem cells_of_strs {H : Type} {enc : TypeId × Value → H} {P : Program} {w : World} {base : Nat} {sp : Nat → Bool} {held : Bool} {fuel : Nat} {t e : TypeId} {n : Nat} {cs : List Value} {ss : List ByteArray} {p : List MemPlace}
  (ht : P.underlying t = some (.array n e)) (he : P.underlying e = some .string) (hce : P.cellsOf e = 1) (hct : P.cellsOf t = n)
  (h : DataW.trod enc P w base sp held fuel t cs = some (strData ss, p)) : cs = ss.map Value.string := by
 cases fuel with
 |zero => simp [DataW.trod] at h
 |succ fuel =>
  simp only [DataW.trod, ht, hce, hct, Nat.mul_one] at h
  split at h
  ·rename_i hl;obtain ⟨xs, hm, hx⟩ := Option.map_eq_some_iff.1 h
   have hxs : xs.map (·.1) = ss.map fun s => (DataW.lit (.string s.data.toList) : DataW H) := by
    have := congrArg Prod.fst hx;simpa [strData] using this
   have hxl : xs.length = n := by simpa using Lib.mapM_length hm
   have hzl : ss.length = n := by
    have := congrArg List.length hxs;simp at this;omega
   apply List.ext_getElem?;intro i
   by_cases hi : i < n
   ·obtain ⟨b, hb, hf⟩ := Lib.mapM_at hm i i (by simp [hi]);obtain ⟨z, hc, rfl, _⟩ := DataW.trod_string he hf
    have h1 : cs[i]? = some (.string z) := by
     have := congrArg (·[0]?) hc;simpa [List.getElem?_take, List.getElem?_drop] using this
    have h2 : (xs.map (·.1))[i]? = some (DataW.lit (.string z.data.toList) : DataW H) := by simp [hb]
    rw [hxs] at h2;simp only [List.getElem?_map, Option.map_eq_some_iff, DataW.lit.injEq, Lit.string.injEq] at h2;obtain ⟨z', hz', he'⟩ := h2
    have : z' = z := by
     cases z' with
     |mk a => cases z with
      |mk b => congr 1; exact Array.toList_inj.1 he'
    subst this;simp [h1, hz']
   ·rw [List.getElem?_eq_none (by omega), List.getElem?_eq_none (by simp; omega)]
  ·cases h
end Go.Sk

namespace Go.Sk
open Go.RowKit Go.ChangeShapes Go.WideShapes
theorem LaidVars_at {P : Program} {w : World} {n : String} {d : DataW Unit} : ∀ {l : List (String × DataW Unit)} {ps : List MemPlace}, DataW.LaidVars P w l ps → (n, d) ∈ l →
  ∃ g t cs fuel p, P.globalNamed n = some g ∧ (P.globals[g]?).map (·.type) = some t ∧ w.var? P n = some cs ∧ DataW.trod (fun _ => ()) P w 0 (fun _ => true) false fuel t cs.toList = some (d, p)
 |[], _, _, h => by cases h
 |(m, e) :: r, ps, ⟨g, t, cs, fuel, p, q, h1, h2, h3, h4, h5, _⟩, h => by
  cases h with
  |head => exact ⟨g, t, cs, fuel, p, h1, h2, h3, h4⟩
  |tail _ h => exact LaidVars_at h5 h
theorem tabs_of_mem {P : Program} {W : World} {laid : List (String × DataW Unit)} {name : String} {g : Nat} {t e : TypeId} (hg : P.globalNamed name = some g) (hty : (P.globals[g]?).map (·.type) = some t) (ht : P.underlying t = some (.array 6 e)) (he : P.underlying e = some .string) (hce : P.cellsOf e = 1) (hct : P.cellsOf t = 6)
  (hone : (List.range P.globals.size).all (fun i => !tabG P i || i == g) = true) (hm : (name, strData letters) ∈ laid) (h : laidMet P laid W) : ∀ i, tabG P i = true → i < W.heap.size ∧ TabAt W i := by
 obtain ⟨ps, h, _⟩ := h;obtain ⟨g', t', cs, fuel, p, hg', ht', hvar, hd⟩ := LaidVars_at h hm;obtain rfl := Option.some.inj (hg.symm.trans hg');obtain rfl := Option.some.inj (hty.symm.trans ht');have hcs := cells_of_strs ht he hce hct hd;intro i hi
 have hlt : i < P.globals.size := by
  rcases Nat.lt_or_ge i P.globals.size with h | h
  ·exact h
  ·unfold tabG at hi; rw [Array.getElem?_eq_none h] at hi; cases hi
 have h1 := List.all_eq_true.1 hone i (List.mem_range.2 hlt);rw [hi] at h1;have : i = g := by simpa using h1
 subst this
 have hat : TabAt W i := fun j s hj => by
  have := World.var?_cell hg hvar j;rw [this, ← Array.getElem?_toList, hcs, List.getElem?_map, hj]
  rfl
 refine ⟨?_, hat⟩;have h0 := hat 0 _ (show letters[0]? = some _ from rfl);unfold World.cell? at h0;rcases Nat.lt_or_ge i W.heap.size with h | h
 ·exact h
 ·simp [Array.getElem?_eq_none h] at h0
def byteData {H : Type} (ns : List Int) : DataW H := .agg (ns.map fun n => .lit (.int .u8 n))
theorem cells_of_bytes {H : Type} {enc : TypeId × Value → H} {P : Program} {w : World} {base : Nat} {sp : Nat → Bool} {held : Bool} {fuel : Nat} {t e : TypeId} {n : Nat} {cs : List Value} {ss : List Int} {p : List MemPlace}
  (ht : P.underlying t = some (.array n e)) (he : P.underlying e = some (.int .u8)) (hce : P.cellsOf e = 1) (hct : P.cellsOf t = n)
  (h : DataW.trod enc P w base sp held fuel t cs = some (byteData ss, p)) : cs = ss.map (Value.int .u8 ·) := by
 cases fuel with
 |zero => simp [DataW.trod] at h
 |succ fuel =>
  simp only [DataW.trod, ht, hce, hct, Nat.mul_one] at h
  split at h
  ·rename_i hl;obtain ⟨xs, hm, hx⟩ := Option.map_eq_some_iff.1 h
   have hxs : xs.map (·.1) = ss.map fun s => (DataW.lit (.int .u8 s) : DataW H) := by
    have := congrArg Prod.fst hx;simpa [byteData] using this
   have hxl : xs.length = n := by simpa using Lib.mapM_length hm
   have hzl : ss.length = n := by
    have := congrArg List.length hxs;simp at this;omega
   apply List.ext_getElem?;intro i
   by_cases hi : i < n
   ·obtain ⟨b, hb, hf⟩ := Lib.mapM_at hm i i (by simp [hi]);obtain ⟨z, hc, rfl, _⟩ := DataW.trod_int he hf
    have h1 : cs[i]? = some (.int .u8 z) := by
     have := congrArg (·[0]?) hc;simpa [List.getElem?_take, List.getElem?_drop] using this
    have h2 : (xs.map (·.1))[i]? = some (DataW.lit (.int .u8 z) : DataW H) := by simp [hb]
    rw [hxs] at h2;simp only [List.getElem?_map, Option.map_eq_some_iff, DataW.lit.injEq, Lit.int.injEq, true_and] at h2;obtain ⟨z', hz', rfl⟩ := h2;simp [h1, hz']
   ·rw [List.getElem?_eq_none (by omega), List.getElem?_eq_none (by simp; omega)]
  ·cases h
theorem tabsB_of_mem {P : Program} {W : World} {laid : List (String × DataW Unit)} {name : String} {g : Nat} {t e : TypeId} (hg : P.globalNamed name = some g) (hty : (P.globals[g]?).map (·.type) = some t) (ht : P.underlying t = some (.array 32 e)) (he : P.underlying e = some (.int .u8)) (hce : P.cellsOf e = 1) (hct : P.cellsOf t = 32)
  (hone : (List.range P.globals.size).all (fun i => !tabBG P i || i == g) = true) (hm : (name, byteData db32) ∈ laid) (h : laidMet P laid W) : ∀ i, tabBG P i = true → i < W.heap.size ∧ TabBAt W i := by
 obtain ⟨ps, h, _⟩ := h;obtain ⟨g', t', cs, fuel, p, hg', ht', hvar, hd⟩ := LaidVars_at h hm;obtain rfl := Option.some.inj (hg.symm.trans hg');obtain rfl := Option.some.inj (hty.symm.trans ht');have hcs := cells_of_bytes ht he hce hct hd;intro i hi
 have hlt : i < P.globals.size := by
  rcases Nat.lt_or_ge i P.globals.size with h | h
  ·exact h
  ·unfold tabBG at hi; rw [Array.getElem?_eq_none h] at hi; cases hi
 have h1 := List.all_eq_true.1 hone i (List.mem_range.2 hlt);rw [hi] at h1;have : i = g := by simpa using h1
 subst this
 have hat : TabBAt W i := fun j s hj => by
  have := World.var?_cell hg hvar j;rw [this, ← Array.getElem?_toList, hcs, List.getElem?_map, hj]
  rfl
 refine ⟨?_, hat⟩;have h0 := hat 0 _ (show db32[0]? = some _ from rfl);unfold World.cell? at h0;rcases Nat.lt_or_ge i W.heap.size with h | h
 ·exact h
 ·simp [Array.getElem?_eq_none h] at h0
end Go.Sk

namespace Go.Proofs
open Go.Sk
end Go.Proofs

namespace Go.Proofs
open Go.Sk
end Go.Proofs

namespace Go.Proofs
open Go.Sk
end Go.Proofs

namespace Go.Proofs
open Go.Sk
theorem rowsOf_four9 (a b c d : Int) : z50 1 4 [SV.int .i64 a, SV.int .i64 b, SV.int .i64 c, SV.int .i64 d] = ints [a, b, c, d] := rfl
theorem rowsOf_six9 (a b c d e f : Int) : z50 1 6 [SV.int .i64 a, SV.int .i64 b, SV.int .i64 c, SV.int .i64 d, SV.int .i64 e, SV.int .i64 f] = ints [a, b, c, d, e, f] := rfl
end Go.Proofs

namespace Go.Sk
open Go.RowKit
section
variable {X : Cx} {ops : Array Oper} {K : Fr → AH → Prop} {Q : Exit → Act → World → Prop} {Wf Uq : List (List Nat)}
end
variable {X : Cx} {Q : Exit → Fr → AH → Prop} {fr : Fr} {H : AH} {l : List Code}
end Go.Sk

namespace Go.Proofs
open Go.Sk
structure Frs (has : Int → Bool) (par rep : Int → Int) (d : Int → Nat) : Prop where
 inn : ∀ v, has v = true → has (par v) = true
 rp : ∀ v, has v = true → rep (par v) = rep v
 fix : ∀ v, has v = true → par v = v → rep v = v
 dec : ∀ v, has v = true → par v ≠ v → d (par v) < d v
theorem Frs.top {has : Int → Bool} {par rep : Int → Int} {d : Int → Nat} (h : Frs has par rep d) : ∀ (k : Nat) (v : Int), d v = k → has v = true → has (rep v) = true ∧ par (rep v) = rep v ∧ rep (rep v) = rep v := by
 intro k
 induction k using Nat.strongRecOn with
 |_ k ih =>
  intro v hk hv
  by_cases e : par v = v
  ·have := h.fix v hv e;rw [this]; exact ⟨hv, e, this⟩
  ·have := ih (d (par v)) (by rw [← hk]; exact h.dec v hv e) (par v) rfl (h.inn v hv);rw [h.rp v hv] at this; exact this
end Go.Proofs

namespace Go.Proofs
open Go.Sk
structure Df where
 kind : Int
 id : Int
 lev : Int
 side : Int
 hv : Int
 wt : Int
deriving DecidableEq
def Df.sv (d : Df) : List SV := [.int .i64 d.kind, .int .i64 d.id, .int .i64 d.lev, .int .i64 d.side, .int .i64 d.hv, .int .i64 d.wt]
end Go.Proofs

namespace Go.Proofs
open Go.Sk
inductive Cn (E : Int → Int → Prop) : Int → Int → Prop
 |refl (v : Int) : Cn E v v
 |edge {a b : Int} (h : E a b) : Cn E a b
 |symm {a b : Int} (h : Cn E a b) : Cn E b a
 |trans {a b c : Int} (h : Cn E a b) (h' : Cn E b c) : Cn E a c
theorem Cn.sub {E E' : Int → Int → Prop} (h : ∀ a b, E a b → Cn E' a b) {a b : Int} (hc : Cn E a b) : Cn E' a b := by
 induction hc with
 |refl v => exact .refl v
 |edge g => exact h _ _ g
 |symm _ ih => exact .symm ih
 |trans _ _ i1 i2 => exact .trans i1 i2
theorem Cn.inn {E : Int → Int → Prop} {p : Int → Prop} (h : ∀ a b, E a b → p a ∧ p b) {a b : Int} (hc : Cn E a b) : a = b ∨ (p a ∧ p b) := by
  induction hc with
  | refl v => exact .inl rfl
  | edge g => exact .inr (h _ _ g)
  | symm _ ih => rcases ih with ih | ih
                 · exact .inl ih.symm
                 · exact .inr ⟨ih.2, ih.1⟩
  | trans _ _ i1 i2 =>
    rcases i1 with rfl | i1
    · exact i2
    · rcases i2 with rfl | i2
      · exact .inr i1
      · exact .inr ⟨i1.1, i2.2⟩
def adE (E : Int → Int → Prop) (a b : Int) : Int → Int → Prop := fun u v => E u v ∨ (u = a ∧ v = b)
theorem Cn.add {E : Int → Int → Prop} {a b u v : Int} : Cn (adE E a b) u v ↔ Cn E u v ∨ (Cn E u a ∧ Cn E b v) ∨ (Cn E u b ∧ Cn E a v) := by
 constructor
 ·intro h
  induction h with
  |refl v => exact .inl (.refl v)
  |edge g =>
   rcases g with g | ⟨rfl, rfl⟩
   ·exact .inl (.edge g)
   ·exact .inr (.inl ⟨.refl _, .refl _⟩)
  |symm _ ih =>
   rcases ih with ih | ⟨h1, h2⟩ | ⟨h1, h2⟩
   ·exact .inl ih.symm
   ·exact .inr (.inr ⟨h2.symm, h1.symm⟩)
   ·exact .inr (.inl ⟨h2.symm, h1.symm⟩)
  |trans _ _ i1 i2 =>
   rcases i1 with i1 | ⟨h1, h2⟩ | ⟨h1, h2⟩
   ·rcases i2 with i2 | ⟨g1, g2⟩ | ⟨g1, g2⟩
    ·exact .inl (i1.trans i2)
    ·exact .inr (.inl ⟨i1.trans g1, g2⟩)
    ·exact .inr (.inr ⟨i1.trans g1, g2⟩)
   ·rcases i2 with i2 | ⟨g1, g2⟩ | ⟨g1, g2⟩
    ·exact .inr (.inl ⟨h1, h2.trans i2⟩)
    ·exact .inr (.inl ⟨h1, g2⟩)
    ·exact .inl (h1.trans g2)
   ·rcases i2 with i2 | ⟨g1, g2⟩ | ⟨g1, g2⟩
    ·exact .inr (.inr ⟨h1, h2.trans i2⟩)
    ·exact .inl (h1.trans g2)
    ·exact .inr (.inr ⟨h1, g2⟩)
 ·have up : ∀ {x y : Int}, Cn E x y → Cn (adE E a b) x y := fun h => h.sub fun _ _ g => .edge (.inl g);rintro (h | ⟨h1, h2⟩ | ⟨h1, h2⟩)
  ·exact up h
  ·exact (up h1).trans ((Cn.edge (.inr ⟨rfl, rfl⟩)).trans (up h2))
  ·exact (up h1).trans ((Cn.symm (.edge (.inr ⟨rfl, rfl⟩))).trans (up h2))
def RepOk (has : Int → Bool) (rp : Int → Int) (E : Int → Int → Prop) : Prop := ∀ u v, has u = true → has v = true → (rp u = rp v ↔ Cn E u v)
theorem RepOk.congr {has : Int → Bool} {rp : Int → Int} {E E' : Int → Int → Prop} (h : RepOk has rp E) (h1 : ∀ a b, E a b → Cn E' a b) (h2 : ∀ a b, E' a b → Cn E a b) : RepOk has rp E' :=
 fun u v hu hv => (h u v hu hv).trans ⟨fun g => g.sub h1, fun g => g.sub h2⟩
end Go.Proofs

namespace Go.Proofs
open Go.Sk
end Go.Proofs

namespace Go.Proofs
open Go.Sk
end Go.Proofs

namespace Go.Proofs
open Go.Sk
def LB (n c : Nat) (l : List Lk) : Prop := l.length + c ≤ n + 20 ∧ ∀ i, (lk l i).lv.length + c ≤ 60
theorem LB.mono {n c c' : Nat} {l : List Lk} (h : LB n c l) (hc : c' ≤ c) : LB n c' l := ⟨by have := h.1; omega, fun i => by have := h.2 i; omega⟩
theorem LB.ok {n c : Nat} {l : List Lk} (h : LB n c l) : lvOk l := fun i _ => by have := h.2 i; omega
theorem lkR_renS (ρ : Nat → Nat) (g : Bool) (f : Nat) (ν : Nat → Nat) (l : List Lk) (i : Nat) : SV.renPL (shP ρ f (up ν)) (lkR g f l i) = [.int .i64 (lk l i).id, .slc g (ρ f) (ν i + 1) 0 (lk l i).lv.length] := by
 simp [lkR, SV.renPL, SV.renP, shP, up]
theorem lkF_givesI (π : Pn) (l l' : List Lk) (i j : Nat) (e : lk l' i = lk l j) : zp π (lkF true l j) (lkF true l' i) := ⟨fun h2 => ⟨h2, rfl⟩, rfl, by rw [e]; exact Nat.le_refl _, fun q _ => by rw [e]; exact (lvs_renP π _ q).symm⟩
theorem lkF_givesL (π : Pn) (l l' : List Lk) (i j : Nat) (e : (lk l' i).lv.length ≤ (lk l j).lv.length) (h : ∀ q, q < (lk l' i).lv.length → pI (lk l' i).lv q = pI (lk l j).lv q) : zp π (lkF true l j) (lkF true l' i) := ⟨fun h2 => ⟨h2, rfl⟩, rfl, e, fun q hq => by rw [lvs_renP]; show lvs (lk l j).lv q = lvs (lk l' i).lv q; rw [lvs, lvs, h q hq]⟩
theorem lkF_takeP (π : Pn) (l : List Lk) (k u i : Nat) (hk : k < l.length) : zp π (lkF true l i) (lkF true (l.set k ⟨(lk l k).id, (lk l k).lv.take u⟩) i) := by
 refine lkF_givesL _ _ _ _ _ ?_ fun q hq => ?_
 ·rw [lk_set' _ _ _ _ hk]
  split
  ·rename_i e; subst e; simp; omega
  ·exact Nat.le_refl _
 ·rw [lk_set' _ _ _ _ hk] at hq ⊢
  split
  ·rename_i e; subst e;rw [if_pos rfl] at hq;simp at hq;dsimp only;rw [pI_lt (by simp; omega), pI_lt (by omega)]; simp
  ·rfl
theorem lk_erase {l : List Lk} {k i : Nat} (hi : i < l.length - 1) : lk (l.eraseIdx k) i = lk l (if i < k then i else i + 1) := by
 rw [lk, lk, List.getD_eq_getElem?_getD, List.getD_eq_getElem?_getD, List.getElem?_eraseIdx]
 split <;> rfl
theorem lb_set {n c : Nat} {l : List Lk} (h : LB n (c + 1) l) {k : Nat} (hk : k < l.length) {x : Lk} (hx : x.lv.length ≤ (lk l k).lv.length + 1) : LB n c (l.set k x) := by
 refine ⟨by rw [List.length_set]; have := h.1; omega, fun i => ?_⟩;rw [lk_set' _ _ _ _ hk]
 split
 ·have := h.2 k; omega
 ·have := h.2 i; omega
theorem rowsOf_lv1 (a b : Int) : z50 2 1 [SV.int .i64 a, SV.int .i64 b] = lvs [(a, b)] := rowsOf_lv a b
theorem IoFm.s {a : Prop} (h : a := by simp [SV.wkL, SV.wk, z14, z1e, Sk.get, Sk.find, Sk.one, z9.eq_1, z9.eq_2, z9.eq_3, zi, z15, zr, SV.renL, SV.ren, Obj.lt_row, SV.ltL, SV.lt, z5k, z2k, zk, z1q, Obj.own.eq_1, Obj.own.eq_2, Obj.own.eq_3, Obj.own.eq_4, zy, ze, zl, z1c, nds, Nd.sv, zz, zt, z3j, z3k, z1x, z1a, z2a, z1k, z1f, z1z, zr, z2g, z4r, zf, z1p, ints]) : a := h
theorem IoFm.t {s e : SV} {H g : AH} (q : AfQ s e H g := by constructor <;> (simp only [z22, after, z4e, id, z1v, reduceCtorEq, Nat.reduceEqDiff, Nat.one_ne_zero, Nat.zero_ne_one, z4g, z24, zk, Sk.one, Obj.own.eq_1, Obj.own.eq_2, Obj.own.eq_3, Obj.own.eq_4, Obj.ren.eq_1, Obj.ren.eq_2, Obj.ren_blk, Row.ren, SV.ren, SV.renL, List.map_cons, List.map_nil, List.nil_append, List.cons_append, ↓reduceIte, Nat.reduceLT, Nat.reduceAdd, Nat.reduceSub, Nat.reduceEqDiff, Nat.add_zero, Bool.false_eq_true, Tryd.tyInt, Tryd.szInt, Tryd.tyStr, Tryd.tyU32, Tryd.tyNode, Tryd.szNode, Tryd.zNode, Tryd.tyNodes, Tryd.szNodes, zy, ze, nds, Nd.sv, Tryd.tyLink, Tryd.szLink, Tryd.zLink, Tryd.tyLinks, Tryd.szLinks, Tryd.tyLinked, Tryd.szLinked, Tryd.tyLinkeds, Tryd.szLinkeds, Tryd.zLinked, z4l, Tryd.tyErr, zf, z1p, z3p, z2l, z51, z6c, z55, z5y, z6d, zf, z1p]; exact rfl)) : AfQ s e H g := q
theorem IoFm.c1 {P : Program} {f : FuncId} {args args0 : List SV} {H0 H Y g : AH} {X e : SV} {dr : Bool} {W : List Nat} {k : SV → AH → Prop} (hF : zd P f args0 H0 fun s H1 => s = X ∧ H1 = Y) (ρ : Nat → Nat) (h : k e g) (q : CaQ args args0 ρ H0 H dr W := by constructor <;> exact IoFm.s) (r : CaR ρ H0 H := by exact ⟨rfl, rfl⟩) (b : AfQ (X.ren (z4e H0.nxt H.nxt ρ)) e (after H0.nxt ρ H0 H Y) g := by exact IoFm.t) : z45 P f args H dr W k := c1S hF ρ h q r b
theorem IoFm.ca {P : Program} {f : FuncId} {args args0 : List SV} {H0 H : AH} {R : SV → AH → Prop} {dr : Bool} {W : List Nat} {k : SV → AH → Prop} (hF : zd P f args0 H0 R) (ρ : Nat → Nat) (hk : ∀ s0 H1, R s0 H1 → ∀ s1 H2, s1 = s0.ren (z4e H0.nxt H.nxt ρ) → H2 = after H0.nxt ρ H0 H H1 → k s1 H2) (q : CaQ args args0 ρ H0 H dr W := by constructor <;> exact IoFm.s) (r : CaR ρ H0 H := by exact ⟨rfl, rfl⟩) : z45 P f args H dr W k := caS hF ρ hk q r
theorem IoFm.af {s e e1 : SV} {H g g1 : AH} (h1 : s = e) (h2 : H = g) (q : AfQ e e1 g g1 := by exact IoFm.t) : s = e1 ∧ H = g1 := ⟨h1.trans q.s, h2.trans q.h⟩
theorem IoFm.g {X : Cx} {fr : Fr} {H : AH} {fr1 : Fr} {H1 : AH} (ρ : Nat → Nat) (q : GvQ X ρ fr H fr1 H1 := by constructor <;> exact IoFm.s) (r : GvR X ρ H1 := by exact ⟨rfl, rfl, Nat.le_of_ble_eq_true rfl, rfl⟩) : z2d X ρ fr H fr1 H1 := gvS ρ q r
theorem IoFm.u {a : Prop} (h : a := by simp [z54, Sk.get, SV.renP, SV.renPL, mvP, shP, SV.lt, SV.ltL, z5k, Sk.one, z2k, Sk.find, Obj.own.eq_1, Obj.own.eq_2, Obj.own.eq_3, Obj.own.eq_4, zy, ze, zl, z1c, nds, Nd.sv, zz, zt, z3j, z3k, z1x, z1a, z2a, z1k, z1f, z1z, zr, z2g, z4r, zf, z1p, ints]) : a := h
theorem IoFm.gp {X : Cx} {fr : Fr} {H : AH} {fr1 : Fr} {H1 : AH} (ρ : Nat → Nat) (f j a : Nat) (a2 : z18 ρ f j a H1.nxt H.os H1.os) (q : GpQ X (mvP ρ f j a) fr H fr1 H1 := by constructor <;> exact IoFm.u) (r : GpR X ρ f H1 := by exact ⟨rfl, rfl, Nat.le_of_ble_eq_true rfl, Nat.le_of_ble_eq_true rfl, rfl⟩) (t : GpA X ρ a H1 := by exact ⟨rfl, Nat.le_of_ble_eq_true rfl⟩) : z59 X (mvP ρ f j a) fr H fr1 H1 := gpS ρ f j a a2 q r t
theorem IoFm.gs {X : Cx} {fr : Fr} {H : AH} {fr1 : Fr} {H1 : AH} (ρ : Nat → Nat) (f : Nat) (μ : Nat → Nat) (hμ : ∀ a b, μ a = μ b → a = b) (a2 : z3l ρ f μ H1.nxt H.os H1.os) (q : GpQ X (shP ρ f μ) fr H fr1 H1 := by constructor <;> exact IoFm.u) (r : GpR X ρ f H1 := by exact ⟨rfl, rfl, Nat.le_of_ble_eq_true rfl, Nat.le_of_ble_eq_true rfl, rfl⟩) : z59 X (shP ρ f μ) fr H fr1 H1 := gsS ρ f μ hμ a2 q r
theorem z1u {a c d : Prop} (r : a → c) (h : d) (e : Sd a d := by simp only [stp, isQ, z40, Sk.get, Sk.put, z1s, zm, ↓reduceIte, reduceCtorEq, Nat.reduceEqDiff, true_and, and_true, true_implies, implies_true, forall_const, imp_self, Bool.false_eq_true, false_implies, false_and, and_false, Bool.false_and, Bool.and_false, qop, grdK, List.getElem?_toArray, List.getElem?_cons_zero, List.getElem?_cons_succ, beq_true, beq_false, beq_self_eq_true, Bool.and_true, Bool.true_and, Bool.not_true, Bool.not_false, Bool.not_not, Bool.and_eq_true, Bool.not_eq_true', Bool.not_eq_false', zu, Bool.cond_true_left, Bool.cond_false_left, Bool.cond_true_right, Bool.cond_false_right, cond_true, cond_false, and_imp, z3q, Sk.find, Sk.one, z1j, z1l, Kd.agg, List.contains_nil, List.contains_cons, Nat.reduceBEq, Bool.or_false, Bool.true_or, Bool.or_true, Bool.false_or, ite_self, Nat.lt_one_iff, Nat.zero_add, Nat.add_zero, Nat.reduceAdd, Nat.reduceMul, Nat.reduceSub, Nat.reduceLT, Nat.reduceLeDiff, Nat.le_refl, Nat.zero_le, ne_eq, Nat.one_ne_zero, not_false_eq_true, not_true_eq_false, Int.toNat_natCast, Int.reduceToNat, List.length_cons, List.length_nil, and_self, Kd.slice.injEq, exists_eq', Option.map_some, Option.some.injEq, List.drop_zero, List.drop_succ_cons, List.take_succ_cons, List.take_zero, List.take_nil, List.drop_nil, List.nil_append, List.cons_append, List.append_nil, List.append_eq, List.all_cons, List.all_nil, spl, z1y, SV.cells, SV.scalar, binK, z4u, z4t, intK, z2i, strK, z2r, z4s, z3d, unK, z4q, z2v, z2w, z4o, z2x, z2y, optK, z31, bndK, Option.isSome_some, Option.isSome_none, Nat.sub_zero, or_true, true_or, z2q, z2t, z4f, z35, lenK, z11.len, zg.n, z4a, mmK, z1o, eop, z4y, srcK, z13, z6x, z36, capK, z4z, z1i, z1v, z2n, boxK, z1m, z38, z2o, updF, mkK, z4m, z11.ofKd, zg.ofKd, z4n, z11.add, z11.okKd, zg.put, zg.okKd, zg.okP, z2z, z11.has, zg.get, zg.z, Tryd.tyInt, Tryd.szInt, Tryd.tyStr, Tryd.tyU32, Tryd.tyNode, Tryd.szNode, Tryd.zNode, Tryd.tyNodes, Tryd.szNodes, zy, ze, nds, Nd.sv, Tryd.tyLink, Tryd.szLink, Tryd.zLink, Tryd.tyLinks, Tryd.szLinks, Tryd.tyLinked, Tryd.szLinked, Tryd.tyLinkeds, Tryd.szLinkeds, Tryd.zLinked, lkR_ap, lkF_ap, z4l, Tryd.tyErr, zf, z1p, ints]; (repeat (with_reducible apply Sd.and; exact za)); exact Sd.rfl) : c := r (e.f h)
set_option maxHeartbeats 4000000 in
theorem links_spec (ls : List Int) (m at_ : Nat) (hx : ls.length ≤ 9223372036854775807) (hm : m ≤ ls.length) (ha : at_ ≤ m) (xs : List Nd) (n : Nat) (hn : xs.length = n) (hnx : n ≤ 1000) (h c : Int) (hc : 0 ≤ c ∧ c ≤ 10) :
  zd Tryd.prog 15 [.ptr 0 0 0 0, .slc false 2 0 0 n, .int .i64 h, .int .i64 c] ⟨3, [(0, zf 1 m at_), (1, z1p ls), (2, Sk.one (.row ⟨false, false, 55, 3, n, nds xs⟩))]⟩
   (fun s H1 => ∃ (l : List Lk) (at' : Nat), at' ≤ m ∧ LB n 0 l ∧ s = .slc true 3 0 0 l.length ∧ H1 = ⟨5, [(3, Sk.one (.row ⟨true, false, 42, 2, l.length, lkR true 4 l⟩)), (4, (l.length + 1, fam true 45 2 (lkF true l))), (0, zf 1 m at')]⟩) := by
 subst hn;refine zd.ofC false 141 [.tmp 8] Tryd.func15 rfl rfl Tryd.ntmps15 Tryd.results15 rfl ?_;intro w0 own0 β0 Q hQ hQn;simp only [z1r];refine sg [0, 1, 2, 3] rfl ?_;intro K hK;refine z1u z5 ?_;refine z7 (z6 (hK _ _ ?_)); clear hK K;refine sg [0, 1, 3, 9] rfl ?_;intro K hK;iterate 2 (refine z1u z5 ?_)
 refine z1u z5 ?_;refine IoFm.c1 (z68 xs xs.length rfl h (by omega)) (fun q => q + 2) ?_;iterate 5 (refine z1u z5 ?_)
 refine z7 (z6 (hK _ _ ?_)); clear hK K;refine Cs.seq ?_;refine sg [0, 1, 9, 11] rfl ?_;intro K hK;iterate 3 (refine z1u z5 ?_)
 refine z1u z5 ?_;refine IoFm.ca (z21 ls m at_ (c + 1) hx hm ha (by omega)) (id) ?_;rintro s0 H0 ⟨v, at1, h1, h2, h3, h4, rfl, rfl⟩ s1 H1 hs1 hH1;obtain ⟨hs2, hH2⟩ := IoFm.af hs1 hH1;clear hs1 hH1;subst hs2 hH2;repeat (with_reducible apply ai;exact za)
 refine z1u z5 ?_;refine z7 (z6 (hK _ _ ?_)); clear hK K;have hv := h3 (by omega);obtain ⟨v, rfl⟩ := Int.eq_ofNat_of_zero_le h2;have hb := bldR_facts xs h
 have hL0 : LB xs.length v (z5d xs h) := by
  refine ⟨by omega, fun i => ?_⟩
  have : (lk (z5d xs h) i).lv.length ≤ 17 := by
   by_cases g : i < (z5d xs h).length
   ·by_cases e : bldE xs h = 0
    ·have e' := e;rw [z5d, if_pos e] at g ⊢;rw [z12] at g;rw [z3g _ g]
     have : h ≤ 16 ∧ 0 ≤ h := by
      rw [bldE] at e'
      split at e'
      ·exact absurd e' (by decide)
      ·split at e'
       ·exact absurd e' (by decide)
       ·omega
     simp; omega
    ·rw [z5d, if_neg e] at g; simp at g
   ·rw [lk_ge (by omega)]; exact Nat.zero_le _
  omega
 refine Cs.block ?_;intro Q0 hN0 hX0 hR0 hE0;refine Cs.loop (σ := List Lk × Nat × Nat) (fun σ => LB xs.length σ.2.1 σ.1 ∧ σ.2.2 ≤ m ∧ σ.2.1 ≤ 11) (fun σ => σ.2.1) (fun σ => [(0, .ptr 0 0 0 0), (1, .slc false 2 0 0 xs.length), (9, .slc true 3 0 0 σ.1.length), (11, .int .i64 σ.2.1)]) (fun σ => ⟨5, [(0, zf 1 m σ.2.2), (3, Sk.one (.row ⟨true, false, 42, 2, σ.1.length, lkR true 4 σ.1⟩)), (4, (σ.1.length + 1, fam true 45 2 (lkF true σ.1))), (1, z1p ls), (2, Sk.one (.row ⟨false, false, 55, 3, xs.length, nds xs⟩))]⟩) (z5d xs h, v, at1) ⟨hL0, h1, by dsimp only; omega⟩ (ρ := id) (IoFm.g id) ?_;rintro ⟨l, c1, at2⟩ hi QL1 hL1 hRL1 hEL1;refine Cs.seq ?_;refine sg [0, 1, 9, 11, 31] rfl ?_;intro K hK;iterate 7 (refine z1u z5 ?_)
 refine z7 (z6 (hK _ _ ?_)); clear hK K;refine Cs.cond _ rfl ?_ ?_
 ·intro h31;obtain ⟨hi1, hi2, hi3⟩ := hi;dsimp only at hi1 hi2 hi3;have h31' : 0 < c1 ∧ 0 < l.length := by simpa using h31
  have hl1 := hi1.1;have hl2 := hi1.2;refine Cs.skip ?_;refine Cs.seq ?_;refine Cs.block ?_;intro Q1 hN1 hX1 hR1 hE1;refine sg [0, 1, 9, 11, 12] rfl ?_;intro K hK;iterate 3 (refine z1u z5 ?_)
  refine z1u z5 ?_;refine IoFm.ca (z21 ls m at2 l.length hx hm hi2 (by omega)) (id) ?_;rintro s0 H0 ⟨k, at3, p1, p2, p3, p4, rfl, rfl⟩ s1 H1 hs1 hH1;obtain ⟨hs2, hH2⟩ := IoFm.af hs1 hH1;clear hs1 hH1;subst hs2 hH2;repeat (with_reducible apply ai;exact za)
  have hk := p3 (by omega);obtain ⟨k, rfl⟩ := Int.eq_ofNat_of_zero_le p2;have hl2k := hl2 k;refine z1u z5 ?_;refine z7 (z6 (hK _ _ ?_)); clear hK K;refine sg [0, 1, 9, 11, 12, 39] rfl ?_;intro K hK;refine z1u z5 ?_;refine z1u z5 ?_;refine IoFm.ca (z21 ls m at3 7 hx hm p1 (by omega)) (id) ?_;rintro s0 H0 ⟨w, at4, q1, q2, q3, q4, rfl, rfl⟩ s1 H1 hs1 hH1;obtain ⟨hs2, hH2⟩ := IoFm.af hs1 hH1;clear hs1 hH1;subst hs2 hH2;repeat (with_reducible apply ai;exact za)
  refine z7 (z6 (hK _ _ ?_)); clear hK K;refine Cs.block ?_;intro Q2 hN2 hX2 hR2 hE2;refine sg [0, 1, 9, 11, 12, 39, 71] rfl ?_;intro K hK;iterate 2 (refine z1u z5 ?_)
  refine z7 (z6 (hK _ _ ?_)); clear hK K;refine Cs.cond _ rfl ?_ ?_
  ·intro h71
   try replace h71 := z8 h71
   refine Cs.regDraw [0, 1, 9, 11] [0, 1, 2, 3, 4, 5, 6, 7, 8, 9] [[], [], [], [0, 1, 2], [], [], [5], [4, 5, 6], [0, 1, 2, 3, 4, 5, 6, 7], [0, 1, 2, 3, 4, 5, 6, 7, 8]] [[], [], [], [], [], [], [], [], [3], []] [[], [], [], [], [], [], [], [], [3], [3]] Tryd.mo rfl rfl rfl (by kernel_rfl) (by kernel_rfl) (by kernel_rfl) rfl (by kernel_rfl) ?_;intro K hK;iterate 8 (refine z1u (zb _ [] [] rfl rfl rfl) ?_)
   refine z1u (zb _ [3] [3] rfl rfl rfl) ?_;refine z1u (zb _ [] [3] rfl rfl rfl) ?_;refine z2b (z6 (hK _ _ ?_)); clear hK K;refine Cs.nil ?_;refine hN2 _ _ ?_;refine Cs.nil ?_;refine hN1 _ _ ?_;have hel : (l.eraseIdx k).length = l.length - 1 := by rw [List.length_eraseIdx, if_pos (by omega)]
   have hk1 : ((k : Int) + 1).toNat = k + 1 := by omega
   rw [hk1, show k + (l.length - (k + 1)) = l.length - 1 from by omega]
   have hout : ∀ q, q < l.length - 1 → app (lkR true 4 l) k (srcF (lkR true 4 l) (k + 1)) q = SV.renPL (shP (fun q => if q = 3 then 5 else q) 4 (up fun i => if i < k then i else i + 1)) (lkR true 4 (l.eraseIdx k) q) := fun q hq => by
    rw [lkR_renS, lk_erase hq, app]
    split
    ·rename_i e; rfl
    ·rename_i e;rw [srcF, show k + 1 + (q - k) = q + 1 by omega]; rfl
   refine Cs.giveP (fr' := [(0, .ptr 0 0 0 0), (1, .slc false 2 0 0 xs.length), (9, .slc true 3 0 0 (l.length - 1)), (11, .int .i64 c1)]) (H' := ⟨5, [(0, zf 1 m at4), (3, Sk.one (.row ⟨true, false, 42, 2, (l.length - 1), lkR true 4 (l.eraseIdx k)⟩)), (4, ((l.length - 1) + 1, fam true 45 2 (lkF true (l.eraseIdx k)))), (1, z1p ls), (2, Sk.one (.row ⟨false, false, 55, 3, xs.length, nds xs⟩))]⟩) _ (IoFm.gs (fun q => if q = 3 then 5 else q) (4) (up fun i => if i < k then i else i + 1) (up_inj (fun a b e => by split at e <;> split at e <;> omega)) (z3l.cons1 rfl Nat.zero_lt_one (by decide) (zw.of (fun _ => ⟨rfl, rfl⟩) rfl (Nat.le_refl _) (fun _ _ => rfl)) (Obj.lt_row.2 fun q _ => by simp [SV.ltL, SV.lt]) (Nat.le_of_ble_eq_true rfl) (z3l.cons1 rfl Nat.zero_lt_one (by decide) (zw.of (fun _ => ⟨rfl, rfl⟩) rfl (Nat.le_refl _) (hout)) (Obj.lt_row.2 fun q _ => (z2a _ _ _ _ q).2 (Nat.le_of_ble_eq_true rfl)) (Nat.le_of_ble_eq_true rfl) (z3l.consF rfl ⟨fun _ => ⟨rfl, rfl⟩, rfl⟩ (fun i hi => ⟨by split <;> omega, lkF_givesI _ _ _ _ _ (lk_erase (by omega)), z1f _ _ _ _⟩) (Nat.le_of_ble_eq_true rfl) (z3l.cons1 rfl Nat.zero_lt_one (by decide) (zw.of (fun h => (by cases h)) rfl (Nat.le_refl _) (fun q _ => (ints_renP _ _ q).symm)) (Obj.lt_row.2 fun q _ => z37 _ _ q) (Nat.le_of_ble_eq_true rfl) (z3l.cons1 rfl Nat.zero_lt_one (by decide) (zw.of (fun h => (by cases h)) rfl (Nat.le_refl _) (fun q _ => (z75 _ _ q).symm)) (Obj.lt_row.2 fun q _ => z1c _ _ q) (Nat.le_of_ble_eq_true rfl) trivial)))))) ?_
   refine Cs.reg [0, 1, 9, 11] rfl ?_;intro K hK;iterate 3 (refine z1u z5 ?_)
   refine z7 (z6 (hK _ _ ?_)); clear hK K;refine Cs.nil ?_;refine hL1 _ _ ?_;rw [show (c1 : Int) - 1 = ((c1 - 1 : Nat) : Int) from by omega];refine ⟨(l.eraseIdx k, c1 - 1, at4), ⟨⟨⟨by dsimp only; rw [hel]; omega, fun i => ?_⟩, q1, by dsimp only; omega⟩, by dsimp only; omega⟩, id, ?_⟩
   ·dsimp only
    by_cases g : i < l.length - 1
    ·rw [lk_erase g]; have := hl2 (if i < k then i else i + 1); omega
    ·rw [lk_ge (by omega)];have := hl2 l.length;rw [lk_ge (Nat.le_refl _)] at this;omega
   ·simp only [hel];exact (IoFm.g id)
  ·intro h71
   try replace h71 := z8 h71
   refine sg [0, 1, 9, 11, 12, 39, 82] rfl ?_;intro K hK;iterate 2 (refine z1u z5 ?_)
   refine z7 (z6 (hK _ _ ?_)); clear hK K;refine Cs.cond _ rfl ?_ ?_
   ·intro h82
    try replace h82 := z8 h82
    refine Cs.reg [0, 1, 9, 11] rfl ?_;intro K hK;iterate 3 (refine z1u z5 ?_)
    refine z1u z5 ?_;refine IoFm.ca (id_spec ls m at4 hx hm q1 xs xs.length rfl (by omega)) (id) ?_;rintro s0 H0 ⟨v1, at5, r1, rfl, rfl⟩ s1 H1 hs1 hH1;obtain ⟨hs2, hH2⟩ := IoFm.af hs1 hH1;clear hs1 hH1;subst hs2 hH2;repeat (with_reducible apply ai;exact za)
    iterate 2 (refine z1u z5 ?_)
    refine z1u z5 ?_;refine IoFm.ca (id_spec ls m at5 hx hm r1 xs xs.length rfl (by omega)) (id) ?_;rintro s0 H0 ⟨v2, at6, r2, rfl, rfl⟩ s1 H1 hs1 hH1;obtain ⟨hs2, hH2⟩ := IoFm.af hs1 hH1;clear hs1 hH1;subst hs2 hH2;repeat (with_reducible apply ai;exact za)
    iterate 2 (refine z1u z5 ?_)
    refine z1u z5 ?_;refine IoFm.ca (id_spec ls m at6 hx hm r2 xs xs.length rfl (by omega)) (id) ?_;rintro s0 H0 ⟨v3, at7, r3, rfl, rfl⟩ s1 H1 hs1 hH1;obtain ⟨hs2, hH2⟩ := IoFm.af hs1 hH1;clear hs1 hH1;subst hs2 hH2;repeat (with_reducible apply ai;exact za)
    iterate 6 (refine z1u z5 ?_)
    refine z7 (z6 (hK _ _ ?_)); clear hK K;refine Cs.nil ?_;refine hN2 _ _ ?_;refine Cs.nil ?_;refine hN1 _ _ ?_
    have hout : ∀ q, q < l.length + 1 → app (lkR true 4 l) l.length (z50 2 1 [SV.int .i64 v1, SV.slc true 5 0 0 1]) q = SV.renPL (mvP (fun q => if q = 3 then 7 else q) 4 l.length 5) (lkR true 4 (l ++ [⟨v1, [(v2, v3)]⟩]) q) := fun q hq => by
     rw [lkR_renP]
     split
     ·rename_i e; subst e;rw [app, if_neg (by omega), Nat.sub_self, lk_last]; rfl
     ·rw [lk_append (by omega), app, if_pos (by omega)]; rfl
    refine Cs.giveP (fr' := [(0, .ptr 0 0 0 0), (1, .slc false 2 0 0 xs.length), (9, .slc true 3 0 0 (l.length + 1)), (11, .int .i64 c1)]) (H' := ⟨5, [(0, zf 1 m at7), (3, Sk.one (.row ⟨true, false, 42, 2, (l.length + 1), lkR true 4 (l ++ [⟨v1, [(v2, v3)]⟩])⟩)), (4, ((l.length + 1) + 1, fam true 45 2 (lkF true (l ++ [⟨v1, [(v2, v3)]⟩])))), (1, z1p ls), (2, Sk.one (.row ⟨false, false, 55, 3, xs.length, nds xs⟩))]⟩) _ (IoFm.gp (fun q => if q = 3 then 7 else q) (4) (l.length) (5) (z18.cons1 rfl Nat.zero_lt_one (by decide) (zw.of (fun _ => ⟨rfl, rfl⟩) rfl (Nat.le_refl _) (fun _ _ => rfl)) (Obj.lt_row.2 fun q _ => by simp [SV.ltL, SV.lt]) (Nat.le_of_ble_eq_true rfl) (z18.cons1 rfl Nat.zero_lt_one (by decide) (zw.of (fun _ => ⟨rfl, rfl⟩) rfl (Nat.le_refl _) (hout)) (Obj.lt_row.2 fun q _ => (z2a _ _ _ _ q).2 (Nat.le_of_ble_eq_true rfl)) (Nat.le_of_ble_eq_true rfl) (z18.consF rfl rfl Nat.zero_lt_one ⟨fun _ => ⟨rfl, rfl⟩, rfl⟩ (Nat.succ_pos _) (fun q hq hne => ⟨by omega, z67 _ _ _ _ _ _ id (lk_append (by omega)), z1f _ _ _ _⟩) (lkF_newP _ _ _ _ _ (by rw [lk_last]; rfl) (fun q _ => by rw [lk_last, rowsOf_lv1])) (z1f _ _ _ _) (Nat.le_of_ble_eq_true rfl) (z18.cons1 rfl Nat.zero_lt_one (by decide) (zw.of (fun h => (by cases h)) rfl (Nat.le_refl _) (fun q _ => (ints_renP _ _ q).symm)) (Obj.lt_row.2 fun q _ => z37 _ _ q) (Nat.le_of_ble_eq_true rfl) (z18.cons1 rfl Nat.zero_lt_one (by decide) (zw.of (fun h => (by cases h)) rfl (Nat.le_refl _) (fun q _ => (z75 _ _ q).symm)) (Obj.lt_row.2 fun q _ => z1c _ _ q) (Nat.le_of_ble_eq_true rfl) trivial)))))) ?_
    refine Cs.reg [0, 1, 9, 11] rfl ?_;intro K hK;iterate 3 (refine z1u z5 ?_)
    refine z7 (z6 (hK _ _ ?_)); clear hK K;refine Cs.nil ?_;refine hL1 _ _ ?_;rw [show (c1 : Int) - 1 = ((c1 - 1 : Nat) : Int) from by omega];refine ⟨(l ++ [⟨v1, [(v2, v3)]⟩], c1 - 1, at7), ⟨⟨⟨by simp; omega, fun i => ?_⟩, r3, by dsimp only; omega⟩, by dsimp only; omega⟩, id, ?_⟩
    ·dsimp only;have h0 := hl2 l.length;rw [lk_ge (Nat.le_refl _)] at h0;rcases Nat.lt_trichotomy i l.length with g | g | g
     ·rw [lk_append g]; have := hl2 i; omega
     ·subst g; rw [lk_last]; simp; simp [noLk] at h0; omega
     ·rw [lk_ge (by simp; omega)]; omega
    ·simp only [List.length_append, List.length_singleton];exact (IoFm.g id)
   ·intro h82
    try replace h82 := z8 h82
    refine sg [0, 1, 9, 11, 12, 39, 99] rfl ?_;intro K hK;iterate 2 (refine z1u z5 ?_)
    refine z7 (z6 (hK _ _ ?_)); clear hK K;refine Cs.cond _ rfl ?_ ?_
    ·intro h99
     try replace h99 := z8 h99
     refine Cs.regDraw [0, 1, 9, 11] [0, 1, 2, 3, 4, 5, 6, 7, 8, 9, 10, 11, 12, 13, 14, 15, 16, 17, 18, 19] [[], [], [], [], [2, 3], [2, 3, 4], [2, 3, 4, 5], [], [], [], [8, 9], [8, 9, 10], [8, 9, 10, 11], [8, 9, 10, 11, 12], [8, 9, 10, 11, 12, 13], [7, 8, 9, 10, 11, 12, 13, 14], [2, 3, 4, 5, 6, 7, 8, 9, 10, 11, 12, 13, 14, 15], [0, 1, 2, 3, 4, 5, 6, 7, 8, 9, 10, 11, 12, 13, 14, 15, 16], [0, 1, 2, 3, 4, 5, 6, 7, 8, 9, 10, 11, 12, 13, 14, 15, 16, 17], [0, 1, 2, 3, 4, 5, 6, 7, 8, 9, 10, 11, 12, 13, 14, 15, 16, 17, 18]] [[], [], [], [], [], [], [], [], [], [], [], [], [], [], [], [0], [], [], [], [3]] [[0], [0], [0], [0], [0], [0], [0], [], [], [], [], [], [], [], [], [0], [0], [0], [0], [0, 3]] Tryd.mo rfl rfl rfl (by kernel_rfl) (by kernel_rfl) (by kernel_rfl) rfl (by kernel_rfl) ?_;intro K hK;iterate 7 (refine z1u (zb _ [] [0] rfl rfl rfl) ?_)
     iterate 8 (refine z1u (zb _ [] [] rfl rfl rfl) ?_)
     refine z1u (zb _ [0] [0] rfl rfl rfl) ?_;refine IoFm.ca (z21 ls m at4 ((lk l k).lv.length + 1) hx hm q1 (by omega)) (id) ?_;rintro s0 H0 ⟨u, at5, r1, r2, r3, r4, rfl, rfl⟩ s1 H1 hs1 hH1;obtain ⟨hs2, hH2⟩ := IoFm.af hs1 hH1;clear hs1 hH1;subst hs2 hH2;repeat (with_reducible apply ai;exact za)
     have hu := r3 (by omega);obtain ⟨u, rfl⟩ := Int.eq_ofNat_of_zero_le r2;iterate 3 (refine z1u (zb _ [] [0] rfl rfl rfl) ?_)
     refine z1u (zb _ [3] [0, 3] rfl rfl rfl) ?_;refine z2b (z6 (hK _ _ ?_)); clear hK K;refine Cs.nil ?_;refine hN2 _ _ ?_;refine Cs.nil ?_;refine hN1 _ _ ?_
     have hout : ∀ q, q < l.length → (if q = k then [SV.int .i64 (lk l k).id, SV.slc true 4 (k + 1) 0 u] else [SV.int .i64 (lk l q).id, SV.slc true 4 (q + 1) 0 (lk l q).lv.length]) = SV.renPL (shP id 4 (up fun i => i)) (lkR true 4 (l.set k ⟨(lk l k).id, (lk l k).lv.take u⟩) q) := fun q hq => by
      rw [lkR_renS, lk_set' _ _ _ _ (by omega)]
      split
      ·rename_i e; subst e;simp; omega
      ·rfl
     refine Cs.giveP (fr' := [(0, .ptr 0 0 0 0), (1, .slc false 2 0 0 xs.length), (9, .slc true 3 0 0 (l.length)), (11, .int .i64 c1)]) (H' := ⟨5, [(0, zf 1 m at5), (3, Sk.one (.row ⟨true, false, 42, 2, l.length, lkR true 4 (l.set k ⟨(lk l k).id, (lk l k).lv.take u⟩)⟩)), (4, (l.length + 1, fam true 45 2 (lkF true (l.set k ⟨(lk l k).id, (lk l k).lv.take u⟩)))), (1, z1p ls), (2, Sk.one (.row ⟨false, false, 55, 3, xs.length, nds xs⟩))]⟩) _ (IoFm.gs (id) (4) (up fun i => i) (up_inj (fun a b e => e)) (z3l.cons1 rfl Nat.zero_lt_one (by decide) (zw.of (fun _ => ⟨rfl, rfl⟩) rfl (Nat.le_refl _) (fun _ _ => rfl)) (Obj.lt_row.2 fun q _ => by simp [SV.ltL, SV.lt]) (Nat.le_of_ble_eq_true rfl) (z3l.cons1 rfl Nat.zero_lt_one (by decide) (zw.of (fun _ => ⟨rfl, rfl⟩) rfl (Nat.le_refl _) (hout)) (Obj.lt_row.2 fun q _ => (z2a _ _ _ _ q).2 (Nat.le_of_ble_eq_true rfl)) (Nat.le_of_ble_eq_true rfl) (z3l.consF rfl ⟨fun _ => ⟨rfl, rfl⟩, rfl⟩ (fun i hi => ⟨by omega, lkF_takeP _ _ _ _ _ (by omega), z1f _ _ _ _⟩) (Nat.le_of_ble_eq_true rfl) (z3l.cons1 rfl Nat.zero_lt_one (by decide) (zw.of (fun h => (by cases h)) rfl (Nat.le_refl _) (fun q _ => (ints_renP _ _ q).symm)) (Obj.lt_row.2 fun q _ => z37 _ _ q) (Nat.le_of_ble_eq_true rfl) (z3l.cons1 rfl Nat.zero_lt_one (by decide) (zw.of (fun h => (by cases h)) rfl (Nat.le_refl _) (fun q _ => (z75 _ _ q).symm)) (Obj.lt_row.2 fun q _ => z1c _ _ q) (Nat.le_of_ble_eq_true rfl) trivial)))))) ?_
     refine Cs.reg [0, 1, 9, 11] rfl ?_;intro K hK;iterate 3 (refine z1u z5 ?_)
     refine z7 (z6 (hK _ _ ?_)); clear hK K;refine Cs.nil ?_;refine hL1 _ _ ?_;rw [show (c1 : Int) - 1 = ((c1 - 1 : Nat) : Int) from by omega];refine ⟨(l.set k ⟨(lk l k).id, (lk l k).lv.take u⟩, c1 - 1, at5), ⟨⟨lb_set (by rw [Nat.sub_add_cancel (by omega)]; exact hi1) (by omega) (by simp; omega), r1, by dsimp only; omega⟩, by dsimp only; omega⟩, id, ?_⟩;simp only [List.length_set];exact (IoFm.g id)
    ·intro h99
     try replace h99 := z8 h99
     refine sg [0, 1, 9, 11, 12, 120] rfl ?_;intro K hK;iterate 2 (refine z1u z5 ?_)
     refine z7 (z6 (hK _ _ ?_)); clear hK K;refine Cs.cond _ rfl ?_ ?_
     ·intro h120
      try replace h120 := z8 h120
      refine Cs.regDraw [0, 1, 9, 11] [0, 1, 2, 3, 4, 5, 6, 7, 8, 10, 11, 9, 12, 13, 14, 15, 16, 17, 18] [[], [], [], [], [2, 3], [2, 3, 4], [2, 3, 4, 5], [], [], [7, 8], [], [], [7, 8, 9, 10, 11], [7, 8, 9, 10, 11, 12], [7, 8, 9, 10, 11, 12, 13], [2, 3, 4, 5, 6, 7, 8, 9, 10, 11, 12, 13, 14], [0, 1, 2, 3, 4, 5, 6, 7, 8, 9, 10, 11, 12, 13, 14, 15], [0, 1, 2, 3, 4, 5, 6, 7, 8, 9, 10, 11, 12, 13, 14, 15, 16], [0, 1, 2, 3, 4, 5, 6, 7, 8, 9, 10, 11, 12, 13, 14, 15, 16, 17]] [[], [], [], [], [], [], [], [], [], [0], [], [], [0], [], [], [4], [], [], [3]] [[0, 4], [0, 4], [0], [0], [0], [0], [0], [], [], [0], [0], [0], [0], [0], [0], [0, 4], [0, 4], [0, 4], [0, 3, 4]] Tryd.mo rfl rfl rfl (by kernel_rfl) (by kernel_rfl) (by kernel_rfl) rfl (by kernel_rfl) ?_;intro K hK;iterate 2 (refine z1u (zb _ [] [0, 4] rfl rfl rfl) ?_)
      iterate 5 (refine z1u (zb _ [] [0] rfl rfl rfl) ?_)
      iterate 2 (refine z1u (zb _ [] [] rfl rfl rfl) ?_)
      iterate 2 (refine z1u (zb _ [] [0] rfl rfl rfl) ?_)
      refine z1u (zb _ [0] [0] rfl rfl rfl) ?_;refine IoFm.ca (id_spec ls m at4 hx hm q1 xs xs.length rfl (by omega)) (id) ?_;rintro s0 H0 ⟨v1, at5, r1, rfl, rfl⟩ s1 H1 hs1 hH1;obtain ⟨hs2, hH2⟩ := IoFm.af hs1 hH1;clear hs1 hH1;subst hs2 hH2;repeat (with_reducible apply ai;exact za)
      refine z1u (zb _ [0] [0] rfl rfl rfl) ?_;refine IoFm.ca (id_spec ls m at5 hx hm r1 xs xs.length rfl (by omega)) (id) ?_;rintro s0 H0 ⟨v2, at6, r2, rfl, rfl⟩ s1 H1 hs1 hH1;obtain ⟨hs2, hH2⟩ := IoFm.af hs1 hH1;clear hs1 hH1;subst hs2 hH2;repeat (with_reducible apply ai;exact za)
      iterate 2 (refine z1u (zb _ [] [0] rfl rfl rfl) ?_)
      refine z1u (zb _ [4] [0, 4] rfl rfl rfl) ?_;iterate 2 (refine z1u (zb _ [] [0, 4] rfl rfl rfl) ?_)
      refine z1u (zb _ [3] [0, 3, 4] rfl rfl rfl) ?_;refine z2b (z6 (hK _ _ ?_)); clear hK K;refine Cs.nil ?_;refine hN2 _ _ ?_;refine Cs.nil ?_;refine hN1 _ _ ?_
      have hout : ∀ q, q < l.length → (if q = k then [SV.int .i64 (lk l k).id, SV.slc true 6 0 0 ((lk l k).lv.length + 1)] else lkR true 4 l q) = SV.renPL (mvP id 4 k 6) (lkR true 4 (l.set k ⟨(lk l k).id, (lk l k).lv ++ [(v1, v2)]⟩) q) := fun q hq => by
       rw [lkR_renP, lk_set' _ _ _ _ (by omega)]
       split
       ·rename_i e; subst e; simp
       ·rfl
      refine Cs.giveP (fr' := [(0, .ptr 0 0 0 0), (1, .slc false 2 0 0 xs.length), (9, .slc true 3 0 0 (l.length)), (11, .int .i64 c1)]) (H' := ⟨5, [(0, zf 1 m at6), (3, Sk.one (.row ⟨true, false, 42, 2, l.length, lkR true 4 (l.set k ⟨(lk l k).id, (lk l k).lv ++ [(v1, v2)]⟩)⟩)), (4, (l.length + 1, fam true 45 2 (lkF true (l.set k ⟨(lk l k).id, (lk l k).lv ++ [(v1, v2)]⟩)))), (1, z1p ls), (2, Sk.one (.row ⟨false, false, 55, 3, xs.length, nds xs⟩))]⟩) _ (IoFm.gp (id) (4) (k) (6) (z18.cons1 rfl Nat.zero_lt_one (by decide) (zw.of (fun _ => ⟨rfl, rfl⟩) rfl (Nat.le_refl _) (fun _ _ => rfl)) (Obj.lt_row.2 fun q _ => by simp [SV.ltL, SV.lt]) (Nat.le_of_ble_eq_true rfl) (z18.cons1 rfl Nat.zero_lt_one (by decide) (zw.of (fun _ => ⟨rfl, rfl⟩) rfl (Nat.le_refl _) (hout)) (Obj.lt_row.2 fun q _ => (z2a _ _ _ _ q).2 (Nat.le_of_ble_eq_true rfl)) (Nat.le_of_ble_eq_true rfl) (z18.consF rfl rfl Nat.zero_lt_one ⟨fun _ => ⟨rfl, rfl⟩, rfl⟩ (Nat.succ_pos _) (fun q hq hne => ⟨by omega, by rw [if_neg hne]; exact z67 _ _ _ _ _ _ id (by rw [lk_set' _ _ _ _ (by omega), if_neg hne]), z1f _ _ _ _⟩) (lkF_newP _ _ _ _ _ (by rw [lk_set' _ _ _ _ (by omega), if_pos rfl]; simp) (fun q _ => by rw [lk_set' _ _ _ _ (by omega), if_pos rfl, rowsOf_lv1, app_lvs])) (z1f _ _ _ _) (Nat.le_of_ble_eq_true rfl) (z18.cons1 rfl Nat.zero_lt_one (by decide) (zw.of (fun h => (by cases h)) rfl (Nat.le_refl _) (fun q _ => (ints_renP _ _ q).symm)) (Obj.lt_row.2 fun q _ => z37 _ _ q) (Nat.le_of_ble_eq_true rfl) (z18.cons1 rfl Nat.zero_lt_one (by decide) (zw.of (fun h => (by cases h)) rfl (Nat.le_refl _) (fun q _ => (z75 _ _ q).symm)) (Obj.lt_row.2 fun q _ => z1c _ _ q) (Nat.le_of_ble_eq_true rfl) trivial)))))) ?_
      refine Cs.reg [0, 1, 9, 11] rfl ?_;intro K hK;iterate 3 (refine z1u z5 ?_)
      refine z7 (z6 (hK _ _ ?_)); clear hK K;refine Cs.nil ?_;refine hL1 _ _ ?_;rw [show (c1 : Int) - 1 = ((c1 - 1 : Nat) : Int) from by omega];refine ⟨(l.set k ⟨(lk l k).id, (lk l k).lv ++ [(v1, v2)]⟩, c1 - 1, at6), ⟨⟨lb_set (by rw [Nat.sub_add_cancel (by omega)]; exact hi1) (by omega) (by simp), r2, by dsimp only; omega⟩, by dsimp only; omega⟩, id, ?_⟩;simp only [List.length_set];exact (IoFm.g id)
     ·intro h120
      try replace h120 := z8 h120
      refine sg [0, 1, 9, 11, 12, 13] rfl ?_;intro K hK;iterate 7 (refine z1u z5 ?_)
      refine z7 (z6 (hK _ _ ?_)); clear hK K;refine sg [0, 1, 9, 11, 12, 13, 47] rfl ?_;intro K hK;iterate 2 (refine z1u z5 ?_)
      refine z7 (z6 (hK _ _ ?_)); clear hK K;refine Cs.cond _ rfl ?_ ?_
      ·intro h47;replace h47 := z8 h47;refine Cs.seq ?_;refine Cs.regDraw [0, 1, 9, 11, 14] [0, 1, 2, 3, 4, 5, 6, 7, 8, 9] [[], [], [0, 1], [0, 1, 2], [0, 1, 2, 3], [], [], [5, 6], [0, 1, 2, 3, 4, 5, 6, 7], [0, 1, 2, 3, 4, 5, 6, 7, 8]] [[], [], [], [], [], [], [], [0], [], []] [[0], [0], [0], [0], [0], [], [], [0], [0], [0]] Tryd.mo rfl rfl rfl (by kernel_rfl) (by kernel_rfl) (by kernel_rfl) rfl (by kernel_rfl) ?_;intro K hK;iterate 5 (refine z1u (zb _ [] [0] rfl rfl rfl) ?_)
       iterate 2 (refine z1u (zb _ [] [] rfl rfl rfl) ?_)
       refine z1u (zb _ [0] [0] rfl rfl rfl) ?_;refine IoFm.ca (z21 ls m at4 (lk l k).lv.length hx hm q1 (by omega)) (id) ?_;rintro s0 H0 ⟨u, at5, r1, r2, r3, r4, rfl, rfl⟩ s1 H1 hs1 hH1;obtain ⟨hs2, hH2⟩ := IoFm.af hs1 hH1;clear hs1 hH1;subst hs2 hH2;repeat (with_reducible apply ai;exact za)
       have hu := r3 (by omega);obtain ⟨u, rfl⟩ := Int.eq_ofNat_of_zero_le r2;iterate 2 (refine z1u (zb _ [] [0] rfl rfl rfl) ?_)
       refine z2b (z6 (hK _ _ ?_)); clear hK K;refine sg [0, 1, 9, 11, 14, 58] rfl ?_;intro K hK;refine z1u z5 ?_;refine z1u z5 ?_;refine IoFm.ca (bool_spec ls m at5 2 hx hm r1 (by omega) (by omega)) (id) ?_;rintro s0 H0 ⟨b, at6, s1, rfl, rfl⟩ s1 H1 hs1 hH1;obtain ⟨hs2, hH2⟩ := IoFm.af hs1 hH1;clear hs1 hH1;subst hs2 hH2;repeat (with_reducible apply ai;exact za)
       refine z7 (z6 (hK _ _ ?_)); clear hK K;refine Cs.cond _ rfl ?_ ?_
       ·intro h58
        try replace h58 := z8 h58
        refine Cs.reg [0, 1, 9, 11] rfl ?_;intro K hK;iterate 3 (refine z1u z5 ?_)
        refine z1u z5 ?_;refine IoFm.ca (id_spec ls m at6 hx hm s1 xs xs.length rfl (by omega)) (id) ?_;rintro s0 H0 ⟨v1, at7, t1, rfl, rfl⟩ s1 H1 hs1 hH1;obtain ⟨hs2, hH2⟩ := IoFm.af hs1 hH1;clear hs1 hH1;subst hs2 hH2;repeat (with_reducible apply ai;exact za)
        iterate 3 (refine z1u z5 ?_)
        rw [lkF_setLk (by omega) (by omega)];repeat (with_reducible apply ai;exact za)
        refine z7 (z6 (hK _ _ ?_)); clear hK K;refine Cs.nil ?_;refine hN2 _ _ ?_;refine Cs.nil ?_;refine hN1 _ _ ?_;refine Cs.reg [0, 1, 9, 11] rfl ?_;intro K hK;iterate 3 (refine z1u z5 ?_)
        refine z7 (z6 (hK _ _ ?_)); clear hK K;refine Cs.nil ?_;refine hL1 _ _ ?_;have hsh := z63 l k u v1;rw [show (c1 : Int) - 1 = ((c1 - 1 : Nat) : Int) from by omega];refine ⟨(setLk l k u v1, c1 - 1, at7), ⟨⟨lb_set (by rw [Nat.sub_add_cancel (by omega)]; exact hi1) (by omega) (by simp), t1, by dsimp only; omega⟩, by dsimp only; omega⟩, id, ?_⟩;simp only [hsh.len, lkR_shp hsh];exact (IoFm.g id)
       ·intro h58
        try replace h58 := z8 h58
        refine Cs.reg [0, 1, 9, 11] rfl ?_;intro K hK;iterate 3 (refine z1u z5 ?_)
        refine z1u z5 ?_;refine IoFm.ca (id_spec ls m at6 hx hm s1 xs xs.length rfl (by omega)) (id) ?_;rintro s0 H0 ⟨v1, at7, t1, rfl, rfl⟩ s1 H1 hs1 hH1;obtain ⟨hs2, hH2⟩ := IoFm.af hs1 hH1;clear hs1 hH1;subst hs2 hH2;repeat (with_reducible apply ai;exact za)
        iterate 3 (refine z1u z5 ?_)
        rw [lkF_setRk (by omega) (by omega)];repeat (with_reducible apply ai;exact za)
        refine z7 (z6 (hK _ _ ?_)); clear hK K;refine Cs.nil ?_;refine hN2 _ _ ?_;refine Cs.nil ?_;refine hN1 _ _ ?_;refine Cs.reg [0, 1, 9, 11] rfl ?_;intro K hK;iterate 3 (refine z1u z5 ?_)
        refine z7 (z6 (hK _ _ ?_)); clear hK K;refine Cs.nil ?_;refine hL1 _ _ ?_;have hsh := z64 l k u v1;rw [show (c1 : Int) - 1 = ((c1 - 1 : Nat) : Int) from by omega];refine ⟨(setRk l k u v1, c1 - 1, at7), ⟨⟨lb_set (by rw [Nat.sub_add_cancel (by omega)]; exact hi1) (by omega) (by simp), t1, by dsimp only; omega⟩, by dsimp only; omega⟩, id, ?_⟩;simp only [hsh.len, lkR_shp hsh];exact (IoFm.g id)
      ·intro h47
       
       refine Cs.skip ?_;refine Cs.nil ?_;refine hN2 _ _ ?_;refine Cs.nil ?_;refine hN1 _ _ ?_;refine Cs.reg [0, 1, 9, 11] rfl ?_;intro K hK;iterate 3 (refine z1u z5 ?_)
       refine z7 (z6 (hK _ _ ?_)); clear hK K;refine Cs.nil ?_;refine hL1 _ _ ?_;rw [show (c1 : Int) - 1 = ((c1 - 1 : Nat) : Int) from by omega];exact ⟨(l, c1 - 1, at4), ⟨⟨hi1.mono (by dsimp only; omega), q1, by dsimp only; omega⟩, by dsimp only; omega⟩, id, (IoFm.g id)⟩
 ·intro h31;obtain ⟨hi1, hi2, hi3⟩ := hi;dsimp only at hi1 hi2 hi3;refine Cs.exit ?_;refine hEL1 _ _ _ ?_;refine hX0 _ _ ?_;refine sg [8] rfl ?_;intro K hK;iterate 2 (refine z1u z5 ?_)
  refine z7 (z6 (hK _ _ ?_)); clear hK K;refine Cs.ret ?_;refine hQ _ _ ?_;refine zn.mkR (fun q => if q = 3 then 3 else if q = 4 then 4 else q) (.slc true 3 0 0 l.length) (⟨5, [(3, Sk.one (.row ⟨true, false, 42, 2, l.length, lkR true 4 l⟩)), (4, (l.length + 1, fam true 45 2 (lkF true l))), (0, zf 1 m at2)]⟩) (.inl rfl) ?_;refine zc ?_;refine ⟨IoFm.s, IoFm.s, (IoFm.g (fun q => if q = 3 then 3 else if q = 4 then 4 else q)), IoFm.s, ?_⟩;exact ⟨l, at2, hi2, hi1.mono (Nat.zero_le _), by trivial⟩
end Go.Proofs

namespace Go.Proofs
open Go.Sk
theorem Tryd.tyStrs9 : z28 Tryd.prog 69 = ⟨true, .slice 9, 1, 24, []⟩ := by kernel_rfl
theorem Tryd.szStrs9 : z3s Tryd.prog 69 = 1 := by kernel_rfl
theorem Tryd.szStr9 : z3s Tryd.prog 9 = 1 := by kernel_rfl
def qA (a b : ByteArray) (i : Nat) : ByteArray := if i = 0 then a else if i = 1 then b else ⟨#[]⟩
def st2 (a b : ByteArray) : Nat → List SV := fun i => [.str (qA a b i)]
theorem st2_ap (a b : ByteArray) (i : Nat) : st2 a b i = [.str (qA a b i)] := rfl
theorem rowsOf_st2 (a b : ByteArray) : z50 1 2 [SV.str a, .str b] = st2 a b := by
 funext i
 match i with
 |0 => rfl
 |1 => rfl
 |i + 2 => rfl
theorem st2_ren (ρ : Nat → Nat) (a b : ByteArray) : (fun i => SV.renL ρ (st2 a b i)) = st2 a b := by funext i; simp [st2, SV.renL, SV.ren]
theorem st2_ren' (ρ : Nat → Nat) (a b : ByteArray) (i : Nat) : SV.renL ρ (st2 a b i) = st2 a b i := congrFun (st2_ren ρ a b) i
theorem st2_lt (m : Nat) (a b : ByteArray) (i : Nat) : SV.ltL m (st2 a b i) := by simp [st2, SV.ltL, SV.lt]
theorem Tryd.zStr9 : z52 Tryd.prog 9 = some [.str ⟨#[]⟩] := by kernel_rfl
theorem BvDm.s {a : Prop} (h : a := by simp [SV.wkL, SV.wk, z14, z1e, Sk.get, Sk.find, Sk.one, z9.eq_1, z9.eq_2, z9.eq_3, zi, z15, zr, SV.renL, SV.ren, Obj.lt_row, SV.ltL, SV.lt, z5k, z2k, zk, z1q, Obj.own.eq_1, Obj.own.eq_2, Obj.own.eq_3, Obj.own.eq_4, zy, ze, zl, z1c, nds, Nd.sv, zz, zt, z3j, z3k, z1x, z1a, z2a, z1k, z1f, z1z, zr, z2g, z4r, z1p, z30, z34, z37, zf, ints, st2_ren', st2_lt]) : a := h
theorem z6l {P : Program} {f : FuncId} {args args0 : List SV} {H0 H : AH} {R : SV → AH → Prop} {dr : Bool} {W : List Nat} {k : SV → AH → Prop} (hF : zd P f args0 H0 R) (ρ : Nat → Nat) (hk : ∀ s0 H1, R s0 H1 → ∀ s1 H2, s1 = s0.ren (z4e H0.nxt H.nxt ρ) → H2 = after H0.nxt ρ H0 H H1 → k s1 H2) (q : CaQ args args0 ρ H0 H dr W := by constructor <;> exact BvDm.s) (r : CaR ρ H0 H := by exact ⟨rfl, rfl⟩) : z45 P f args H dr W k := caS hF ρ hk q r
theorem BvDm.t {s e : SV} {H g : AH} (q : AfQ s e H g := by constructor <;> (simp only [z22, after, z4e, id, z1v, reduceCtorEq, Nat.reduceEqDiff, Nat.one_ne_zero, Nat.zero_ne_one, z4g, z24, zk, Sk.one, Obj.own.eq_1, Obj.own.eq_2, Obj.own.eq_3, Obj.own.eq_4, Obj.ren.eq_1, Obj.ren.eq_2, Obj.ren_blk, Row.ren, SV.ren, SV.renL, List.map_cons, List.map_nil, List.nil_append, List.cons_append, ↓reduceIte, Nat.reduceLT, Nat.reduceAdd, Nat.reduceSub, Nat.reduceEqDiff, Nat.add_zero, Bool.false_eq_true, Tryd.tyInt, Tryd.szInt, Tryd.tyStr, Tryd.tyU32, Tryd.tyNode, Tryd.szNode, Tryd.zNode, Tryd.tyNodes, Tryd.szNodes, zy, ze, nds, Nd.sv, Tryd.tyErr, Tryd.tyBoolB, Tryd.tyBoolW, Tryd.tyLink, Tryd.szLink, Tryd.zLink, Tryd.tyLinks, Tryd.szLinks, Tryd.tyLinked, Tryd.szLinked, Tryd.tyLinkeds, Tryd.szLinkeds, Tryd.zLinked, z4l, Tryd.tyInts, Tryd.szInts, Tryd.zInt, zf, z1p, z30, Tryd.tyTape, Tryd.szTape, Tryd.zTape, rowsOf_four9, rowsOf_six9, Tryd.tyStrs9, Tryd.szStrs9, Tryd.szStr9, Tryd.zStr9, rowsOf_st2, st2_ap, z3p, z2l, z51, z6c, z55, z5y, z6d, z3p, st2_ren]; exact rfl)) : AfQ s e H g := q
theorem z6k {s e e1 : SV} {H g g1 : AH} (h1 : s = e) (h2 : H = g) (q : AfQ e e1 g g1 := by exact BvDm.t) : s = e1 ∧ H = g1 := ⟨h1.trans q.s, h2.trans q.h⟩
theorem BvDm.c1 {P : Program} {f : FuncId} {args args0 : List SV} {H0 H Y g : AH} {X e : SV} {dr : Bool} {W : List Nat} {k : SV → AH → Prop} (hF : zd P f args0 H0 fun s H1 => s = X ∧ H1 = Y) (ρ : Nat → Nat) (h : k e g) (q : CaQ args args0 ρ H0 H dr W := by constructor <;> exact BvDm.s) (r : CaR ρ H0 H := by exact ⟨rfl, rfl⟩) (b : AfQ (X.ren (z4e H0.nxt H.nxt ρ)) e (after H0.nxt ρ H0 H Y) g := by exact BvDm.t) : z45 P f args H dr W k := c1S hF ρ h q r b
theorem BvDm.g {X : Cx} {fr : Fr} {H : AH} {fr1 : Fr} {H1 : AH} (ρ : Nat → Nat) (q : GvQ X ρ fr H fr1 H1 := by constructor <;> exact BvDm.s) (r : GvR X ρ H1 := by exact ⟨rfl, rfl, Nat.le_of_ble_eq_true rfl, rfl⟩) : z2d X ρ fr H fr1 H1 := gvS ρ q r
theorem BvDm.s_Listlength_append {a : Prop} (h : a := by simp [SV.wkL, SV.wk, z14, z1e, Sk.get, Sk.find, Sk.one, z9.eq_1, z9.eq_2, z9.eq_3, zi, z15, zr, SV.renL, SV.ren, Obj.lt_row, SV.ltL, SV.lt, z5k, z2k, zk, z1q, Obj.own.eq_1, Obj.own.eq_2, Obj.own.eq_3, Obj.own.eq_4, zy, ze, zl, z1c, nds, Nd.sv, zz, zt, z3j, z3k, z1x, z1a, z2a, z1k, z1f, z1z, zr, z2g, z4r, z1p, z30, z34, z37, zf, ints, st2_ren', st2_lt, List.length_append]) : a := h
theorem z56 {X : Cx} {fr : Fr} {H : AH} {fr1 : Fr} {H1 : AH} (ρ : Nat → Nat) (q : GvQ X ρ fr H fr1 H1 := by constructor <;> exact BvDm.s_Listlength_append) (r : GvR X ρ H1 := by exact ⟨rfl, rfl, Nat.le_of_ble_eq_true rfl, rfl⟩) : z2d X ρ fr H fr1 H1 := gvS ρ q r
theorem z1d {a c d : Prop} (r : a → c) (h : d) (e : Sd a d := by simp only [stp, isQ, z40, Sk.get, Sk.put, z1s, zm, ↓reduceIte, reduceCtorEq, Nat.reduceEqDiff, true_and, and_true, true_implies, implies_true, forall_const, imp_self, Bool.false_eq_true, false_implies, false_and, and_false, Bool.false_and, Bool.and_false, qop, grdK, List.getElem?_toArray, List.getElem?_cons_zero, List.getElem?_cons_succ, beq_true, beq_false, beq_self_eq_true, Bool.and_true, Bool.true_and, Bool.not_true, Bool.not_false, Bool.not_not, Bool.and_eq_true, Bool.not_eq_true', Bool.not_eq_false', zu, Bool.cond_true_left, Bool.cond_false_left, Bool.cond_true_right, Bool.cond_false_right, cond_true, cond_false, and_imp, z3q, Sk.find, Sk.one, z1j, z1l, Kd.agg, List.contains_nil, List.contains_cons, Nat.reduceBEq, Bool.or_false, Bool.true_or, Bool.or_true, Bool.false_or, ite_self, Nat.lt_one_iff, Nat.zero_add, Nat.add_zero, Nat.reduceAdd, Nat.reduceMul, Nat.reduceSub, Nat.reduceLT, Nat.reduceLeDiff, Nat.le_refl, Nat.zero_le, ne_eq, Nat.one_ne_zero, not_false_eq_true, not_true_eq_false, Int.toNat_natCast, Int.reduceToNat, List.length_cons, List.length_nil, and_self, Kd.slice.injEq, exists_eq', Option.map_some, Option.some.injEq, List.drop_zero, List.drop_succ_cons, List.take_succ_cons, List.take_zero, List.take_nil, List.drop_nil, List.nil_append, List.cons_append, List.append_nil, List.append_eq, List.all_cons, List.all_nil, spl, z1y, SV.cells, SV.scalar, binK, z4u, z4t, intK, z2i, strK, z2r, z4s, z3d, unK, z4q, z2v, z2w, z4o, z2x, z2y, optK, z31, bndK, Option.isSome_some, Option.isSome_none, Nat.sub_zero, or_true, true_or, z2q, z2t, z4f, z35, lenK, z11.len, zg.n, z4a, mmK, z1o, eop, z4y, srcK, z13, z6x, z36, capK, z4z, z1i, z1v, z2n, boxK, z1m, z38, z2o, updF, mkK, z4m, z11.ofKd, zg.ofKd, z4n, z11.add, z11.okKd, zg.put, zg.okKd, zg.okP, z2z, z11.has, zg.get, zg.z, Tryd.tyInt, Tryd.szInt, Tryd.tyStr, Tryd.tyU32, Tryd.tyNode, Tryd.szNode, Tryd.zNode, Tryd.tyNodes, Tryd.szNodes, zy, ze, nds, Nd.sv, Tryd.tyErr, Tryd.tyBoolB, Tryd.tyBoolW, Tryd.tyLink, Tryd.szLink, Tryd.zLink, Tryd.tyLinks, Tryd.szLinks, Tryd.tyLinked, Tryd.szLinked, Tryd.tyLinkeds, Tryd.szLinkeds, Tryd.zLinked, lkR_ap, lkF_ap, z4l, Tryd.tyInts, Tryd.szInts, Tryd.zInt, zf, z1p, z30, Tryd.tyTape, Tryd.szTape, Tryd.zTape, ints, rowsOf_four9, rowsOf_six9, Tryd.tyStrs9, Tryd.szStrs9, Tryd.szStr9, Tryd.zStr9, rowsOf_st2, st2_ap]; (repeat (with_reducible apply Sd.and; exact za)); exact Sd.rfl) : c := r (e.f h)
set_option maxHeartbeats 4000000 in
theorem merges_spec (ls : List Int) (key : ByteArray) (hx : ls.length ≤ 9223372036854775807) :
  zd Tryd.prog 8 [.slc false 0 0 0 ls.length, .str key] ⟨1, [(0, z1p ls)]⟩ (fun s _ => s = .bool true) := by
 refine zd.ofC false 166 [.tmp 4] Tryd.func8 rfl rfl Tryd.ntmps8 Tryd.results8 rfl ?_;intro w0 own0 β0 Q hQ hQn;simp only [z1r];refine sg [0, 1] rfl ?_;intro K hK;refine z1d z5 ?_;refine z7 (z6 (hK _ _ ?_)); clear hK K;refine sg [1, 5] rfl ?_;intro K hK;refine z1d z5 ?_;refine z1d z5 ?_;refine z6l (new_spec ls hx) (id) ?_;rintro s0 H0 ⟨m, hm, rfl, rfl⟩ s1 H1 hs1 hH1;obtain ⟨hs2, hH2⟩ := z6k hs1 hH1;clear hs1 hH1;subst hs2 hH2;repeat (with_reducible apply ai;exact za)
 refine z1d z5 ?_;refine z7 (z6 (hK _ _ ?_)); clear hK K;refine sg [1, 5, 6] rfl ?_;intro K hK;refine z1d z5 ?_;refine z1d z5 ?_;refine z6l (roster_spec ls m 0 9 hx hm (Nat.zero_le _) (by omega)) (fun k => if k = 0 then 1 else 0) ?_;rintro s0 H0 ⟨xs, at2, ha2, hxl, hxc, rfl, rfl⟩ s1 H1 hs1 hH1;obtain ⟨hs2, hH2⟩ := z6k hs1 hH1;clear hs1 hH1;subst hs2 hH2;repeat (with_reducible apply ai;exact za)
 refine z1d z5 ?_;refine z7 (z6 (hK _ _ ?_)); clear hK K;refine sg [1, 5, 6, 7, 8] rfl ?_;intro K hK;iterate 2 (refine z1d z5 ?_)
 refine z1d z5 ?_;refine z6l (key_spec ls m at2 hx hm ha2) (fun k => if k = 0 then 1 else 0) ?_;rintro s0 H0 ⟨q0, at3, ha3, hq, rfl, rfl⟩ s1 H1 hs1 hH1;obtain ⟨hs2, hH2⟩ := z6k hs1 hH1;clear hs1 hH1;subst hs2 hH2;repeat (with_reducible apply ai;exact za)
 have hn : xs.length ≤ 9 := by omega
 have hll : (z4w xs q0).length ≤ 9 := Nat.le_trans (List.length_filter_le _ _) hn;have hhl : (hiN xs q0).length ≤ 9 := Nat.le_trans (List.length_filter_le _ _) hn;refine z1d z5 ?_;refine BvDm.c1 (parts9_spec xs q0 xs.length rfl (by omega)) (fun _ => 2) ?_;iterate 5 (refine z1d z5 ?_)
 refine z7 (z6 (hK _ _ ?_)); clear hK K;refine Cs.seq ?_;refine sg [1, 5, 6, 7, 8, 39] rfl ?_;intro K hK;refine z1d z5 ?_;refine z1d z5 ?_;refine z6l (bool_spec ls m at3 2 hx hm ha3 (by omega) (by omega)) (fun k => if k = 0 then 1 else 0) ?_;rintro s0 H0 ⟨b1, at4, ha4, rfl, rfl⟩ s1 H1 hs1 hH1;obtain ⟨hs2, hH2⟩ := z6k hs1 hH1;clear hs1 hH1;subst hs2 hH2;repeat (with_reducible apply ai;exact za)
 refine z7 (z6 (hK _ _ ?_)); clear hK K;refine Cs.meet (σ := List Nd × List Nd × Nat) (fun σ => σ.1.length ≤ 9 ∧ σ.2.1.length ≤ 9 ∧ σ.2.2 ≤ m) (fun σ => [(1, .str key), (5, .ptr 1 0 0 0), (6, .slc true 2 0 0 xs.length), (7, .slc true 3 0 0 σ.1.length), (8, .slc true 4 0 0 σ.2.1.length)]) (fun σ => ⟨5, [(3, ze σ.1), (4, ze σ.2.1), (2, ze xs), (1, zf 0 m σ.2.2), (0, z1p ls)]⟩) _ rfl ?_ ?_ ?_
 ·intro h39 QM hM39 hR39 hE39
  
  refine sg [1, 5, 6, 7, 8] rfl ?_;intro K hK;iterate 2 (refine z1d z5 ?_)
  refine z7 (z6 (hK _ _ ?_)); clear hK K;refine sg [1, 5, 6, 7, 8, 9] rfl ?_;intro K hK;refine z1d z5 ?_;refine z7 (z6 (hK _ _ ?_)); clear hK K;refine Cs.nilO 7 55 3 (nds []) rfl ?_;dsimp only;refine Cs.nilO 8 55 3 (nds []) rfl ?_;dsimp only;refine Cs.block ?_;intro Q0 hN0 hX0 hR0 hE0;refine Cs.loop (σ := List Nd × List Nd × Nat × Nat) (fun σ => σ.1.length ≤ σ.2.2.2 ∧ σ.2.1.length ≤ σ.2.2.2 ∧ σ.2.2.1 ≤ m ∧ σ.2.2.2 ≤ xs.length) (fun σ => xs.length - σ.2.2.2) (fun σ => [(1, .str key), (5, .ptr 1 0 0 0), (6, .slc true 2 0 0 xs.length), (7, .slc true 3 0 0 σ.1.length), (8, .slc true 4 0 0 σ.2.1.length), (9, .int .i64 σ.2.2.2)]) (fun σ => ⟨5, [(3, ze σ.1), (4, ze σ.2.1), (2, ze xs), (1, zf 0 m σ.2.2.1), (0, z1p ls)]⟩) ([], [], at4, 0) ⟨Nat.le_refl _, Nat.le_refl _, ha4, Nat.zero_le _⟩ (ρ := fun k => if k = 3 then 5 else if k = 4 then 6 else k) (BvDm.g (fun k => if k = 3 then 5 else if k = 4 then 6 else k)) ?_;rintro ⟨a, b, at5, i⟩ ⟨g1, g2, g3, g4⟩ QL1 hL1 hRL1 hEL1;refine Cs.seq ?_;refine sg [1, 5, 6, 7, 8, 9, 43] rfl ?_;intro K hK;iterate 4 (refine z1d z5 ?_)
  refine z7 (z6 (hK _ _ ?_)); clear hK K;refine Cs.cond _ rfl ?_ ?_
  ·intro h43;replace h43 := z8 h43;dsimp only at g1 g2 g3 g4;have hii : i < xs.length := by omega
   refine Cs.skip ?_;refine Cs.seq ?_;refine Cs.block ?_;intro Q1 hN1 hX1 hR1 hE1;refine sg [1, 5, 6, 7, 8, 9, 47] rfl ?_;intro K hK;refine z1d z5 ?_;refine z1d z5 ?_;refine z6l (bool_spec ls m at5 2 hx hm g3 (by omega) (by omega)) (fun k => if k = 0 then 1 else 0) ?_;rintro s0 H0 ⟨b2, at6, ha6, rfl, rfl⟩ s1 H1 hs1 hH1;obtain ⟨hs2, hH2⟩ := z6k hs1 hH1;clear hs1 hH1;subst hs2 hH2;repeat (with_reducible apply ai;exact za)
   refine z7 (z6 (hK _ _ ?_)); clear hK K;refine Cs.cond _ rfl ?_ ?_
   ·intro h47
    try replace h47 := z8 h47
    refine Cs.reg [1, 5, 6, 7, 8, 9] rfl ?_;intro K hK;iterate 8 (refine z1d z5 ?_)
    refine z7 (z6 (hK _ _ ?_)); clear hK K;refine Cs.nil ?_;refine hN1 _ _ ?_;refine Cs.reg [1, 5, 6, 7, 8, 9] rfl ?_;intro K hK;iterate 3 (refine z1d z5 ?_)
    refine z7 (z6 (hK _ _ ?_)); clear hK K;refine Cs.nil ?_;refine hL1 _ _ ?_;rw [z33, z3h, show (i : Int) + 1 = ((i + 1 : Nat) : Int) from by omega];exact ⟨(a ++ [⟨(nd xs i).id, (nd xs i).key, (nd xs i).word⟩], b, at6, i + 1), ⟨⟨by simp; omega, by dsimp only; omega, ha6, by dsimp only; omega⟩, by dsimp only; omega⟩, fun k => if k = 3 then 6 else k, (z56 (fun k => if k = 3 then 6 else k))⟩
   ·intro h47
    try replace h47 := z8 h47
    refine Cs.reg [1, 5, 6, 7, 8, 9] rfl ?_;intro K hK;iterate 8 (refine z1d z5 ?_)
    refine z7 (z6 (hK _ _ ?_)); clear hK K;refine Cs.nil ?_;refine hN1 _ _ ?_;refine Cs.reg [1, 5, 6, 7, 8, 9] rfl ?_;intro K hK;iterate 3 (refine z1d z5 ?_)
    refine z7 (z6 (hK _ _ ?_)); clear hK K;refine Cs.nil ?_;refine hL1 _ _ ?_;rw [z33, z3h, show (i : Int) + 1 = ((i + 1 : Nat) : Int) from by omega];exact ⟨(a, b ++ [⟨(nd xs i).id, (nd xs i).key, (nd xs i).word⟩], at6, i + 1), ⟨⟨by dsimp only; omega, by simp; omega, ha6, by dsimp only; omega⟩, by dsimp only; omega⟩, fun k => if k = 4 then 6 else k, (z56 (fun k => if k = 4 then 6 else k))⟩
  ·intro h43;replace h43 := z8 h43;dsimp only at g1 g2 g3 g4;refine Cs.exit ?_;refine hEL1 _ _ _ ?_;refine hX0 _ _ ?_;refine Cs.nil ?_;refine hM39 _ _ ?_;exact ⟨(a, b, at5), ⟨by dsimp only; omega, by dsimp only; omega, g3⟩, id, (BvDm.g id)⟩
 ·intro h39 QM hM39 hR39 hE39
  
  refine Cs.skip ?_;refine Cs.nil ?_;refine hM39 _ _ ?_;exact ⟨(z4w xs q0, hiN xs q0, at4), ⟨hll, hhl, ha4⟩, id, (BvDm.g id)⟩
 rintro ⟨a, b, at5⟩ ⟨hal, hbl, ha5⟩;dsimp only at hal hbl ha5;refine Cs.seq ?_;refine sg [1, 5, 6, 7, 8, 63] rfl ?_;intro K hK;refine z1d z5 ?_;refine z1d z5 ?_;refine z6l (bool_spec ls m at5 6 hx hm ha5 (by omega) (by omega)) (fun k => if k = 0 then 1 else 0) ?_;rintro s0 H0 ⟨b3, at7, ha7, rfl, rfl⟩ s1 H1 hs1 hH1;obtain ⟨hs2, hH2⟩ := z6k hs1 hH1;clear hs1 hH1;subst hs2 hH2;repeat (with_reducible apply ai;exact za)
 refine z7 (z6 (hK _ _ ?_)); clear hK K;refine Cs.meet (σ := List Nd × Nat) (fun σ => σ.1.length ≤ 11 ∧ σ.2 ≤ m) (fun σ => [(1, .str key), (5, .ptr 1 0 0 0), (6, .slc true 2 0 0 xs.length), (7, .slc true 3 0 0 σ.1.length), (8, .slc true 4 0 0 b.length)]) (fun σ => ⟨5, [(3, ze σ.1), (4, ze b), (2, ze xs), (1, zf 0 m σ.2), (0, z1p ls)]⟩) _ rfl ?_ ?_ ?_
 ·intro h63 QM hM63 hR63 hE63
  
  refine Cs.reg [1, 5, 6, 7, 8] rfl ?_;intro K hK;iterate 2 (refine z1d z5 ?_)
  refine z1d z5 ?_;refine z6l (some_spec ls m at7 2 hx hm ha7 (by omega)) (fun k => if k = 0 then 1 else 0) ?_;rintro s0 H0 ⟨ys, at9, ha9, hy1, hy2, hy3, rfl, rfl⟩ s1 H1 hs1 hH1;obtain ⟨hs2, hH2⟩ := z6k hs1 hH1;clear hs1 hH1;subst hs2 hH2;repeat (with_reducible apply ai;exact za)
  iterate 2 (refine z1d z5 ?_)
  refine z7 (z6 (hK _ _ ?_)); clear hK K;refine Cs.nil ?_;refine hM63 _ _ ?_;rw [show (fun i => [SV.int .i64 (nd ys i).id, SV.str (nd ys i).key, SV.int .u32 (nd ys i).word]) = nds ys from rfl, z3h];exact ⟨(a ++ ys, at9), ⟨by simp; omega, ha9⟩, fun k => if k = 3 then 6 else k, (z56 (fun k => if k = 3 then 6 else k))⟩
 ·intro h63 QM hM63 hR63 hE63
  
  refine Cs.skip ?_;refine Cs.nil ?_;refine hM63 _ _ ?_;exact ⟨(a, at7), ⟨by dsimp only; omega, ha7⟩, id, (BvDm.g id)⟩
 rintro ⟨a2, at8⟩ ⟨ha2l, ha8⟩;dsimp only at ha2l ha8;refine sg [1, 5, 6, 7, 8, 10] rfl ?_;intro K hK;refine z1d z5 ?_;refine z1d z5 ?_;refine z6l (z21 ls m at8 4 hx hm ha8 (by omega)) (fun k => if k = 0 then 1 else 0) ?_;rintro s0 H0 ⟨h, at10, ha10, p2, p3, p4, rfl, rfl⟩ s1 H1 hs1 hH1;obtain ⟨hs2, hH2⟩ := z6k hs1 hH1;clear hs1 hH1;subst hs2 hH2;repeat (with_reducible apply ai;exact za)
 refine z1d z5 ?_;refine z7 (z6 (hK _ _ ?_)); clear hK K;refine sg [1, 5, 6, 7, 8, 10, 11, 12, 13] rfl ?_;intro K hK;iterate 4 (refine z1d z5 ?_)
 refine z1d z5 ?_;refine z6l (z21 ls m at10 4 hx hm ha10 (by omega)) (fun k => if k = 0 then 1 else 0) ?_;rintro s0 H0 ⟨c1, at11, ha11, q2, q3, q4, rfl, rfl⟩ s1 H1 hs1 hH1;obtain ⟨hs2, hH2⟩ := z6k hs1 hH1;clear hs1 hH1;subst hs2 hH2;repeat (with_reducible apply ai;exact za)
 have q6 := q3 (by omega);have q5 : 0 ≤ c1 / 3 ∧ c1 / 3 ≤ 10 := by omega
 refine z1d z5 ?_;refine z1d z5 ?_;refine z6l (links_spec ls m at11 hx hm ha11 a2 a2.length rfl (by omega) h (c1 / 3) q5) (fun k => if k = 0 then 1 else if k = 1 then 0 else 3) ?_;rintro s0 H0 ⟨al, at12, ha12, hA, rfl, rfl⟩ s1 H1 hs1 hH1;obtain ⟨hs2, hH2⟩ := z6k hs1 hH1;clear hs1 hH1;subst hs2 hH2;repeat (with_reducible apply ai;exact za)
 iterate 3 (refine z1d z5 ?_)
 refine z1d z5 ?_;refine z6l (links_spec ls m at12 hx hm ha12 b b.length rfl (by omega) h 0 (by omega)) (fun k => if k = 0 then 1 else if k = 1 then 0 else 4) ?_;rintro s0 H0 ⟨bl, at13, ha13, hB, rfl, rfl⟩ s1 H1 hs1 hH1;obtain ⟨hs2, hH2⟩ := z6k hs1 hH1;clear hs1 hH1;subst hs2 hH2;repeat (with_reducible apply ai;exact za)
 iterate 4 (refine z1d z5 ?_)
 refine z1d z5 ?_;refine z6l (z21 ls m at13 4 hx hm ha13 (by omega)) (fun k => if k = 0 then 1 else 0) ?_;rintro s0 H0 ⟨c2, at14, ha14, r2, r3, r4, rfl, rfl⟩ s1 H1 hs1 hH1;obtain ⟨hs2, hH2⟩ := z6k hs1 hH1;clear hs1 hH1;subst hs2 hH2;repeat (with_reducible apply ai;exact za)
 have r6 := r3 (by omega);have r5 : 0 ≤ c2 / 3 ∧ c2 / 3 ≤ 10 := by omega
 refine z1d z5 ?_;refine z1d z5 ?_;refine z6l (links_spec ls m at14 hx hm ha14 xs xs.length rfl (by omega) h (c2 / 3) r5) (fun k => if k = 0 then 1 else if k = 1 then 0 else 2) ?_;rintro s0 H0 ⟨l, at15, ha15, hL, rfl, rfl⟩ s1 H1 hs1 hH1;obtain ⟨hs2, hH2⟩ := z6k hs1 hH1;clear hs1 hH1;subst hs2 hH2;repeat (with_reducible apply ai;exact za)
 have hAv := hA.ok;have hBv := hB.ok;have hLv := hL.ok;have hAl := hA.1;have hBl := hB.1;have hLl := hL.1;iterate 3 (refine z1d z5 ?_)
 refine z7 (z6 (hK _ _ ?_)); clear hK K;refine sg [1, 5, 6, 7, 8, 11, 12, 13, 14] rfl ?_;intro K hK;iterate 5 (refine z1d z5 ?_)
 refine z1d z5 ?_;refine z6l (pick_spec ls [h, h, h, -1, 17, 2] m at15 hx hm ha15 (by simp) (by simp)) (fun k => if k = 0 then 1 else if k = 1 then 0 else 11) ?_;rintro s0 H0 ⟨i6, at16, d1, d2, rfl, rfl⟩ s1 H1 hs1 hH1;obtain ⟨hs2, hH2⟩ := z6k hs1 hH1;clear hs1 hH1;subst hs2 hH2;repeat (with_reducible apply ai;exact za)
 obtain ⟨g, hg⟩ : ∃ g : Int, nth [h, h, h, -1, 17, 2] i6 = g := ⟨_, rfl⟩;rw [hg];have hm1 := mrgR_facts a2 al b bl g;refine z1d z5 ?_;refine z7 (z6 (hK _ _ ?_)); clear hK K;refine sg [1, 5, 6, 7, 8, 11, 12, 13, 14, 15, 16] rfl ?_;intro K hK;iterate 5 (refine z1d z5 ?_)
 refine z1d z5 ?_;refine BvDm.c1 (z6s a2 al b bl a2.length al.length b.length bl.length g rfl rfl rfl rfl (by omega) (by omega) (by omega) (by omega) hAv hBv) (fun k => if k = 0 then 3 else if k = 1 then 5 else if k = 2 then 6 else if k = 3 then 4 else if k = 4 then 7 else 8) ?_;iterate 5 (refine z1d z5 ?_)
 refine z7 (z6 (hK _ _ ?_)); clear hK K;refine sg [1, 5, 6, 13, 14, 15, 16, 17, 18] rfl ?_;intro K hK;iterate 5 (refine z1d z5 ?_)
 refine z1d z5 ?_;refine BvDm.c1 (refMerge_spec a2 al b bl a2.length al.length b.length bl.length g rfl rfl rfl rfl (by omega) (by omega) (by omega) (by omega) hAv hBv) (fun k => if k = 0 then 3 else if k = 1 then 5 else if k = 2 then 6 else if k = 3 then 4 else if k = 4 then 7 else 8) ?_;iterate 5 (refine z1d z5 ?_)
 refine z7 (z6 (hK _ _ ?_)); clear hK K;refine Cs.seq ?_;refine sg [6, 13, 14, 15, 16, 17, 18, 115, 116, 117] rfl ?_;intro K hK;refine z1d z5 ?_;refine z1d z5 ?_;refine z6l (oddKey_spec ls m at16 hx hm d1) (fun k => if k = 0 then 1 else 0) ?_;rintro s0 H0 ⟨k1, at17, ha17, hk1, rfl, rfl⟩ s1 H1 hs1 hH1;obtain ⟨hs2, hH2⟩ := z6k hs1 hH1;clear hs1 hH1;subst hs2 hH2;repeat (with_reducible apply ai;exact za)
 iterate 4 (refine z1d z5 ?_)
 refine z7 (z6 (hK _ _ ?_)); clear hK K;refine Cs.block ?_;intro Q2 hN2 hX2 hR2 hE2;refine Cs.loop (σ := Nat) (fun i => i ≤ 2) (fun i => 2 - i) (fun i => [(6, .slc true 2 0 0 xs.length), (13, .slc true 9 0 0 l.length), (14, .int .i64 g), (15, .slc true 12 0 0 (mrgR a2 al b bl g).length), (16, .int .i64 (mrgE a2 al b bl g)), (17, .slc true 14 0 0 (mrgR a2 al b bl g).length), (18, .int .i64 (mrgE a2 al b bl g)), (115, .slc true 16 0 0 2), (116, .int .i64 2), (117, .int .i64 i)]) (fun i => ⟨17, [(2, ze xs), (9, Sk.one (.row ⟨true, false, 42, 2, l.length, lkR true 10 l⟩)), (10, (l.length + 1, fam true 45 2 (lkF true l))), (12, Sk.one (.row ⟨true, false, 42, 2, (mrgR a2 al b bl g).length, lkR true 13 (mrgR a2 al b bl g)⟩)), (13, ((mrgR a2 al b bl g).length + 1, fam true 45 2 (lkF true (mrgR a2 al b bl g)))), (14, Sk.one (.row ⟨true, false, 42, 2, (mrgR a2 al b bl g).length, lkR true 15 (mrgR a2 al b bl g)⟩)), (15, ((mrgR a2 al b bl g).length + 1, fam true 45 2 (lkF true (mrgR a2 al b bl g)))), (16, Sk.one (.row ⟨true, false, 9, 1, 2, st2 k1 key⟩)), (0, z1p ls)]⟩) 0 (Nat.zero_le _) (ρ := id) (BvDm.g id) ?_;rintro i hi QL2 hL2 hRL2 hEL2;refine sg [6, 13, 14, 15, 16, 17, 18, 115, 116, 117, 118] rfl ?_;intro K hK;refine z1d z5 ?_;refine z7 (z6 (hK _ _ ?_)); clear hK K;refine Cs.seq ?_;refine Cs.cond _ rfl ?_ ?_
 ·intro h118;replace h118 := z8 h118;refine Cs.skip ?_;refine Cs.seq ?_;refine Cs.block ?_;intro Q3 hN3 hX3 hR3 hE3;refine sg [6, 13, 14, 15, 16, 17, 18, 20, 115, 116, 117] rfl ?_;intro K hK;iterate 3 (refine z1d z5 ?_)
  refine z7 (z6 (hK _ _ ?_)); clear hK K;refine sg [6, 13, 14, 15, 16, 17, 18, 20, 21, 22, 23, 115, 116, 117] rfl ?_;intro K hK;iterate 4 (refine z1d z5 ?_)
  refine z1d z5 ?_;refine BvDm.c1 (cut_spec xs l xs.length l.length (qA k1 key i) g rfl rfl (by omega) (by omega) hLv) (fun k => if k = 0 then 2 else k + 8) ?_;iterate 7 (refine z1d z5 ?_)
  refine z7 (z6 (hK _ _ ?_)); clear hK K;refine sg [6, 13, 14, 15, 16, 17, 18, 21, 22, 23, 24, 25, 26, 115, 116, 117] rfl ?_;intro K hK;iterate 4 (refine z1d z5 ?_)
  refine z1d z5 ?_;refine BvDm.c1 (refCut_spec xs l xs.length l.length (qA k1 key i) g rfl rfl (by omega) (by omega) hLv) (fun k => if k = 0 then 2 else k + 8) ?_;obtain ⟨f1, f2, f3, f4⟩ := cut_facts xs l (qA k1 key i) g;iterate 7 (refine z1d z5 ?_)
  refine z7 (z6 (hK _ _ ?_)); clear hK K;refine sg [6, 13, 14, 15, 16, 17, 18, 115, 116, 117, 153] rfl ?_;intro K hK;iterate 2 (refine z1d z5 ?_)
  refine z1d z5 ?_;refine BvDm.c1 (z3r (cutA xs l (qA k1 key i) g) (cutA xs l (qA k1 key i) g) (cutA xs l (qA k1 key i) g).length (cutA xs l (qA k1 key i) g).length rfl rfl (by omega) (by omega) f3 f3) (fun k => if k = 0 then 17 else if k = 1 then 18 else if k = 2 then 21 else 22) ?_;simp only [decide_true];iterate 4 (refine z1d z5 ?_)
  refine z5 ?_;refine z27 rfl rfl ?_;refine z1g ?_;refine ⟨fun _ => ?_, fun h => (by cases h)⟩;refine z1d id ?_;refine BvDm.c1 (z3r (cutB xs l (qA k1 key i) g) (cutB xs l (qA k1 key i) g) (cutB xs l (qA k1 key i) g).length (cutB xs l (qA k1 key i) g).length rfl rfl (by omega) (by omega) f4 f4) (fun k => if k = 0 then 19 else if k = 1 then 20 else if k = 2 then 23 else 24) ?_;simp only [decide_true];iterate 7 (refine z1d z5 ?_)
  refine z7 (z6 (hK _ _ ?_)); clear hK K;refine Cs.cond _ rfl ?_ ?_
  ·intro h153
   exfalso; simp at h153
  ·intro h153
   
   refine Cs.skip ?_;refine Cs.nil ?_;refine hN3 _ _ ?_;refine Cs.reg [6, 13, 14, 15, 16, 17, 18, 115, 116, 117] rfl ?_;intro K hK;iterate 2 (refine z1d z5 ?_)
   refine z7 (z6 (hK _ _ ?_)); clear hK K;refine Cs.nil ?_;refine hL2 _ _ ?_;rw [show (i : Int) + 1 = ((i + 1 : Nat) : Int) from by omega];exact ⟨i + 1, ⟨by omega, by omega⟩, id, (BvDm.g id)⟩
 ·intro h118;replace h118 := z8 h118;refine Cs.exit ?_;refine hEL2 _ _ _ ?_;refine hX2 _ _ ?_;refine Cs.seq ?_;refine Cs.regG [4] rfl ?_;intro K hK hG
  have hk27 : K [(4, .bool true)] ⟨17, [(0, z1p ls)]⟩ := by
   refine hK _ _ ?_;clear hG hK K;refine Cs.ret ?_;refine hQ _ _ ?_;refine zn.mk (H' := ⟨17, []⟩) (.inl rfl) ?_;refine zc ?_;refine ⟨BvDm.s, (BvDm.g id), BvDm.s, ?_⟩
   all_goals first | trivial | exact rfl
  iterate 2 (refine z1d z5 ?_)
  refine z1d z5 ?_;refine BvDm.c1 (z3r (mrgR a2 al b bl g) (mrgR a2 al b bl g) (mrgR a2 al b bl g).length (mrgR a2 al b bl g).length rfl rfl (by omega) (by omega) hm1.2 hm1.2) (fun k => k + 12) ?_;simp only [decide_true];iterate 6 (refine z1d z5 ?_)
  refine z5 ?_;refine z27 rfl rfl ?_;refine z1g ?_;refine ⟨fun _ => ?_, fun h => (by cases h)⟩;refine z1d id ?_;refine BvDm.c1 (sane9_spec) (id) ?_;iterate 2 (refine z1d z5 ?_)
  refine z7 ?_;refine z6 ?_;exact hG _ _ _ _ id (BvDm.g id) hk27
end Go.Proofs

namespace Go.Proofs.YtdlmfcidbojniaaDoor
open Go.ChangeShapes Go.WideShapes Go.RowKit Go.Sk Go.Proofs
theorem own : ownKnob Tryd.prog.godebug = none := by kernel_rfl
theorem laid : laidOutB Tryd.prog = true := by kernel_rfl
theorem rowed : mapsRowed Tryd.prog = true := by kernel_rfl
theorem fullS : ∀ t e, t < Tryd.prog.types.size → Tryd.prog.underlying t = some (.slice e) → 0 < Tryd.prog.cellsOf e := slices_full_of _ (by kernel_rfl)
theorem uInts : Tryd.prog.underlying 22 = some (.slice 3) := by kernel_rfl
theorem uStr : Tryd.prog.underlying 9 = some .string := by kernel_rfl
theorem uBool : Tryd.prog.underlying 4 = some .bool := by kernel_rfl
theorem fInt : flatB Tryd.prog 3 [.i .i64] = true := by kernel_rfl
theorem gTab : Tryd.prog.globalNamed "skipgraph/skipgraphworld.letters" = some 0 := by kernel_rfl
theorem gTabType : (Tryd.prog.globals[0]?).map (·.type) = some 99 := by kernel_rfl
theorem uTab : Tryd.prog.underlying 99 = some (.array 6 9) := by kernel_rfl
theorem cTab : Tryd.prog.cellsOf 99 = 6 := by kernel_rfl
theorem cStr : Tryd.prog.cellsOf 9 = 1 := by kernel_rfl
theorem oneTab : (List.range Tryd.prog.globals.size).all (fun i => !tabG Tryd.prog i || i == 0) = true := by kernel_rfl
theorem tabs {W : World} (h : laidMetH Tryd.prog [("math/bits.deBruijn32tab", Rows.laid_math_bits_deBruijn32tab), ("skipgraph/skipgraphworld.letters", Rows.laid_skipgraph_skipgraphworld_letters)] W) : ∀ i, tabG Tryd.prog i = true → i < W.heap.size ∧ TabAt W i :=
 tabs_of_mem gTab gTabType uTab uStr cStr cTab oneTab (laid := [("math/bits.deBruijn32tab", Rows.laid_math_bits_deBruijn32tab), ("skipgraph/skipgraphworld.letters", Rows.laid_skipgraph_skipgraphworld_letters)]) (by exact .tail _ (.head _)) h
theorem gTabB : Tryd.prog.globalNamed "math/bits.deBruijn32tab" = some 1 := by kernel_rfl
theorem gTabBType : (Tryd.prog.globals[1]?).map (·.type) = some 157 := by kernel_rfl
theorem uTabB : Tryd.prog.underlying 157 = some (.array 32 5) := by kernel_rfl
theorem uByte : Tryd.prog.underlying 5 = some (.int .u8) := by kernel_rfl
theorem cTabB : Tryd.prog.cellsOf 157 = 32 := by kernel_rfl
theorem cByte : Tryd.prog.cellsOf 5 = 1 := by kernel_rfl
theorem oneTabB : (List.range Tryd.prog.globals.size).all (fun i => !tabBG Tryd.prog i || i == 1) = true := by kernel_rfl
theorem tabsB {W : World} (h : laidMetH Tryd.prog [("math/bits.deBruijn32tab", Rows.laid_math_bits_deBruijn32tab), ("skipgraph/skipgraphworld.letters", Rows.laid_skipgraph_skipgraphworld_letters)] W) : ∀ i, tabBG Tryd.prog i = true → i < W.heap.size ∧ TabBAt W i :=
 tabsB_of_mem gTabB gTabBType uTabB uByte cByte cTabB oneTabB (laid := [("math/bits.deBruijn32tab", Rows.laid_math_bits_deBruijn32tab), ("skipgraph/skipgraphworld.letters", Rows.laid_skipgraph_skipgraphworld_letters)]) (by exact .head _) h
def toInt : List Value → Int
 |[.int _ z] => z
 |_ => 0
def toInts (rows : List (List Value)) : List Int := rows.map toInt
theorem ints_rows {w : World} {v : Value} {q : Option Sk.Loc} {rows : List (List Value)} (h : RwIn w v q [.i .i64] rows) (i : Nat) (r : List Value) (hr : rows[i]? = some r) : ints (toInts rows) i = r.map svOf := by
 have hok := h.ok r (List.mem_of_getElem? hr);rcases r with _ | ⟨v, _ | ⟨v', r⟩⟩
 ·exact hok.elim
 ·obtain ⟨⟨z, rfl, _⟩, _⟩ := hok;simp only [ints, nth, toInts, List.getD, List.getElem?_map, hr, Option.map_some, Option.getD_some, toInt, List.map_cons, List.map_nil, svOf]
 ·exact hok.2.elim
theorem ints_in {β : Env} {w : World} {v : Value} {q : Option Sk.Loc} {rows : List (List Value)} (h : RwIn w v q [.i .i64] rows) {id : Nat} (hq : β id 0 = q) :
  den β (.slc false id 0 0 (toInts rows).length) v ∧ (Sk.Obj.row ⟨false, false, 3, 1, (toInts rows).length, ints (toInts rows)⟩).holds β w q := by
 have := rows_in h hq 3 (ints (toInts rows)) (ints_rows h);simpa [toInts] using this
theorem ints_len {w : World} {v : Value} {q : Option Sk.Loc} {rows : List (List Value)} (h : RwIn w v q [.i .i64] rows) : (toInts rows).length ≤ 9223372036854775807 := by
 have := h.len;simpa [toInts, maxLen] using this
theorem ints_ltO (m : Nat) (xs : List Int) : (Sk.Obj.row ⟨false, false, 3, 1, xs.length, ints xs⟩).lt m := Sk.Obj.lt_row.2 fun i _ => by simp [ints, SV.ltL, SV.lt]
def putCells (l : List Value) : Go.Obj → Go.Obj
 |.cells _ t frozen => .cells l.toArray t frozen
 |o => o
noncomputable def z4j (os : Os) : World :=
 { World.holding Tryd.prog os ⟨#[], #[], []⟩ with heap := ((World.holding Tryd.prog os ⟨#[], #[], []⟩).heap.modify 0 (putCells (letters.map Value.string))).modify 1 (putCells (db32.map (Value.int IntKind.u8))) }
end Go.Proofs.YtdlmfcidbojniaaDoor

namespace Go.Proofs.YtdlmfcidbojniaaDoor.bulkMergesTop
open Go.ChangeShapes Go.WideShapes Go.RowKit Go.Sk Go.Proofs
theorem top (W : World) (v0 v1 : Value) (q0 : Option Sk.Loc) (r0 : List (List Value)) (h0 : RwIn W v0 q0 [.i .i64] r0) (n1 : ByteArray) (h1 : v1 = .string n1)
  (htab : ∀ i, tabG Tryd.prog i = true → i < W.heap.size ∧ TabAt W i) (htabB : ∀ i, tabBG Tryd.prog i = true → i < W.heap.size ∧ TabBAt W i) : Calls Tryd.prog 8 #[v0, v1] W fun e w' => e = .returned (.bool true) ∧ Below W.heap.size W w' := by
 let β : Env := fun _ _ => q0
 obtain ⟨a0, b0⟩ := ints_in (β := β) (id := 0) h0 rfl;refine zd.top (Ent.of Tryd.func8 (by kernel_rfl) (by kernel_rfl)) (merges_spec (toInts r0) n1 (ints_len h0)) β W [v0, v1] (fun id k o ho => ?_) ⟨v0, [v1], a0, ⟨v1, [], h1, rfl, rfl⟩, rfl⟩ (by simp [SV.ltL, SV.lt]) htab htabB;obtain ⟨c, F, hf, hk, rfl⟩ := z10 ho;simp only [Sk.find, z1p, Sk.one] at hf
 split at hf
 ·rename_i e; subst e; cases hf
  exact ⟨rfl, by show (0 : Nat) < 1; omega, ints_ltO _ _, b0⟩
 ·cases hf
theorem contract (H : Type) (enc : TypeId × Value → H) (W : World) (base : Nat) (args : Array Value) (ds gs : List (DataW H)) (before : List MemPlace)
  (hval : ∀ (j : Nat) t v, Tryd.f8.params[j]? = some t → args[j]? = some v → Value.okWide Tryd.prog W .any base t v)
  (hW : DataW.Whole enc Tryd.prog Tryd.f8.params.toList Rows.bulkMergesSpec.vars false W args.toList ds gs before) (hL : laidMetH Tryd.prog Rows.bulkMergesRow.laid W) :
  Calls Tryd.prog 8 args W fun e W' => ∃ v, e = .returned v ∧ Rows.bulkMergesSpec.post enc Tryd.prog Tryd.f8 false true false false W args v W' := by
 have hW1 := hW;obtain ⟨p, q, hA0, hV, rfl, _, _⟩ := hW;have hA : DataW.TrodAll enc Tryd.prog W 0 (fun _ => true) true Tryd.f8.params.toList args.toList ds p := hA0;have hval1 : ∀ (j : Nat) t v, Tryd.f8.params[j]? = some t → args[j]? = some v → Value.okWide Tryd.prog W .any base t v := hval;rw [Tryd.params8] at hA hval1;obtain ⟨v0, vs0, d0, ds0, p0, q0, ha0, rfl, rfl, h0, r0⟩ := trodAll_cons hA;obtain ⟨v1, vs1, d1, ds1, p1, q1, ha1, rfl, rfl, h1, r1⟩ := trodAll_cons r0;obtain ⟨rfl, rfl, rfl⟩ := trodAll_nil r1;obtain rfl : args = #[v0, v1] := by cases args; simp_all
 obtain ⟨_, _, x0⟩ := rows_open uInts fInt (by simp) (hval1 0 _ v0 rfl rfl) h0;obtain ⟨n1, x1, _⟩ := Go.ChangeMaps.open_string uStr (hval1 1 _ v1 rfl rfl) h1;refine (top W v0 v1 _ _ x0 n1 x1 (tabs hL) (tabsB hL)).mono fun e W1 ⟨he, hb⟩ => ?_;subst he;refine ⟨_, rfl, law_post laid rowed fullS (by decide +kernel) rfl hW1 hb rfl uBool fun ds hd => ?_⟩;have hd1 : ds.length = 2 := hd
 match ds, hd1 with
 |[_, _], _ => rfl
theorem laid_met (os : Os) : laidMet Tryd.prog Rows.bulkMergesRow.laid ((z4j os).forCall (fun _ _ => 0) ⟨#[], #[.slice none 0 0, .string ByteArray.empty], []⟩).memory :=
 laidMet_of_run' 8 (by kernel_rfl) (by kernel_rfl)
theorem reads (os : Os) {H : Type} (enc : TypeId × Value → H) : ∃ places, DataW.whole enc Tryd.prog ((z4j os).forCall (fun _ _ => 0) ⟨#[], #[.slice none 0 0, .string ByteArray.empty], []⟩).memory Tryd.f8.params.toList Rows.bulkMergesSpec.vars false #[Value.slice none 0 0, .string ByteArray.empty].toList 8 = some ([.nil, .lit (.string [])], [], places) :=
 ⟨[], by kernel_rfl⟩
set_option maxRecDepth 100000 in
theorem lifted (os : Os) (started : os.Started) (H : Type) (enc : TypeId × Value → H) (F : Stop.Interp) :
  ReturnsInHanded {} Tryd.checked os 8 .any ((OpenSpec.ofChange Rows.bulkMergesSpec).preRow enc Tryd.prog Tryd.f8 Rows.bulkMergesRow.domain false Rows.bulkMergesRow.laid) (((OpenSpec.ofChange Rows.bulkMergesSpec).at F).post enc Tryd.prog Tryd.f8 false true false false) := by
 obtain ⟨places, hx⟩ := reads os enc
 refine returnsInHanded_of_row (C := Tryd.checked) (s := OpenSpec.ofChange Rows.bulkMergesSpec) own started (by kernel_rfl) Tryd.func8
  (witness_row_at (enc := enc) (C := Tryd.checked) false (z4j os) #[.slice none 0 0, .string ByteArray.empty] rfl (by kernel_rfl) (by kernel_rfl) (by kernel_rfl)
   (OpenSpec.preRow_of_cond 8 hx (by kernel_rfl) (fun k hk => by cases hk) (by kernel_rfl) (laid_met os))) ?_
 intro W base args ds gs before hval hW _ _ _ hL _ _;exact contract H enc W base args ds gs before hval hW hL
theorem said : Rows.BulkMergesSaid :=
 OpenClaim.holds_of_cond 8 Tryd.f8 rfl rfl rfl rfl rfl rfl rfl ⟨rfl, rfl, rfl, rfl, rfl⟩ rfl rfl rfl rfl rfl (by kernel_rfl) Tryd.func8 (by kernel_rfl)
  (of_decide_eq_true (by kernel_rfl)) (by unfold Func.isWrapper; first | (rw [if_pos (by decide +kernel)]; kernel_rfl) | (rw [if_neg (by decide +kernel)]; exact ⟨rfl, rfl⟩))
  (fun os started H enc _ F => by rw [OpenClaim.pre_eq_preRow]; exact lifted os started H enc F)
theorem plain (f : FuncId) (fn : Func) (hf : Tryd.pinned.checked.prog.funcNamed "skipgraph/skipgraphlaw9.BulkMerges" = some f) (hfn : Tryd.pinned.checked.prog.funcs[f]? = some fn) :
  false = Tryd.pinned.checked.prog.looks [] ∧ ∀ (j : Nat) t, fn.params[j]? = some t → Tryd.pinned.checked.prog.wantsStandIn t = false := by
 obtain rfl : f = 8 := Option.some.inj ((show Tryd.prog.funcNamed "skipgraph/skipgraphlaw9.BulkMerges" = some 8 by kernel_rfl).symm.trans hf) |>.symm
 obtain rfl : fn = Tryd.f8 := (Option.some.inj (Tryd.func8.symm.trans hfn)).symm;refine ⟨by kernel_rfl, fun j t ht => ?_⟩;rw [Tryd.params8] at ht;have hm : t ∈ [22, 9] := by simpa using Array.mem_of_getElem? ht
 have hall : ([22, 9].all fun u => !Tryd.prog.wantsStandIn u) = true := by kernel_rfl
 exact (show Tryd.prog.wantsStandIn t = false by simpa using List.all_eq_true.1 hall t hm)
theorem proved : Rows.BulkMergesCardSaid :=
 Claim7.holds_tied_plain_at .later [] _ _ _ _ said (fun _ h => by cases h) (by kernel_rfl) (fun _ h => by cases h) bulkMerges_row_tie rfl ⟨rfl, rfl⟩ (by kernel_rfl) rfl plain (by kernel_rfl)
end Go.Proofs.YtdlmfcidbojniaaDoor.bulkMergesTop
#print axioms Go.Proofs.YtdlmfcidbojniaaDoor.bulkMergesTop.proved
