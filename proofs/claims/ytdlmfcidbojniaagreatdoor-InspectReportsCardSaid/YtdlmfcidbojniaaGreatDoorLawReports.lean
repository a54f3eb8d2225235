/-
  InspectReports: for every input the law returns true, and the input reads as before.
  Conditions: those that each statement names.
-/
import Derived.Test.YtdlmfcidbojniaaGreatDoorQtb
import Derived.Test.YtdlmfcidbojniaaGreatDoorChecked
import Derived.Below
import Derived.ChangeSame
import Derived.ChangeSlices
import Derived.ReadAgain
import Derived.OpenShut
import Derived.JoinedOf
import Derived.Handed
import Derived.Deep.Slices
import Derived.Lib.LaidTab
import Derived.Test.YtdlmfcidbojniaaGreatDoorQte
import Derived.Test.YtdlmfcidbojniaaGreatDoorRows
import Derived.Test.YtdlmfcidbojniaaGreatDoorCards
import Derived.Test.YtdlmfcidbojniaaGreatDoorTie
import Derived.WalkKit
import Derived.ProofKit
import Derived.Deep.DeepHandedRow
import Derived.Test.YtdlmfcidbojniaaGreatDoorQtd
set_option linter.unusedSimpArgs false
set_option linter.unusedVariables false
set_option maxRecDepth 4000
namespace Go.Sk
open Go.RowKit Go.WideShapes Go.ChangeShapes
theorem below_sameAt {w w' : World} (h : Below w.heap.size w w') {p : MemPlace} (hp : p.block < w.heap.size) : w.sameAt w' p := by
 cases p with
 |cell b off => exact World.cell?_of_block (h.block b hp)
 |map b => exact h.block b hp
section
variable {H : Type} {enc : TypeId × Value → H} {P : Program}
theorem trodAll_carry {w w' : World} {base : Nat} {sp : Nat → Bool} {held : Bool} : ∀ {ts : List TypeId} {vs : List Value} {ds : List (DataW H)} {ps : List MemPlace}, DataW.TrodAll enc P w base sp held ts vs ds ps → (∀ p ∈ ps, w.sameAt w' p) →
  DataW.TrodAll enc P w' base sp held ts vs ds ps
 |[], [], [], _, h, _ => h
 |_ :: _, _ :: _, _ :: _, _, ⟨p, q, ⟨n, h1⟩, h2, e⟩, hs =>
  ⟨p, q, ⟨n, DataW.trod_carry n _ _ _ h1 fun x hx => hs x (by rw [e]; exact List.mem_append_left _ hx)⟩, trodAll_carry h2 (fun x hx => hs x (by rw [e]; exact List.mem_append_right _ hx)), e⟩
theorem trodAll_len {w : World} {base : Nat} {sp : Nat → Bool} {held : Bool} : ∀ {ts : List TypeId} {vs : List Value} {ds : List (DataW H)} {ps : List MemPlace}, DataW.TrodAll enc P w base sp held ts vs ds ps → ds.length = ts.length
 |[], [], [], _, _ => rfl
 |_ :: _, _ :: _, _ :: _, _, ⟨_, _, _, h2, _⟩ => by simp [trodAll_len h2]
theorem law_post {f : Func} {s : ChangeSpec} {apart fresh handsOn again : Bool} {W W' : World} {args : Array Value} {ds gs : List (DataW H)} {before : List MemPlace} (hl : laidOutB P = true) (hm : mapsRowed P = true)
  (hz : ∀ t e, t < P.types.size → P.underlying t = some (.slice e) → 0 < P.cellsOf e) (hts : ∀ t ∈ f.params.toList, t < P.types.size) (hv : s.vars = [])
  (hW : DataW.Whole enc P f.params.toList s.vars apart W args.toList ds gs before) (hb : Below W.heap.size W W') {tb : TypeId} (hres : f.resultTypes = #[tb]) (hbool : P.underlying tb = some .bool)
  (hfn : ∀ ds : List (DataW H), ds.length = f.params.toList.length → s.fn H ds = { results := [.lit (.bool true)], args := ds }) : s.post enc P f apart fresh handsOn again W args (.bool true) W' := by
 have hW' := hW;obtain ⟨p, q, hA, hV, rfl, hfz, hnd⟩ := hW;rw [hv] at hV
 have hq : gs = [] ∧ q = [] := by
  cases gs with
  |nil => exact ⟨rfl, hV⟩
  |cons _ _ => exact hV.elim
 obtain ⟨rfl, rfl⟩ := hq;have hfn' := hfn (ds ++ []) (by rw [List.append_nil]; exact trodAll_len hA);have hlt : ∀ x ∈ p, x.block < W.heap.size := DataW.TrodAll.lt hA
 have hargs : ∀ sp : Nat → Bool, (∀ x ∈ p ++ [], sp x.block = true) → DataW.TrodAll enc P W' 0 sp true f.params.toList args.toList ds p := fun sp hsp =>
  trodAll_carry (DataW.TrodAll.respare (kids_rows hl hm) hz hts hA fun x hx => hsp x (List.mem_append_left _ hx)) fun x hx => below_sameAt hb (hlt x hx)
 have hrl : ((Value.bool true).resultList f.resultTypes.size) = [.bool true] := by rw [hres]; rfl
 have hres' : ∀ (b : Nat) (sp : Nat → Bool) (hd : Bool), DataW.TrodAll enc P W' b sp hd f.resultTypes.toList ((Value.bool true).resultList f.resultTypes.size) (s.fn H (ds ++ [])).results [] := fun b sp hd => by
  rw [hrl, hfn', hres];exact trodAll_mk1 (shut_bool hbool true)
 have hvars : ∀ sp : Nat → Bool, DataW.TrodVars enc P W' sp s.vars (s.fn H (ds ++ [])).vars [] := fun sp => by rw [hfn', hv]; rfl
 have hargs' : ∀ sp : Nat → Bool, (∀ x ∈ p ++ [], sp x.block = true) → DataW.TrodAll enc P W' 0 sp true f.params.toList args.toList (s.fn H (ds ++ [])).args p := fun sp hsp => by
  rw [hfn']; simpa using hargs sp hsp
 have hold : ∀ x ∈ p ++ [], (fun b => decide (b < W.heap.size)) x.block = true := fun x hx => by simpa using hlt x (by simpa using hx)
 refine ⟨ds, [], p ++ [], [], p, [], hW', hres' _ _ _, hargs' _ hold, hvars _, World.keptBut_mono (fun x hx => ⟨hx, ?_⟩) (hb.frame (· ∈ p ++ [])), fun _ => ⟨?_, _, _, ([] ++ p) ++ [], ⟨[] ++ p, [], trodAll_append (hargs' _ (fun _ _ => rfl)) (hres' _ _ _), hvars _, rfl, ?_, ?_⟩, ?_⟩⟩
 ·exact .inr (.inl (by simpa using hx))
 ·intro j t r ht hr;rw [hrl] at hr;rw [hres] at ht
  cases j with
  |zero => simp at ht hr; subst ht hr; exact okWide_bool_mk hbool _
  |succ j => simp at hr
 ·intro b off hp;have hin : MemPlace.cell b off ∈ p ++ [] := by simpa using hp
  rw [hb.frozen (hlt _ (by simpa using hin))];exact hfz b off hin
 ·intro ha;simpa using hnd ha
 ·intro x hx _;simpa using hx
end
theorem ze.top {P : Program} {f : FuncId} {args : List SV} {H0 : AH} (hent : Ent P f) (hF : ze P f args H0 (fun s _ => s = .bool true)) (β : Env) (w : World) (vs : List Value)
  (hh : ∀ id k o, look H0.os id k = some o → o.own = false ∧ id < H0.nxt ∧ o.lt H0.nxt ∧ o.holds β w (β id k)) (hd : z3l β args vs) (hl : SV.ltL H0.nxt args) (htab : ∀ g, tabG P g = true → g < w.heap.size ∧ TabAt w g) (htabB : ∀ g, tabBG P g = true → g < w.heap.size ∧ TabBAt w g) :
  Calls P f vs.toArray w fun e w' => e = .returned (.bool true) ∧ Below w.heap.size w w' := by
 let own0 : Nat → Nat → Prop := fun id k => ∃ o, look H0.os id k = some o ∧ o.own = true
 let X : Cx := { P := P, n := 0, w0 := w, own0 := own0, m0 := H0.nxt, β0 := β }
 have no : ∀ id k o, look H0.os id k = some o → ¬ o.own = true := fun id k o h => by rw [(hh id k o h).1]; simp
 have no0 : ∀ id k, ¬ own0 id k := fun id k ⟨o, h1, h2⟩ => no id k o h1 h2
 have hS : St X β H0 w := {
  os := rfl, tape := rfl, output := rfl, size := Nat.le_refl _, fix := fun _ _ _ => rfl
  holds := fun id k o h => (hh id k o h).2.2.2
  sep := fun id k id' k' o o' L L' h _ ho => absurd ho (no id k o h)
  old := fun _ _ _ => rfl
  mine := fun id k o L h ho => absurd ho (no id k o h)
  keep := fun id k h => absurd h (no0 id k)
  m0 := Nat.le_refl _
  lt := fun id k o h => ⟨(hh id k o h).2.1, (hh id k o h).2.2.1⟩
  tabs := ⟨fun g hg => ⟨(htab g hg).1, (htab g hg).2, fun id k _ h _ => absurd h (no0 id k)⟩, fun g hg => ⟨(htabB g hg).1, (htabB g hg).2, fun id k _ h _ => absurd h (no0 id k)⟩⟩
  drawn := Nat.le_refl _ }
 refine ((hF X β w vs rfl rfl rfl rfl rfl hS hd hl).calls hent).mono fun e w' ⟨v, he, β', s, H', hs, _, hdv, _, hS'⟩ => ?_;subst hs;simp only [den] at hdv;subst hdv
 exact ⟨he, hS'.os, hS'.tape, hS'.output, hS'.size, fun b hb => hS'.old b hb fun id k o L h ho hβ => by
  rcases hS'.mine id k o L h ho hβ with ⟨_, h1⟩ | ⟨_, h2⟩
  ·exact absurd h1 (no0 id k)
  ·have : w.heap.size ≤ L.blk := h2
   omega⟩
end Go.Sk

namespace Go.Sk
open Go.RowKit Go.WideShapes Go.ChangeShapes
inductive FK where
 |i (k : IntKind) | s | b
def FK.is (P : Program) (t : TypeId) : FK → Bool
 |.i k => match P.underlying t with | some (.int k') => k' == k | _ => false
 |.s => match P.underlying t with | some .string => true | _ => false
 |.b => match P.underlying t with | some .bool => true | _ => false
def FK.ok : FK → Value → Prop
 |.i k, v => ∃ z, v = .int k z ∧ (Lit.int k z).wf = true
 |.s, v => ∃ x : ByteArray, v = .string x ∧ x.size ≤ maxLen
 |.b, v => ∃ x, v = .bool x
def svOf : Value → SV
 |.int k z => .int k z
 |.string x => .str x
 |.bool x => .bool x
 |v => .raw v
theorem FK.den {β : Env} {k : FK} {v : Value} (h : k.ok v) : den β (svOf v) v ∧ (svOf v).scalar = true ∧ ∀ m, (svOf v).lt m := by
 cases k <;> simp only [FK.ok] at h
 ·obtain ⟨z, rfl, _⟩ := h; exact ⟨rfl, rfl, fun _ => trivial⟩
 ·obtain ⟨z, rfl, _⟩ := h; exact ⟨rfl, rfl, fun _ => trivial⟩
 ·obtain ⟨z, rfl⟩ := h; exact ⟨rfl, rfl, fun _ => trivial⟩
def okRow : List FK → List Value → Prop
 |[], [] => True
 |k :: ks, v :: vs => k.ok v ∧ okRow ks vs
 |_, _ => False
theorem okRow_len : ∀ {ks : List FK} {vs : List Value}, okRow ks vs → vs.length = ks.length
 |[], [], _ => rfl
 |_ :: _, _ :: _, h => by simp [okRow_len h.2]
 |[], _ :: _, h => h.elim
 |_ :: _, [], h => h.elim
theorem okRow_get : ∀ {ks : List FK} {vs : List Value}, okRow ks vs → ∀ (j : Nat) (v : Value), vs[j]? = some v → ∃ k : FK, k.ok v
 |[], [], _, j, v, h => by simp at h
 |k :: _, _ :: _, h, j, v, hj => by
  cases j with
  |zero => simp at hj; subst hj; exact ⟨k, h.1⟩
  |succ j => simp at hj; exact okRow_get h.2 j v hj
 |[], _ :: _, h, _, _, _ => h.elim
 |_ :: _, [], h, _, _, _ => h.elim
def fldsB (P : Program) (fs : Array Field) : Nat → List FK → Bool
 |i, [] => i == fs.size
 |i, k :: ks => (match fs[i]? with | some f => f.offset == i && P.cellsOf f.type == 1 && k.is P f.type | none => false) && fldsB P fs (i + 1) ks
def flatB (P : Program) (t : TypeId) (ks : List FK) : Bool :=
 P.cellsOf t == ks.length && (match P.underlying t with
  |some (.struct fs) => fldsB P fs 0 ks
  |_ => match ks with | [k] => k.is P t | _ => false)
section
variable {H : Type} {enc : TypeId × Value → H} {P : Program} {w : World} {base : Nat} {sp : Nat → Bool} {held : Bool}
theorem one_open {k : FK} {t : TypeId} {fuel : Nat} {cs : List Value} {x : DataW H × List MemPlace} (hk : k.is P t = true) (h : DataW.trod enc P w base sp held fuel t cs = some x) : ∃ v, cs = [v] ∧ k.ok v := by
 cases k <;> simp only [FK.is] at hk
 ·split at hk
  ·rename_i k' hu;obtain rfl := eq_of_beq hk;obtain ⟨n, rfl, _, hw⟩ := DataW.trod_int hu h;exact ⟨_, rfl, n, rfl, hw⟩
  ·cases hk
 ·split at hk
  ·rename_i hu;obtain ⟨s, rfl, _, hs⟩ := DataW.trod_string hu h;exact ⟨_, rfl, s, rfl, hs⟩
  ·cases hk
 ·split at hk
  ·rename_i hu;obtain ⟨b, rfl, _⟩ := DataW.trod_bool hu h;exact ⟨_, rfl, b, rfl⟩
  ·cases hk
theorem flds_open {fs : Array Field} {n : Nat} {cs : List Value} {xs : List (DataW H × List MemPlace)} (hx : xs.length = fs.size) (hf : ∀ (i : Nat) (f : Field), fs[i]? = some f → DataW.trod enc P w base sp held n f.type ((cs.drop f.offset).take (P.cellsOf f.type)) = xs[i]?) :
  ∀ (ks : List FK) (i : Nat), fldsB P fs i ks = true → i + ks.length = cs.length → okRow ks (cs.drop i)
 |[], i, _, hl => by rw [List.drop_eq_nil_of_le (by simp at hl; omega)]; trivial
 |k :: ks, i, h, hl => by
  simp only [fldsB, Bool.and_eq_true] at h;obtain ⟨h1, h2⟩ := h;simp only [List.length_cons] at hl
  split at h1
  ·rename_i f hfi;simp only [Bool.and_eq_true, beq_iff_eq] at h1;obtain ⟨⟨h3, h4⟩, h5⟩ := h1;have h6 := hf i f hfi;have hi : i < xs.length := by rw [hx]; exact (Array.getElem?_eq_some_iff.1 hfi).1
   rw [h3, h4, List.getElem?_eq_getElem hi] at h6;obtain ⟨v, hv, hok⟩ := one_open h5 h6;rw [List.drop_eq_getElem_cons (by omega), List.take_succ_cons, List.take_zero] at hv;rw [List.drop_eq_getElem_cons (by omega)];have : cs[i] = v := by simpa using hv
   rw [this];exact ⟨hok, flds_open hx hf ks (i + 1) h2 (by omega)⟩
  ·cases h1
theorem flat_open {t : TypeId} {ks : List FK} {fuel : Nat} {cs : List Value} {x : DataW H × List MemPlace} (hb : flatB P t ks = true) (h : DataW.trod enc P w base sp held fuel t cs = some x) : okRow ks cs := by
 simp only [flatB, Bool.and_eq_true, beq_iff_eq] at hb;obtain ⟨hc, hb⟩ := hb
 split at hb
 ·rename_i fs hu;obtain ⟨xs, m, _, _, hl, hxl, hf⟩ := DataW.trod_struct hu h;have := flds_open hxl hf ks 0 hb (by omega);rwa [List.drop_zero] at this
 ·split at hb
  ·rename_i k;obtain ⟨v, rfl, hok⟩ := one_open hb h;exact ⟨hok, trivial⟩
  ·cases hb
structure RwIn (w : World) (v : Value) (q : Option Loc) (ks : List FK) (rows : List (List Value)) : Prop where
 len : rows.length ≤ maxLen
 ok : ∀ r ∈ rows, okRow ks r
 val : ∃ a c, v = .slice a rows.length c ∧ rows.length ≤ c ∧ (0 < rows.length → ∃ L, q = some L ∧ a = some ⟨L.blk, L.off, none⟩)
 mem : (rows.length = 0 ∧ q = none) ∨ ∃ L, q = some L ∧ L.sz = ks.length ∧ L.blk < w.heap.size ∧ ∀ (i : Nat) (r : List Value), rows[i]? = some r → ∀ (j : Nat) (u : Value), r[j]? = some u → w.cell? ⟨L.blk, L.off + i * ks.length + j, none⟩ = some u
theorem rows_open {t e : TypeId} {ks : List FK} {v : Value} {d : DataW H} {p : List MemPlace} (ht : P.underlying t = some (.slice e)) (hb : flatB P e ks = true) (hk0 : 0 < ks.length) {b0 : Nat}
  (hval : Value.okWide P w .any b0 t v) (h : DataW.Trod enc P w base sp held t v d p) : ∃ q rows, RwIn w v q ks rows := by
 obtain ⟨n, hn⟩ := h;obtain ⟨a0, l0, c0, rfl⟩ := okWide_slice ht hval;have hce : P.cellsOf e = ks.length := by simp only [flatB, Bool.and_eq_true, beq_iff_eq] at hb; exact hb.1
 have hcs : (Value.slice a0 l0 c0).cells.toList = [Value.slice a0 l0 c0] := rfl;rw [hcs] at hn;rcases Deep.open_slice ht hn with ⟨hv, _⟩ | ⟨a, len, cap, m, n', D, Pl, hv, hbb, hlc, hcm, hmm, _, hel⟩
 ·cases hv
  exact ⟨none, [], ⟨by simp, by simp, ⟨none, 0, rfl, by simp, by simp⟩, .inl ⟨rfl, rfl⟩⟩⟩
 ·cases hv
  have hml : l0 ≤ m := by rw [hmm]; split <;> omega
  obtain ⟨R, hR⟩ := Deep.choose_lt (α := List Value) (p := fun i cs => w.cells? base (a.add (i * P.cellsOf e)) (P.cellsOf e) = some cs ∧ DataW.trod enc P w base sp held n' e cs = some (D i, Pl i)) hel;have hrl : ((List.range l0).map R).length = l0 := by simp
  have hget : ∀ i r, ((List.range l0).map R)[i]? = some r → i < l0 ∧ r = R i := fun i r h => by
   simp only [List.getElem?_map, Option.map_eq_some_iff] at h;obtain ⟨k, h1, h2⟩ := h
   have hi : i < l0 := by
    rcases Nat.lt_or_ge i l0 with h | h
    ·exact h
    ·rw [List.getElem?_eq_none (by simpa using h)] at h1; cases h1
   rw [List.getElem?_range hi] at h1
   cases h1
   exact ⟨hi, h2.symm⟩
  have hok : ∀ i, i < m → okRow ks (R i) := fun i hi => flat_open hb (hR i hi).2
  have hrow : ∀ r ∈ (List.range l0).map R, okRow ks r := fun r hr => by
   obtain ⟨i, hi, rfl⟩ := List.mem_map.1 hr;exact hok i (by have := List.mem_range.1 hi; omega)
  by_cases h0 : l0 = 0
  ·subst h0;exact ⟨none, [], ⟨by simp, by simp, ⟨some a, c0, rfl, by simp, by simp⟩, .inl ⟨rfl, rfl⟩⟩⟩
  ·have hcell : ∀ i, i < l0 → ∀ (j : Nat) (u : Value), (R i)[j]? = some u → w.cell? ((a.add (i * ks.length)).add j) = some u := fun i hi j u hj => by
    obtain ⟨h1, h2⟩ := hR i (by omega);obtain ⟨_, hlen, hc⟩ := World.cells?_some h1;have hjl : j < P.cellsOf e := by rw [← hlen]; exact (List.getElem?_eq_some_iff.1 hj).1
    rw [← hce, hc j hjl];exact hj
   have hr0 : ∃ u, (R 0)[0]? = some u := by
    have := okRow_len (hok 0 (by omega));exact ⟨_, List.getElem?_eq_getElem (by omega)⟩
   obtain ⟨u0, hu0⟩ := hr0;have hc0 := hcell 0 (by omega) 0 u0 hu0;have hsp : a.spot = none := World.cell?_spot (by unfold Addr.add at hc0; simpa using hc0);obtain ⟨b, o, s0⟩ := a;simp only at hsp;subst hsp
   have hblk : b < w.heap.size := by
    rw [z3e, z3e] at hc0;unfold World.cell? at hc0;rcases Nat.lt_or_ge b w.heap.size with h | h
    ·exact h
    ·simp [Array.getElem?_eq_none h] at hc0
   refine ⟨some ⟨b, o, ks.length, 0⟩, (List.range l0).map R, ⟨by omega, hrow, ⟨some ⟨b, o, none⟩, c0, by rw [hrl], by omega, fun _ => ⟨_, rfl, rfl⟩⟩, .inr ⟨_, rfl, rfl, hblk, fun i r hr j u hj => ?_⟩⟩⟩;obtain ⟨hi, rfl⟩ := hget i r hr;have := hcell i hi j u hj;rw [z3e, z3e] at this;exact this
end
theorem rows_in {β : Env} {w : World} {v : Value} {q : Option Loc} {ks : List FK} {rows : List (List Value)} (h : RwIn w v q ks rows) {id : Nat} (hq : β id 0 = q) (e : TypeId) (f : Nat → List SV) (hf : ∀ (i : Nat) (r : List Value), rows[i]? = some r → f i = r.map svOf) :
  den β (.slc false id 0 0 rows.length) v ∧ (Obj.row ⟨false, false, e, ks.length, rows.length, f⟩).holds β w q := by
 obtain ⟨_, hok, ⟨a, c, rfl, hc, hp⟩, hm⟩ := h;refine ⟨?_, ?_⟩
 ·simp only [den, z5l, Bool.false_eq_true, if_false];refine ⟨a, c, rfl, hc, fun h => ?_⟩;obtain ⟨L, h1, h2⟩ := hp h;exact ⟨L, hq.trans h1, by rw [h2]; simp⟩
 ·rcases hm with hm | ⟨L, h1, h2, h3, h4⟩
  ·exact .inl hm
  ·refine .inr ⟨L, h1, h2, h3, fun i hi => ?_, fun h => by cases h⟩;have hi' : i < rows.length := hi;have hr := List.getElem?_eq_getElem hi';have hfi := hf i _ hr;have hoki := hok _ (List.getElem_mem hi')
   show (f i).length = ks.length ∧ ∀ (j : Nat) (s : SV), (f i)[j]? = some s → _
   rw [hfi];refine ⟨by rw [List.length_map]; exact okRow_len hoki, fun j s hs => ?_⟩;rw [List.getElem?_map, Option.map_eq_some_iff] at hs;obtain ⟨u, hu, rfl⟩ := hs;obtain ⟨k, hk⟩ := okRow_get hoki j u hu;obtain ⟨g1, g2, _⟩ := FK.den (β := β) hk;refine ⟨g2, u, ?_, g1⟩;rw [h2];exact h4 i _ hr j u hu
def strData {H : Type} (ss : List ByteArray) : DataW H := .agg (ss.map fun s => .lit (.string s.data.toList))
theorem cells_of_strs {H : Type} {enc : TypeId × Value → H} {P : Program} {w : World} {base : Nat} {sp : Nat → Bool} {held : Bool} {fuel : Nat} {t e : TypeId} {n : Nat} {cs : List Value} {ss : List ByteArray} {p : List MemPlace}
  (ht : P.underlying t = some (.array n e)) (he : P.underlying e = some .string) (hce : P.cellsOf e = 1) (hct : P.cellsOf t = n)
  (h : DataW.trod enc P w base sp held fuel t cs = some (strData ss, p)) : cs = ss.map Value.string := by
 cases fuel with
 |zero => simp [DataW.trod] at h
 |succ fuel =>
  simp only [DataW.trod, ht, hce, hct, Nat.mul_one] at h
  split at h
  ·rename_i hl;obtain ⟨xs, hm, hx⟩ := Option.map_eq_some_iff.1 h
   have hxs : xs.map (·.1) = ss.map fun s => (DataW.lit (.string s.data.toList) : DataW H) := by
    have := congrArg Prod.fst hx;simpa [strData] using this
   have hxl : xs.length = n := by simpa using Lib.mapM_length hm
   have hzl : ss.length = n := by
    have := congrArg List.length hxs;simp at this;omega
   apply List.ext_getElem?;intro i
   by_cases hi : i < n
   ·obtain ⟨b, hb, hf⟩ := Lib.mapM_at hm i i (by simp [hi]);obtain ⟨z, hc, rfl, _⟩ := DataW.trod_string he hf
    have h1 : cs[i]? = some (.string z) := by
     have := congrArg (·[0]?) hc;simpa [List.getElem?_take, List.getElem?_drop] using this
    have h2 : (xs.map (·.1))[i]? = some (DataW.lit (.string z.data.toList) : DataW H) := by simp [hb]
    rw [hxs] at h2;simp only [List.getElem?_map, Option.map_eq_some_iff, DataW.lit.injEq, Lit.string.injEq] at h2;obtain ⟨z', hz', he'⟩ := h2
    have : z' = z := by
     cases z' with
     |mk a => cases z with
      |mk b => congr 1; exact Array.toList_inj.1 he'
    subst this;simp [h1, hz']
   ·rw [List.getElem?_eq_none (by omega), List.getElem?_eq_none (by simp; omega)]
  ·cases h
end Go.Sk

namespace Go.Sk
open Go.RowKit Go.ChangeShapes Go.WideShapes
theorem LaidVars_at {P : Program} {w : World} {n : String} {d : DataW Unit} : ∀ {l : List (String × DataW Unit)} {ps : List MemPlace}, DataW.LaidVars P w l ps → (n, d) ∈ l →
  ∃ g t cs fuel p, P.globalNamed n = some g ∧ (P.globals[g]?).map (·.type) = some t ∧ w.var? P n = some cs ∧ DataW.trod (fun _ => ()) P w 0 (fun _ => true) false fuel t cs.toList = some (d, p)
 |[], _, _, h => by cases h
 |(m, e) :: r, ps, ⟨g, t, cs, fuel, p, q, h1, h2, h3, h4, h5, _⟩, h => by
  cases h with
  |head => exact ⟨g, t, cs, fuel, p, h1, h2, h3, h4⟩
  |tail _ h => exact LaidVars_at h5 h
theorem tabs_of_mem {P : Program} {W : World} {laid : List (String × DataW Unit)} {name : String} {g : Nat} {t e : TypeId} (hg : P.globalNamed name = some g) (hty : (P.globals[g]?).map (·.type) = some t) (ht : P.underlying t = some (.array 6 e)) (he : P.underlying e = some .string) (hce : P.cellsOf e = 1) (hct : P.cellsOf t = 6)
  (hone : (List.range P.globals.size).all (fun i => !tabG P i || i == g) = true) (hm : (name, strData letters) ∈ laid) (h : laidMet P laid W) : ∀ i, tabG P i = true → i < W.heap.size ∧ TabAt W i := by
 obtain ⟨ps, h, _⟩ := h;obtain ⟨g', t', cs, fuel, p, hg', ht', hvar, hd⟩ := LaidVars_at h hm;obtain rfl := Option.some.inj (hg.symm.trans hg');obtain rfl := Option.some.inj (hty.symm.trans ht');have hcs := cells_of_strs ht he hce hct hd;intro i hi
 have hlt : i < P.globals.size := by
  rcases Nat.lt_or_ge i P.globals.size with h | h
  ·exact h
  ·unfold tabG at hi; rw [Array.getElem?_eq_none h] at hi; cases hi
 have h1 := List.all_eq_true.1 hone i (List.mem_range.2 hlt);rw [hi] at h1;have : i = g := by simpa using h1
 subst this
 have hat : TabAt W i := fun j s hj => by
  have := World.var?_cell hg hvar j;rw [this, ← Array.getElem?_toList, hcs, List.getElem?_map, hj]
  rfl
 refine ⟨?_, hat⟩;have h0 := hat 0 _ (show letters[0]? = some _ from rfl);unfold World.cell? at h0;rcases Nat.lt_or_ge i W.heap.size with h | h
 ·exact h
 ·simp [Array.getElem?_eq_none h] at h0
def byteData {H : Type} (ns : List Int) : DataW H := .agg (ns.map fun n => .lit (.int .u8 n))
theorem cells_of_bytes {H : Type} {enc : TypeId × Value → H} {P : Program} {w : World} {base : Nat} {sp : Nat → Bool} {held : Bool} {fuel : Nat} {t e : TypeId} {n : Nat} {cs : List Value} {ss : List Int} {p : List MemPlace}
  (ht : P.underlying t = some (.array n e)) (he : P.underlying e = some (.int .u8)) (hce : P.cellsOf e = 1) (hct : P.cellsOf t = n)
  (h : DataW.trod enc P w base sp held fuel t cs = some (byteData ss, p)) : cs = ss.map (Value.int .u8 ·) := by
 cases fuel with
 |zero => simp [DataW.trod] at h
 |succ fuel =>
  simp only [DataW.trod, ht, hce, hct, Nat.mul_one] at h
  split at h
  ·rename_i hl;obtain ⟨xs, hm, hx⟩ := Option.map_eq_some_iff.1 h
   have hxs : xs.map (·.1) = ss.map fun s => (DataW.lit (.int .u8 s) : DataW H) := by
    have := congrArg Prod.fst hx;simpa [byteData] using this
   have hxl : xs.length = n := by simpa using Lib.mapM_length hm
   have hzl : ss.length = n := by
    have := congrArg List.length hxs;simp at this;omega
   apply List.ext_getElem?;intro i
   by_cases hi : i < n
   ·obtain ⟨b, hb, hf⟩ := Lib.mapM_at hm i i (by simp [hi]);obtain ⟨z, hc, rfl, _⟩ := DataW.trod_int he hf
    have h1 : cs[i]? = some (.int .u8 z) := by
     have := congrArg (·[0]?) hc;simpa [List.getElem?_take, List.getElem?_drop] using this
    have h2 : (xs.map (·.1))[i]? = some (DataW.lit (.int .u8 z) : DataW H) := by simp [hb]
    rw [hxs] at h2;simp only [List.getElem?_map, Option.map_eq_some_iff, DataW.lit.injEq, Lit.int.injEq, true_and] at h2;obtain ⟨z', hz', rfl⟩ := h2;simp [h1, hz']
   ·rw [List.getElem?_eq_none (by omega), List.getElem?_eq_none (by simp; omega)]
  ·cases h
theorem tabsB_of_mem {P : Program} {W : World} {laid : List (String × DataW Unit)} {name : String} {g : Nat} {t e : TypeId} (hg : P.globalNamed name = some g) (hty : (P.globals[g]?).map (·.type) = some t) (ht : P.underlying t = some (.array 32 e)) (he : P.underlying e = some (.int .u8)) (hce : P.cellsOf e = 1) (hct : P.cellsOf t = 32)
  (hone : (List.range P.globals.size).all (fun i => !tabBG P i || i == g) = true) (hm : (name, byteData db32) ∈ laid) (h : laidMet P laid W) : ∀ i, tabBG P i = true → i < W.heap.size ∧ TabBAt W i := by
 obtain ⟨ps, h, _⟩ := h;obtain ⟨g', t', cs, fuel, p, hg', ht', hvar, hd⟩ := LaidVars_at h hm;obtain rfl := Option.some.inj (hg.symm.trans hg');obtain rfl := Option.some.inj (hty.symm.trans ht');have hcs := cells_of_bytes ht he hce hct hd;intro i hi
 have hlt : i < P.globals.size := by
  rcases Nat.lt_or_ge i P.globals.size with h | h
  ·exact h
  ·unfold tabBG at hi; rw [Array.getElem?_eq_none h] at hi; cases hi
 have h1 := List.all_eq_true.1 hone i (List.mem_range.2 hlt);rw [hi] at h1;have : i = g := by simpa using h1
 subst this
 have hat : TabBAt W i := fun j s hj => by
  have := World.var?_cell hg hvar j;rw [this, ← Array.getElem?_toList, hcs, List.getElem?_map, hj]
  rfl
 refine ⟨?_, hat⟩;have h0 := hat 0 _ (show db32[0]? = some _ from rfl);unfold World.cell? at h0;rcases Nat.lt_or_ge i W.heap.size with h | h
 ·exact h
 ·simp [Array.getElem?_eq_none h] at h0
end Go.Sk

namespace Go.Sk
open Go.RowKit Go.WideShapes Go.ChangeShapes
section
variable {H : Type} {enc : TypeId × Value → H} {P : Program} {w : World} {base : Nat} {sp : Nat → Bool} {held : Bool}
theorem rows_opn {t e : TypeId} {ks : List FK} {n : Nat} {c : List Value} {x : DataW H × List MemPlace} (ht : P.underlying t = some (.slice e)) (hb : flatB P e ks = true) (hk0 : 0 < ks.length)
  (hn : DataW.trod enc P w base sp held n t c = some x) : ∃ v q rows, c = [v] ∧ RwIn w v q ks rows := by
 have hce : P.cellsOf e = ks.length := by simp only [flatB, Bool.and_eq_true, beq_iff_eq] at hb; exact hb.1
 rcases Deep.open_slice ht hn with ⟨rfl, _⟩ | ⟨a, l0, c0, m, n', D, Pl, rfl, hbb, hlc, hcm, hmm, _, hel⟩
 ·exact ⟨_, none, [], rfl, ⟨by simp, by simp, ⟨none, 0, rfl, by simp, by simp⟩, .inl ⟨rfl, rfl⟩⟩⟩
 ·have hml : l0 ≤ m := by rw [hmm]; split <;> omega
  obtain ⟨R, hR⟩ := Deep.choose_lt (α := List Value) (p := fun i cs => w.cells? base (a.add (i * P.cellsOf e)) (P.cellsOf e) = some cs ∧ DataW.trod enc P w base sp held n' e cs = some (D i, Pl i)) hel;have hrl : ((List.range l0).map R).length = l0 := by simp
  have hget : ∀ i r, ((List.range l0).map R)[i]? = some r → i < l0 ∧ r = R i := fun i r h => by
   simp only [List.getElem?_map, Option.map_eq_some_iff] at h;obtain ⟨k, h1, h2⟩ := h
   have hi : i < l0 := by
    rcases Nat.lt_or_ge i l0 with h | h
    ·exact h
    ·rw [List.getElem?_eq_none (by simpa using h)] at h1; cases h1
   rw [List.getElem?_range hi] at h1
   cases h1
   exact ⟨hi, h2.symm⟩
  have hok : ∀ i, i < m → okRow ks (R i) := fun i hi => flat_open hb (hR i hi).2
  have hrow : ∀ r ∈ (List.range l0).map R, okRow ks r := fun r hr => by
   obtain ⟨i, hi, rfl⟩ := List.mem_map.1 hr;exact hok i (by have := List.mem_range.1 hi; omega)
  by_cases h0 : l0 = 0
  ·subst h0;exact ⟨_, none, [], rfl, ⟨by simp, by simp, ⟨some a, c0, rfl, by simp, by simp⟩, .inl ⟨rfl, rfl⟩⟩⟩
  ·have hcell : ∀ i, i < l0 → ∀ (j : Nat) (u : Value), (R i)[j]? = some u → w.cell? ((a.add (i * ks.length)).add j) = some u := fun i hi j u hj => by
    obtain ⟨h1, h2⟩ := hR i (by omega);obtain ⟨_, hlen, hc⟩ := World.cells?_some h1;have hjl : j < P.cellsOf e := by rw [← hlen]; exact (List.getElem?_eq_some_iff.1 hj).1
    rw [← hce, hc j hjl];exact hj
   have hr0 : ∃ u, (R 0)[0]? = some u := by
    have := okRow_len (hok 0 (by omega));exact ⟨_, List.getElem?_eq_getElem (by omega)⟩
   obtain ⟨u0, hu0⟩ := hr0;have hc0 := hcell 0 (by omega) 0 u0 hu0;have hsp : a.spot = none := World.cell?_spot (by unfold Addr.add at hc0; simpa using hc0);obtain ⟨b, o, s0⟩ := a;simp only at hsp;subst hsp
   have hblk : b < w.heap.size := by
    rw [z3e, z3e] at hc0;unfold World.cell? at hc0;rcases Nat.lt_or_ge b w.heap.size with h | h
    ·exact h
    ·simp [Array.getElem?_eq_none h] at hc0
   refine ⟨_, some ⟨b, o, ks.length, 0⟩, (List.range l0).map R, rfl, ⟨by omega, hrow, ⟨some ⟨b, o, none⟩, c0, by rw [hrl], by omega, fun _ => ⟨_, rfl, rfl⟩⟩, .inr ⟨_, rfl, rfl, hblk, fun i r hr j u hj => ?_⟩⟩⟩;obtain ⟨hi, rfl⟩ := hget i r hr;have := hcell i hi j u hj;rw [z3e, z3e] at this;exact this
end
end Go.Sk

namespace Go.Sk
open Go.RowKit Go.WideShapes Go.ChangeShapes
def nestB (P : Program) (t t1 t2 : TypeId) (n1 : Nat) : Bool := match P.underlying t with
 |some (.struct fs) => (match fs[0]?, fs[1]? with
  |some f, some g => f.offset == 0 && g.offset == n1 && f.type == t1 && g.type == t2 && P.cellsOf t1 == n1 && P.cellsOf t2 == 1 && P.cellsOf t == n1 + 1
  |_, _ => false)
 |_ => false
structure El where
 c : List Value
 v : Value
 q : Option Loc
 rows : List (List Value)
def noEl : El := ⟨[], undef, none, []⟩
section
variable {H : Type} {enc : TypeId × Value → H} {P : Program} {w : World} {base : Nat} {sp : Nat → Bool} {held : Bool}
theorem nest_open {t t1 t2 e2 : TypeId} {k1 k2 : List FK} {fuel : Nat} {cs : List Value} {x : DataW H × List MemPlace} (hT : nestB P t t1 t2 k1.length = true) (b1 : flatB P t1 k1 = true) (h2 : P.underlying t2 = some (.slice e2)) (b2 : flatB P e2 k2 = true) (p2 : 0 < k2.length)
  (h : DataW.trod enc P w base sp held fuel t cs = some x) : ∃ e : El, cs = e.c ++ [e.v] ∧ okRow k1 e.c ∧ RwIn w e.v e.q k2 e.rows := by
 unfold nestB at hT
 split at hT
 ·rename_i fs hu
  split at hT
  ·rename_i f g hf hg;simp only [Bool.and_eq_true, beq_iff_eq] at hT;obtain ⟨⟨⟨⟨⟨⟨o1, o2⟩, y1⟩, y2⟩, c1⟩, c2⟩, c3⟩ := hT;obtain ⟨xs, m, _, _, hl, hxl, hfs⟩ := DataW.trod_struct hu h;have g1 := hfs 0 f hf;have g2 := hfs 1 g hg;have i0 : 0 < xs.length := by rw [hxl]; exact (Array.getElem?_eq_some_iff.1 hf).1
   have i1 : 1 < xs.length := by rw [hxl]; exact (Array.getElem?_eq_some_iff.1 hg).1
   rw [List.getElem?_eq_getElem i0, o1, y1, c1, List.drop_zero] at g1;rw [List.getElem?_eq_getElem i1, o2, y2, c2] at g2;obtain ⟨v, q, rows, hv, hr⟩ := rows_opn h2 b2 p2 g2;have hk := flat_open b1 g1;have h3 : (cs.drop k1.length).length = 1 := by rw [List.length_drop, hl, c3]; omega
   rw [List.take_of_length_le (by omega)] at hv;exact ⟨⟨cs.take k1.length, v, q, rows⟩, by simp only; rw [← hv, List.take_append_drop], hk, hr⟩
  ·cases hT
 ·cases hT
structure NsIn (w : World) (v : Value) (q : Option Loc) (k1 k2 : List FK) (els : List El) : Prop where
 len : els.length ≤ maxLen
 ok : ∀ e ∈ els, okRow k1 e.c ∧ RwIn w e.v e.q k2 e.rows
 val : ∃ a c, v = .slice a els.length c ∧ els.length ≤ c ∧ (0 < els.length → ∃ L, q = some L ∧ a = some ⟨L.blk, L.off, none⟩)
 mem : (els.length = 0 ∧ q = none) ∨ ∃ L, q = some L ∧ L.sz = k1.length + 1 ∧ L.blk < w.heap.size ∧ ∀ (i : Nat) (e : El), els[i]? = some e → ∀ (j : Nat) (u : Value), (e.c ++ [e.v])[j]? = some u → w.cell? ⟨L.blk, L.off + i * (k1.length + 1) + j, none⟩ = some u
theorem nest_opn {t e t1 t2 e2 : TypeId} {k1 k2 : List FK} {n : Nat} {c : List Value} {x : DataW H × List MemPlace} (ht : P.underlying t = some (.slice e)) (hT : nestB P e t1 t2 k1.length = true) (b1 : flatB P t1 k1 = true) (h2 : P.underlying t2 = some (.slice e2)) (b2 : flatB P e2 k2 = true) (p2 : 0 < k2.length)
  (hn : DataW.trod enc P w base sp held n t c = some x) : ∃ v q els, c = [v] ∧ NsIn w v q k1 k2 els := by
 have hce : P.cellsOf e = k1.length + 1 := by
  unfold nestB at hT
  split at hT
  ·split at hT
   ·simp only [Bool.and_eq_true, beq_iff_eq] at hT; exact hT.2
   ·cases hT
  ·cases hT
 rcases Deep.open_slice ht hn with ⟨rfl, _⟩ | ⟨a, l0, c0, m, n', D, Pl, rfl, hbb, hlc, hcm, hmm, _, hel⟩
 ·exact ⟨_, none, [], rfl, ⟨by simp, by simp, ⟨none, 0, rfl, by simp, by simp⟩, .inl ⟨rfl, rfl⟩⟩⟩
 ·have hml : l0 ≤ m := by rw [hmm]; split <;> omega
  haveI : Inhabited El := ⟨noEl⟩
  obtain ⟨R, hR⟩ := Deep.choose_lt (α := El) (p := fun i el => w.cells? base (a.add (i * P.cellsOf e)) (P.cellsOf e) = some (el.c ++ [el.v]) ∧ okRow k1 el.c ∧ RwIn w el.v el.q k2 el.rows) (fun i hi => by
   obtain ⟨cs, g1, g2⟩ := hel i hi;obtain ⟨el, rfl, g3, g4⟩ := nest_open hT b1 h2 b2 p2 g2
   exact ⟨el, g1, g3, g4⟩)
  have hrl : ((List.range l0).map R).length = l0 := by simp
  have hget : ∀ i r, ((List.range l0).map R)[i]? = some r → i < l0 ∧ r = R i := fun i r h => by
   simp only [List.getElem?_map, Option.map_eq_some_iff] at h;obtain ⟨k, h1, h2⟩ := h
   have hi : i < l0 := by
    rcases Nat.lt_or_ge i l0 with h | h
    ·exact h
    ·rw [List.getElem?_eq_none (by simpa using h)] at h1; cases h1
   rw [List.getElem?_range hi] at h1
   cases h1
   exact ⟨hi, h2.symm⟩
  have hrow : ∀ r ∈ (List.range l0).map R, okRow k1 r.c ∧ RwIn w r.v r.q k2 r.rows := fun r hr => by
   obtain ⟨i, hi, rfl⟩ := List.mem_map.1 hr;exact (hR i (by have := List.mem_range.1 hi; omega)).2
  by_cases h0 : l0 = 0
  ·subst h0;exact ⟨_, none, [], rfl, ⟨by simp, by simp, ⟨some a, c0, rfl, by simp, by simp⟩, .inl ⟨rfl, rfl⟩⟩⟩
  ·have hcell : ∀ i, i < l0 → ∀ (j : Nat) (u : Value), ((R i).c ++ [(R i).v])[j]? = some u → w.cell? ((a.add (i * (k1.length + 1))).add j) = some u := fun i hi j u hj => by
    obtain ⟨h1, _⟩ := hR i (by omega);obtain ⟨_, hlen, hc⟩ := World.cells?_some h1;have hjl : j < P.cellsOf e := by rw [← hlen]; exact (List.getElem?_eq_some_iff.1 hj).1
    rw [← hce, hc j hjl];exact hj
   have hr0 : ∃ u, ((R 0).c ++ [(R 0).v])[0]? = some u := ⟨_, List.getElem?_eq_getElem (by simp)⟩;obtain ⟨u0, hu0⟩ := hr0;have hc0 := hcell 0 (by omega) 0 u0 hu0;have hsp : a.spot = none := World.cell?_spot (by unfold Addr.add at hc0; simpa using hc0);obtain ⟨b, o, s0⟩ := a;simp only at hsp;subst hsp
   have hblk : b < w.heap.size := by
    rw [z3e, z3e] at hc0;unfold World.cell? at hc0;rcases Nat.lt_or_ge b w.heap.size with h | h
    ·exact h
    ·simp [Array.getElem?_eq_none h] at hc0
   refine ⟨_, some ⟨b, o, k1.length + 1, 0⟩, (List.range l0).map R, rfl, ⟨by omega, hrow, ⟨some ⟨b, o, none⟩, c0, by rw [hrl], by omega, fun _ => ⟨_, rfl, rfl⟩⟩, .inr ⟨_, rfl, rfl, hblk, fun i r hr j u hj => ?_⟩⟩⟩;obtain ⟨hi, rfl⟩ := hget i r hr;have := hcell i hi j u hj;rw [z3e, z3e] at this;exact this
theorem nest_params {t e t1 t2 e2 : TypeId} {k1 k2 : List FK} {v : Value} {d : DataW H} {p : List MemPlace} (ht : P.underlying t = some (.slice e)) (hT : nestB P e t1 t2 k1.length = true) (b1 : flatB P t1 k1 = true) (h2 : P.underlying t2 = some (.slice e2)) (b2 : flatB P e2 k2 = true) (p2 : 0 < k2.length)
  {b0 : Nat} (hval : Value.okWide P w .any b0 t v) (h : DataW.Trod enc P w base sp held t v d p) : ∃ q els, NsIn w v q k1 k2 els := by
 obtain ⟨n, hn⟩ := h;obtain ⟨a0, l0, c0, rfl⟩ := okWide_slice ht hval;have hcs : (Value.slice a0 l0 c0).cells.toList = [Value.slice a0 l0 c0] := rfl;rw [hcs] at hn;obtain ⟨v, q, els, hv, hx⟩ := nest_opn ht hT b1 h2 b2 p2 hn
 cases hv
 exact ⟨q, els, hx⟩
end
def elQ (els : List El) : Nat → Option Loc
 |0 => none
 |i + 1 => (els.getD i noEl).q
theorem nest_in {β : Env} {w : World} {v : Value} {q : Option Loc} {k1 k2 : List FK} {els : List El} (h : NsIn w v q k1 k2 els) {id f : Nat} (hq : β id 0 = q) (hqf : ∀ k, β f k = elQ els k) (e e2 : TypeId)
  (F : Nat → List SV) (hF : ∀ (i : Nat) (r : El), els[i]? = some r → F i = r.c.map svOf ++ [.slc false f (i + 1) 0 r.rows.length])
  (G : Nat → Obj) (hG : ∀ (i : Nat) (r : El), els[i]? = some r → ∃ g, G i = .row ⟨false, false, e2, k2.length, r.rows.length, g⟩ ∧ ∀ (j : Nat) (u : List Value), r.rows[j]? = some u → g j = u.map svOf) :
  den β (.slc false id 0 0 els.length) v ∧ (Obj.row ⟨false, false, e, k1.length + 1, els.length, F⟩).holds β w q ∧ ∀ k, k < els.length + 1 → (fam false e2 k2.length G k).holds β w (β f k) := by
 obtain ⟨_, hok, ⟨a, c, rfl, hc, hp⟩, hm⟩ := h
 have hmem : ∀ i (hi : i < els.length), els.getD i noEl = els[i] := fun i hi => by
  rw [List.getD, List.getElem?_eq_getElem hi]; rfl
 have hrow : ∀ i (hi : i < els.length), ∀ (g : Nat → List SV), (∀ (j : Nat) (u : List Value), (els[i]).rows[j]? = some u → g j = u.map svOf) → den β (.slc false f (i + 1) 0 (els[i]).rows.length) (els[i]).v ∧ (Obj.row ⟨false, false, e2, k2.length, (els[i]).rows.length, g⟩).holds β w (els[i]).q := fun i hi g hg => by
  have h2 := (hok _ (List.getElem_mem hi)).2;obtain ⟨d1, d2⟩ := rows_in (β := Env.set β f fun k => if k = 0 then (els[i]).q else β f k) (id := f) h2 (by simp [Env.set]) e2 g hg;refine ⟨?_, ?_⟩
  ·simp only [den, z5l, Bool.false_eq_true, if_false] at d1 ⊢;obtain ⟨a, c, e1, e2, e3⟩ := d1;refine ⟨a, c, e1, e2, fun hp => ?_⟩;obtain ⟨L, g1, g2⟩ := e3 hp;simp only [Env.set, if_true] at g1;refine ⟨L, ?_, g2⟩;rw [hqf, elQ, hmem i hi, g1]
  ·rcases d2 with d2 | ⟨L, g1, g2, g3, g4, g5⟩
   ·exact .inl d2
   ·refine .inr ⟨L, g1, g2, g3, fun j hj => ?_, fun h => by cases h⟩;obtain ⟨g6, g7⟩ := g4 j hj;refine ⟨g6, fun k s hs => ?_⟩;obtain ⟨g8, u, g9, g10⟩ := g7 k s hs;refine ⟨g8, u, g9, ?_⟩;have hr := List.getElem?_eq_getElem (show j < (els[i]).rows.length from hj);have : g j = (els[i]).rows[j].map svOf := hg j _ hr;simp only at hs;rw [this, List.getElem?_map, Option.map_eq_some_iff] at hs;obtain ⟨u', hu', rfl⟩ := hs;obtain ⟨kk, hkk⟩ := okRow_get (h2.ok _ (List.getElem_mem (show j < (els[i]).rows.length from hj))) k u' hu'
    cases kk <;> simp only [FK.ok] at hkk <;> obtain ⟨z, hz⟩ := hkk
    ·obtain ⟨rfl, _⟩ := hz; exact g10
    ·obtain ⟨rfl, _⟩ := hz; exact g10
    ·subst hz; exact g10
 refine ⟨?_, ?_, ?_⟩
 ·simp only [den, z5l, Bool.false_eq_true, if_false];refine ⟨a, c, rfl, hc, fun h => ?_⟩;obtain ⟨L, h1, h2⟩ := hp h;exact ⟨L, hq.trans h1, by rw [h2]; simp⟩
 ·rcases hm with hm | ⟨L, h1, h2, h3, h4⟩
  ·exact .inl hm
  ·refine .inr ⟨L, h1, h2, h3, fun i hi => ?_, fun h => by cases h⟩;have hi' : i < els.length := hi;have hr := List.getElem?_eq_getElem hi';have hfi := hF i _ hr;obtain ⟨g, _, hg2⟩ := hG i _ hr;have hd := (hrow i hi' g hg2).1;obtain ⟨hok1, _⟩ := hok _ (List.getElem_mem hi')
   show (F i).length = k1.length + 1 ∧ ∀ (j : Nat) (s : SV), (F i)[j]? = some s → _
   rw [hfi];refine ⟨by simp [okRow_len hok1], fun j s hs => ?_⟩;have hl1 := okRow_len hok1;rcases Nat.lt_or_ge j (els[i]).c.length with hj | hj
   ·rw [List.getElem?_append_left (by simpa using hj), List.getElem?_map, Option.map_eq_some_iff] at hs;obtain ⟨u, hu, rfl⟩ := hs;obtain ⟨k, hk⟩ := okRow_get hok1 j u hu;obtain ⟨g1, g2, _⟩ := FK.den (β := β) hk;refine ⟨g2, u, ?_, g1⟩;rw [h2];exact h4 i _ hr j u (by rw [List.getElem?_append_left hj]; exact hu)
   ·have hj2 : j = (els[i]).c.length := by
     have := (List.getElem?_eq_some_iff.1 hs).1;simp at this;omega
    subst hj2;rw [List.getElem?_append_right (by simp)] at hs;simp at hs;subst hs;refine ⟨rfl, (els[i]).v, ?_, hd⟩;rw [h2];exact h4 i _ hr _ _ (by simp)
 ·intro k hk;rw [hqf]
  cases k with
  |zero => exact .inl ⟨rfl, rfl⟩
  |succ i =>
   have hi : i < els.length := by omega
   obtain ⟨g, hg1, hg2⟩ := hG i _ (List.getElem?_eq_getElem hi);rw [z16, hg1, elQ, hmem i hi];exact (hrow i hi g hg2).2
end Go.Sk

namespace Go.Proofs
open Go.Sk
theorem IrHm.s {a : Prop} (h : a := by simp [SV.wkL, SV.wk, z19, z1q, Sk.get, Sk.find, Sk.one, za.eq_1, za.eq_2, za.eq_3, zw, z1a, z12, SV.renL, SV.ren, Obj.lt_row, SV.ltL, SV.lt, z61, z3c, zo, z1y, Obj.own.eq_1, Obj.own.eq_2, Obj.own.eq_3, Obj.own.eq_4, zz, zg, zy, z1f, nds, Nd.sv, z15, z11, z3t, z3u, z2b, z32, z3b, z28, z1n, z2z, z12, z35, z5f, z36, zk, z2c, z27]) : a := h
theorem IrHm.ca {P : Program} {f : FuncId} {args args0 : List SV} {H0 H : AH} {R : SV → AH → Prop} {dr : Bool} {W : List Nat} {k : SV → AH → Prop} (hF : ze P f args0 H0 R) (ρ : Nat → Nat) (hk : ∀ s0 H1, R s0 H1 → ∀ s1 H2, s1 = s0.ren (z4a H0.nxt H.nxt ρ) → H2 = after H0.nxt ρ H0 H H1 → k s1 H2) (q : CaQ args args0 ρ H0 H dr W := by constructor <;> exact IrHm.s) (r : CaR ρ H0 H := by exact ⟨rfl, rfl⟩) : z42 P f args H dr W k := caS hF ρ hk q r
theorem IrHm.t {s e : SV} {H g : AH} (q : AfQ s e H g := by constructor <;> (simp only [z1r, after, z4a, id, z1w, reduceCtorEq, Nat.reduceEqDiff, Nat.one_ne_zero, Nat.zero_ne_one, z46, z1t, zo, Sk.one, Obj.own.eq_1, Obj.own.eq_2, Obj.own.eq_3, Obj.own.eq_4, Obj.ren.eq_1, Obj.ren.eq_2, Obj.ren_blk, Row.ren, SV.ren, SV.renL, List.map_cons, List.map_nil, List.nil_append, List.cons_append, ↓reduceIte, Nat.reduceLT, Nat.reduceAdd, Nat.reduceSub, Nat.reduceEqDiff, Nat.add_zero, Bool.false_eq_true, Tryz.tyInt, Tryz.szInt, Tryz.tyStr, Tryz.tyU32, Tryz.tyNode, Tryz.szNode, Tryz.zNode, Tryz.tyNodes, Tryz.szNodes, zz, zg, nds, Nd.sv, Tryz.tyErr, Tryz.tyBool, z36, zk, Tryz.tyLinked, Tryz.szLinked, Tryz.tyLinkeds, Tryz.szLinkeds, z2i, z4r, z6l, z59, z64, z65, z24]; exact rfl)) : AfQ s e H g := q
theorem IrHm.af {s e e1 : SV} {H g g1 : AH} (h1 : s = e) (h2 : H = g) (q : AfQ e e1 g g1 := by exact IrHm.t) : s = e1 ∧ H = g1 := ⟨h1.trans q.s, h2.trans q.h⟩
theorem IrHm.c1 {P : Program} {f : FuncId} {args args0 : List SV} {H0 H Y g : AH} {X e : SV} {dr : Bool} {W : List Nat} {k : SV → AH → Prop} (hF : ze P f args0 H0 fun s H1 => s = X ∧ H1 = Y) (ρ : Nat → Nat) (h : k e g) (q : CaQ args args0 ρ H0 H dr W := by constructor <;> exact IrHm.s) (r : CaR ρ H0 H := by exact ⟨rfl, rfl⟩) (b : AfQ (X.ren (z4a H0.nxt H.nxt ρ)) e (after H0.nxt ρ H0 H Y) g := by exact IrHm.t) : z42 P f args H dr W k := c1S hF ρ h q r b
theorem IrHm.g {X : Cx} {fr : Fr} {H : AH} {fr1 : Fr} {H1 : AH} (ρ : Nat → Nat) (q : GvQ X ρ fr H fr1 H1 := by constructor <;> exact IrHm.s) (r : GvR X ρ H1 := by exact ⟨rfl, rfl, Nat.le_of_ble_eq_true rfl, rfl⟩) : z2r X ρ fr H fr1 H1 := gvS ρ q r
theorem z2j {a c d : Prop} (r : a → c) (h : d) (e : Sd a d := by simp only [stp, isQ, z3q, Sk.get, Sk.put, z1h, zl, ↓reduceIte, reduceCtorEq, Nat.reduceEqDiff, true_and, and_true, true_implies, implies_true, forall_const, imp_self, Bool.false_eq_true, false_implies, false_and, and_false, Bool.false_and, Bool.and_false, qop, grdK, List.getElem?_toArray, List.getElem?_cons_zero, List.getElem?_cons_succ, beq_true, beq_false, beq_self_eq_true, Bool.and_true, Bool.true_and, Bool.not_true, Bool.not_false, Bool.not_not, Bool.and_eq_true, Bool.not_eq_true', Bool.not_eq_false', zu, Bool.cond_true_left, Bool.cond_false_left, Bool.cond_true_right, Bool.cond_false_right, cond_true, cond_false, and_imp, z3d, Sk.find, Sk.one, z16, z18, Kd.agg, List.contains_nil, List.contains_cons, Nat.reduceBEq, Bool.or_false, Bool.true_or, Bool.or_true, Bool.false_or, ite_self, Nat.lt_one_iff, Nat.zero_add, Nat.add_zero, Nat.reduceAdd, Nat.reduceMul, Nat.reduceSub, Nat.reduceLT, Nat.reduceLeDiff, Nat.le_refl, Nat.zero_le, ne_eq, Nat.one_ne_zero, not_false_eq_true, not_true_eq_false, Int.toNat_natCast, Int.reduceToNat, List.length_cons, List.length_nil, and_self, Kd.slice.injEq, exists_eq', Option.map_some, Option.some.injEq, List.drop_zero, List.drop_succ_cons, List.take_succ_cons, List.take_zero, List.take_nil, List.drop_nil, List.nil_append, List.cons_append, List.append_nil, List.append_eq, List.all_cons, List.all_nil, spl, z1k, SV.cells, SV.scalar, binK, z4i, z4h, intK, z25, strK, z2g, z4g, z30, unK, z49, z2l, z2m, z45, z2n, z2o, optK, z2q, bndK, Option.isSome_some, Option.isSome_none, Nat.sub_zero, or_true, true_or, z2f, z2k, z3w, z2s, lenK, zx.len, zh.n, z3v, mmK, z1d, eop, z4j, srcK, z10, z5t, z2v, capK, z4k, z1l, z1w, z2a, boxK, z1m, z2y, z2e, updF, mkK, z43, zx.ofKd, zh.ofKd, z44, zx.add, zx.okKd, zh.put, zh.okKd, zh.okP, z2p, zx.has, zh.get, zh.z, Tryz.tyInt, Tryz.szInt, Tryz.tyStr, Tryz.tyU32, Tryz.tyNode, Tryz.szNode, Tryz.zNode, Tryz.tyNodes, Tryz.szNodes, zz, zg, nds, Nd.sv, Tryz.tyErr, Tryz.tyBool, z36, zk, Tryz.tyLinked, Tryz.szLinked, Tryz.tyLinkeds, Tryz.szLinkeds]; (repeat (with_reducible apply Sd.and; exact z9)); exact Sd.rfl) : c := r (e.f h)
set_option maxHeartbeats 4000000 in
theorem reports_spec (ls : List Int) (xs : List Nd) (l : List Lk) (h : Int) (hx : ls.length ≤ 9223372036854775807) (hnx : xs.length ≤ 9223372036854775807) (hlx : l.length ≤ 9223372036854775807) (hl : lvOk l) :
  ze Tryz.prog 3 [.slc false 0 0 0 ls.length, .slc false 1 0 0 xs.length, .slc false 2 0 0 l.length, .int .i64 h] ⟨4, [(0, z36 ls), (1, zz xs), (2, Sk.one (.row ⟨false, false, 52, 2, l.length, lkR false 3 l⟩)), (3, (l.length + 1, fam false 49 2 (lkF false l)))]⟩ (fun s _ => s = .bool true) := by
 refine ze.ofC false 75 [.tmp 8] Tryz.func3 rfl rfl Tryz.ntmps3 Tryz.results3 rfl ?_;intro w0 own0 β0 Q hQ hQn;simp only [z1c];refine sg [0, 1, 2, 3] rfl ?_;intro K hK;refine z2j z5 ?_;refine z7 (z6 (hK _ _ ?_)); clear hK K;refine sg [1, 2, 3, 9] rfl ?_;intro K hK;refine z2j z5 ?_;refine z2j z5 ?_;refine IrHm.ca (new_spec ls hx) (id) ?_;rintro s0 H0 ⟨m, hm, rfl, rfl⟩ s1 H1 hs1 hH1;obtain ⟨hs2, hH2⟩ := IrHm.af hs1 hH1;clear hs1 hH1;subst hs2 hH2;repeat (with_reducible apply ai;exact z9)
 refine z2j z5 ?_;refine z7 (z6 (hK _ _ ?_)); clear hK K;refine Cs.seq ?_;refine sg [1, 2, 3, 9, 10] rfl ?_;intro K hK;refine z2j z5 ?_;refine z7 (z6 (hK _ _ ?_)); clear hK K;refine Cs.block ?_;intro Q0 hN0 hX0 hR0 hE0;refine Cs.loop (σ := Nat × Nat) (fun σ => σ.1 ≤ m ∧ σ.2 ≤ 3) (fun σ => 3 - σ.2) (fun σ => [(1, .slc false 1 0 0 xs.length), (2, .slc false 2 0 0 l.length), (3, .int .i64 h), (9, .ptr 4 0 0 0), (10, .int .i64 σ.2)]) (fun σ => ⟨5, [(4, zk 0 m σ.1), (0, z36 ls), (1, zz xs), (2, Sk.one (.row ⟨false, false, 52, 2, l.length, lkR false 3 l⟩)), (3, (l.length + 1, fam false 49 2 (lkF false l)))]⟩) (0, 0) ⟨Nat.zero_le _, Nat.zero_le _⟩ (ρ := id) (IrHm.g id) ?_;rintro ⟨at1, i⟩ ha1 QL1 hL1 hRL1 hEL1;refine Cs.seq ?_;refine sg [1, 2, 3, 9, 10, 17] rfl ?_;intro K hK;iterate 2 (refine z2j z5 ?_)
 refine z7 (z6 (hK _ _ ?_)); clear hK K;refine Cs.cond _ rfl ?_ ?_
 ·intro h17;replace h17 := z8 h17;obtain ⟨ha1, hi3⟩ := ha1;dsimp only at ha1 hi3;refine Cs.skip ?_;refine Cs.seq ?_;refine Cs.block ?_;intro Q1 hN1 hX1 hR1 hE1;refine sg [1, 2, 3, 9, 10, 11] rfl ?_;intro K hK;refine z2j z5 ?_;refine z2j z5 ?_;refine IrHm.ca (roster_spec ls m at1 6 hx hm ha1 (by omega)) (fun k => if k = 0 then 4 else 0) ?_;rintro s0 H0 ⟨ys, at2, ha2, hyl, hyc, rfl, rfl⟩ s1 H1 hs1 hH1;obtain ⟨hs2, hH2⟩ := IrHm.af hs1 hH1;clear hs1 hH1;subst hs2 hH2;repeat (with_reducible apply ai;exact z9)
  refine z2j z5 ?_;refine z7 (z6 (hK _ _ ?_)); clear hK K;refine sg [1, 2, 3, 9, 10, 11, 12] rfl ?_;intro K hK;refine z2j z5 ?_;refine z2j z5 ?_;refine IrHm.ca (z2d ls m at2 4 hx hm ha2 (by omega)) (fun k => if k = 0 then 4 else 0) ?_;rintro s0 H0 ⟨v, at3, ha3, h2, h3, h4, rfl, rfl⟩ s1 H1 hs1 hH1;obtain ⟨hs2, hH2⟩ := IrHm.af hs1 hH1;clear hs1 hH1;subst hs2 hH2;repeat (with_reducible apply ai;exact z9)
  refine z2j z5 ?_;refine z7 (z6 (hK _ _ ?_)); clear hK K;refine sg [1, 2, 3, 9, 10, 11, 12, 13] rfl ?_;intro K hK;iterate 3 (refine z2j z5 ?_)
  refine z2j z5 ?_;refine IrHm.ca (links_spec ls m at3 hx hm ha3 ys ys.length rfl (by omega) v 4 (by omega)) (fun k => if k = 0 then 4 else if k = 1 then 0 else 5) ?_;rintro s0 H0 ⟨y, at4, ha4, hL, rfl, rfl⟩ s1 H1 hs1 hH1;obtain ⟨hs2, hH2⟩ := IrHm.af hs1 hH1;clear hs1 hH1;subst hs2 hH2;repeat (with_reducible apply ai;exact z9)
  have hlv := hL.ok;have hll := hL.1;refine z2j z5 ?_;refine z7 (z6 (hK _ _ ?_)); clear hK K;refine Cs.seq ?_;refine Cs.seq ?_;refine Cs.regG [1, 2, 3, 9, 10, 11, 12, 13, 33] rfl ?_;intro K hK hG
  have hk8 : ∀ (B : Bool) (at5 : Nat), at5 ≤ m → K [(1, .slc false 1 0 0 xs.length), (2, .slc false 2 0 0 l.length), (3, .int .i64 h), (9, .ptr 4 0 0 0), (10, .int .i64 i), (11, .slc true 5 0 0 ys.length), (12, .int .i64 v), (13, .slc true 6 0 0 y.length), (33, .bool B)] ⟨8, [(6, Sk.one (.row ⟨true, false, 52, 2, y.length, lkR true 7 y⟩)), (7, (y.length + 1, fam true 49 2 (lkF true y))), (4, zk 0 m at5), (5, zg ys), (0, z36 ls), (1, zz xs), (2, Sk.one (.row ⟨false, false, 52, 2, l.length, lkR false 3 l⟩)), (3, (l.length + 1, fam false 49 2 (lkF false l)))]⟩ := by
   intro B at5 ha5;refine hK _ _ ?_;clear hG hK K;refine Cs.meet (σ := List Nd × Nat) (fun σ => σ.1.length ≤ 7 ∧ σ.2 ≤ m) (fun σ => [(1, .slc false 1 0 0 xs.length), (2, .slc false 2 0 0 l.length), (3, .int .i64 h), (9, .ptr 4 0 0 0), (10, .int .i64 i), (11, .slc true 5 0 0 σ.1.length), (12, .int .i64 v), (13, .slc true 6 0 0 y.length)]) (fun σ => ⟨8, [(6, Sk.one (.row ⟨true, false, 52, 2, y.length, lkR true 7 y⟩)), (7, (y.length + 1, fam true 49 2 (lkF true y))), (4, zk 0 m σ.2), (5, zg σ.1), (0, z36 ls), (1, zz xs), (2, Sk.one (.row ⟨false, false, 52, 2, l.length, lkR false 3 l⟩)), (3, (l.length + 1, fam false 49 2 (lkF false l)))]⟩) _ rfl ?_ ?_ ?_
   ·intro h33 QM hM33 hR33 hE33
    try replace h33 := z8 h33
    refine Cs.reg [1, 2, 3, 9, 10, 11, 12, 13] rfl ?_;intro K hK;iterate 2 (refine z2j z5 ?_)
    refine z2j z5 ?_;refine IrHm.ca (oddRoster_spec ls m at5 hx hm ha5 ys ys.length rfl (by omega)) (fun k => if k = 0 then 4 else if k = 1 then 0 else 5) ?_;rintro s0 H0 ⟨zs, at6, ha6, hzl, rfl, rfl⟩ s1 H1 hs1 hH1;obtain ⟨hs2, hH2⟩ := IrHm.af hs1 hH1;clear hs1 hH1;subst hs2 hH2;repeat (with_reducible apply ai;exact z9)
    refine z2j z5 ?_;refine z7 (z6 (hK _ _ ?_)); clear hK K;refine Cs.nil ?_;refine hM33 _ _ ?_;exact ⟨(zs, at6), ⟨by dsimp only; omega, ha6⟩, fun k => if k = 5 then 8 else k, (IrHm.g (fun k => if k = 5 then 8 else k))⟩
   ·intro h33 QM hM33 hR33 hE33
    try replace h33 := z8 h33
    refine Cs.skip ?_;refine Cs.nil ?_;refine hM33 _ _ ?_;exact ⟨(ys, at5), ⟨by dsimp only; omega, ha5⟩, id, (IrHm.g id)⟩
   rintro ⟨zs, at6⟩ ⟨hzl, ha6⟩;dsimp only at hzl ha6;refine Cs.seq ?_;refine Cs.wkRow 6 (lkR false 7 y) rfl rfl (fun i _ => lkR_wk (Nat.le_of_ble_eq_true rfl) _ i) ?_;dsimp only [z5t];refine Cs.regG [1, 2, 3, 9, 10, 50] rfl ?_;intro K hK hG
   have hk10 : ∀ at7 : Nat, at7 ≤ m → K [(1, .slc false 1 0 0 xs.length), (2, .slc false 2 0 0 l.length), (3, .int .i64 h), (9, .ptr 4 0 0 0), (10, .int .i64 i), (50, .bool false)] ⟨5, [(4, zk 0 m at7), (0, z36 ls), (1, zz xs), (2, Sk.one (.row ⟨false, false, 52, 2, l.length, lkR false 3 l⟩)), (3, (l.length + 1, fam false 49 2 (lkF false l)))]⟩ := by
    intro at7 ha7;refine hK _ _ ?_;clear hG hK K;refine Cs.cond _ rfl ?_ ?_
    ·intro h50
     exfalso; simp at h50
    ·intro h50
     
     refine Cs.skip ?_;refine Cs.nil ?_;refine hN1 _ _ ?_;refine Cs.reg [1, 2, 3, 9, 10] rfl ?_;intro K hK;iterate 3 (refine z2j z5 ?_)
     refine z7 (z6 (hK _ _ ?_)); clear hK K;refine Cs.nil ?_;refine hL1 _ _ ?_;rw [show (i : Int) + 1 = ((i + 1 : Nat) : Int) from by omega];exact ⟨(at7, i + 1), ⟨⟨ha7, by dsimp only; omega⟩, by dsimp only; omega⟩, id, (IrHm.g id)⟩
   iterate 3 (refine z2j z5 ?_)
   refine z2j z5 ?_;refine IrHm.c1 (agrees_spec zs y zs.length y.length rfl rfl v (by omega) (by omega) hlv) (fun q => q + 5) ?_;iterate 5 (refine z2j z5 ?_)
   refine z5 ?_;refine z14 rfl rfl ?_;refine zr ?_;refine ⟨fun _ => ?_, fun h => (by cases h)⟩;refine z2j id ?_;refine IrHm.ca (z2d ls m at6 4 hx hm ha6 (by omega)) (fun k => if k = 0 then 4 else 0) ?_;rintro s0 H0 ⟨v2, at7, ha7, k2, k3, k4, rfl, rfl⟩ s1 H1 hs1 hH1;obtain ⟨hs2, hH2⟩ := IrHm.af hs1 hH1;clear hs1 hH1;subst hs2 hH2;repeat (with_reducible apply ai;exact z9)
   refine z2j z5 ?_;refine z5 ?_;refine z14 rfl rfl ?_;refine zr ?_;refine ⟨fun _ => ?_, fun h => (by cases h)⟩;refine z2j id ?_;refine IrHm.c1 (agrees_spec zs y zs.length y.length rfl rfl (v2 - 1) (by omega) (by omega) hlv) (fun q => q + 5) ?_;iterate 2 (refine z2j z5 ?_)
   refine z7 ?_;refine z6 ?_;exact hG _ _ _ _ id (IrHm.g id) (hk10 _ ha7)
  iterate 4 (refine z2j z5 ?_)
  refine z5 ?_;refine z14 rfl rfl ?_;refine zr ?_;refine z2w ?_ ?_
  ·intro hg4
   first
    |(simp at hg4; done)
    |skip
     try replace hg4 := z8 hg4
     refine z2j id ?_;refine IrHm.ca (bool_spec ls m at4 2 hx hm ha4 (by omega) (by omega)) (fun k => if k = 0 then 4 else 0) ?_;rintro s0 H0 ⟨b1, at5, ha5, rfl, rfl⟩ s1 H1 hs1 hH1;obtain ⟨hs2, hH2⟩ := IrHm.af hs1 hH1;clear hs1 hH1;subst hs2 hH2;repeat (with_reducible apply ai;exact z9)
     refine z2j z5 ?_;refine z7 ?_;refine z6 ?_;exact hG _ _ _ _ id (IrHm.g id) (hk8 ((i : Int) == 2 && b1) _ ha5)
  ·intro hg4;refine ⟨.bool false, ?_⟩
   first
    |(simp at hg4; done)
    |skip
     try replace hg4 := z8 hg4
     refine z2j z5 ?_;refine z7 ?_;refine z6 ?_;exact hG _ _ _ _ id (IrHm.g id) (hk8 false _ ha4)
 ·intro h17;replace h17 := z8 h17;have hb : (xs.length ≤ 20 ∧ l.length ≤ 100) ∨ ¬ (xs.length ≤ 20 ∧ l.length ≤ 100) := Classical.em _;rcases hb with hb | hb
  ·skip
   refine Cs.exit ?_;refine hEL1 _ _ _ ?_;refine hX0 _ _ ?_;refine Cs.seq ?_;refine Cs.regG [8] rfl ?_;intro K hK hG
   have hk12 : K [(8, .bool true)] ⟨5, [(4, zk 0 m at1), (0, z36 ls), (1, zz xs)]⟩ := by
    refine hK _ _ ?_;clear hG hK K;refine Cs.ret ?_;refine hQ _ _ ?_;refine zj.mk (H' := ⟨4, []⟩) (.inl rfl) ?_;refine zd ?_;refine ⟨IrHm.s, (IrHm.g id), IrHm.s, ?_⟩
    all_goals first | trivial | exact rfl
   iterate 8 (refine z2j z5 ?_)
   rw [show (decide ((20 : Int) < xs.length) || decide ((100 : Int) < l.length)) = false from by rw [Bool.or_eq_false_iff, decide_eq_false_iff_not, decide_eq_false_iff_not]; omega];repeat (with_reducible apply ai;exact z9)
   iterate 4 (refine z2j z5 ?_)
   refine z5 ?_;refine z14 rfl rfl ?_;refine zr ?_;refine ⟨fun _ => ?_, fun h => (by cases h)⟩;refine z2j id ?_;refine IrHm.c1 (agrees_spec xs l xs.length l.length rfl rfl h (by omega) (by omega) hl) (fun q => q + 1) ?_;iterate 4 (refine z2j z5 ?_)
   refine z5 ?_;refine z14 rfl rfl ?_;refine zr ?_;refine ⟨fun _ => ?_, fun h => (by cases h)⟩;refine z2j id ?_;refine IrHm.c1 (mod_spec h 4 (by omega) (by omega)) (id) ?_;refine z5 ?_;refine z14 rfl rfl ?_;refine zr ?_;refine ⟨fun _ => ?_, fun h => (by cases h)⟩;refine z2j id ?_;refine IrHm.c1 (agrees_spec xs l xs.length l.length rfl rfl (h % 4) (by omega) (by omega) hl) (fun q => q + 1) ?_;iterate 3 (refine z2j z5 ?_)
   refine z5 ?_;refine z14 rfl rfl ?_;refine zr ?_;refine ⟨fun _ => ?_, fun h => (by cases h)⟩;refine z2j id ?_;refine IrHm.c1 (sane7_spec) (id) ?_;iterate 2 (refine z2j z5 ?_)
   refine z7 ?_;refine z6 ?_;exact hG _ _ _ _ id (IrHm.g id) hk12
  ·skip
   refine Cs.exit ?_;refine hEL1 _ _ _ ?_;refine hX0 _ _ ?_;refine Cs.seq ?_;refine Cs.regG [8] rfl ?_;intro K hK hG
   have hk12 : K [(8, .bool true)] ⟨5, [(4, zk 0 m at1), (0, z36 ls), (1, zz xs)]⟩ := by
    refine hK _ _ ?_;clear hG hK K;refine Cs.ret ?_;refine hQ _ _ ?_;refine zj.mk (H' := ⟨4, []⟩) (.inl rfl) ?_;refine zd ?_;refine ⟨IrHm.s, (IrHm.g id), IrHm.s, ?_⟩
    all_goals first | trivial | exact rfl
   iterate 8 (refine z2j z5 ?_)
   rw [show (decide ((20 : Int) < xs.length) || decide ((100 : Int) < l.length)) = true from by rw [Bool.or_eq_true, decide_eq_true_eq, decide_eq_true_eq]; omega];repeat (with_reducible apply ai;exact z9)
   iterate 4 (refine z2j z5 ?_)
   refine z5 ?_;refine z14 rfl rfl ?_;refine zr ?_;refine ⟨fun h => (by cases h), fun _ => ⟨.bool false, ?_⟩⟩;iterate 4 (refine z2j z5 ?_)
   refine z5 ?_;refine z14 rfl rfl ?_;refine zr ?_;refine ⟨fun h => (by cases h), fun _ => ⟨.int .i64 0, ?_⟩⟩;refine z5 ?_;refine z14 rfl rfl ?_;refine zr ?_;refine ⟨fun h => (by cases h), fun _ => ⟨.bool false, ?_⟩⟩;iterate 3 (refine z2j z5 ?_)
   refine z5 ?_;refine z14 rfl rfl ?_;refine zr ?_;refine ⟨fun _ => ?_, fun h => (by cases h)⟩;refine z2j id ?_;refine IrHm.c1 (sane7_spec) (id) ?_;iterate 2 (refine z2j z5 ?_)
   refine z7 ?_;refine z6 ?_;exact hG _ _ _ _ id (IrHm.g id) hk12
end Go.Proofs

namespace Go.Proofs.YtdlmfcidbojniaaGreatDoor
open Go.ChangeShapes Go.WideShapes Go.RowKit Go.Sk Go.Proofs
theorem own : ownKnob Tryz.prog.godebug = none := by kernel_rfl
theorem laid : laidOutB Tryz.prog = true := by kernel_rfl
theorem rowed : mapsRowed Tryz.prog = true := by kernel_rfl
theorem fullS : ∀ t e, t < Tryz.prog.types.size → Tryz.prog.underlying t = some (.slice e) → 0 < Tryz.prog.cellsOf e := slices_full_of _ (by kernel_rfl)
theorem uInts : Tryz.prog.underlying 22 = some (.slice 3) := by kernel_rfl
theorem uNodes : Tryz.prog.underlying 23 = some (.slice 42) := by kernel_rfl
theorem uInt : Tryz.prog.underlying 3 = some (.int .i64) := by kernel_rfl
theorem uStr : Tryz.prog.underlying 9 = some .string := by kernel_rfl
theorem uBool : Tryz.prog.underlying 4 = some .bool := by kernel_rfl
theorem fInt : flatB Tryz.prog 3 [.i .i64] = true := by kernel_rfl
theorem fNode : flatB Tryz.prog 42 [.i .i64, .s, .i .u32] = true := by kernel_rfl
theorem gTab : Tryz.prog.globalNamed "skipgraph/skipgraphworld.letters" = some 0 := by kernel_rfl
theorem gTabType : (Tryz.prog.globals[0]?).map (·.type) = some 69 := by kernel_rfl
theorem uTab : Tryz.prog.underlying 69 = some (.array 6 9) := by kernel_rfl
theorem cTab : Tryz.prog.cellsOf 69 = 6 := by kernel_rfl
theorem cStr : Tryz.prog.cellsOf 9 = 1 := by kernel_rfl
theorem oneTab : (List.range Tryz.prog.globals.size).all (fun i => !tabG Tryz.prog i || i == 0) = true := by kernel_rfl
theorem tabs {W : World} (h : laidMetH Tryz.prog [("math/bits.deBruijn32tab", Rows.laid_math_bits_deBruijn32tab), ("skipgraph/skipgraphworld.letters", Rows.laid_skipgraph_skipgraphworld_letters)] W) : ∀ i, tabG Tryz.prog i = true → i < W.heap.size ∧ TabAt W i :=
 tabs_of_mem gTab gTabType uTab uStr cStr cTab oneTab (laid := [("math/bits.deBruijn32tab", Rows.laid_math_bits_deBruijn32tab), ("skipgraph/skipgraphworld.letters", Rows.laid_skipgraph_skipgraphworld_letters)]) (by exact .tail _ (.head _)) h
theorem gTabB : Tryz.prog.globalNamed "math/bits.deBruijn32tab" = some 1 := by kernel_rfl
theorem gTabBType : (Tryz.prog.globals[1]?).map (·.type) = some 135 := by kernel_rfl
theorem uTabB : Tryz.prog.underlying 135 = some (.array 32 5) := by kernel_rfl
theorem uByte : Tryz.prog.underlying 5 = some (.int .u8) := by kernel_rfl
theorem cTabB : Tryz.prog.cellsOf 135 = 32 := by kernel_rfl
theorem cByte : Tryz.prog.cellsOf 5 = 1 := by kernel_rfl
theorem oneTabB : (List.range Tryz.prog.globals.size).all (fun i => !tabBG Tryz.prog i || i == 1) = true := by kernel_rfl
theorem tabsB {W : World} (h : laidMetH Tryz.prog [("math/bits.deBruijn32tab", Rows.laid_math_bits_deBruijn32tab), ("skipgraph/skipgraphworld.letters", Rows.laid_skipgraph_skipgraphworld_letters)] W) : ∀ i, tabBG Tryz.prog i = true → i < W.heap.size ∧ TabBAt W i :=
 tabsB_of_mem gTabB gTabBType uTabB uByte cByte cTabB oneTabB (laid := [("math/bits.deBruijn32tab", Rows.laid_math_bits_deBruijn32tab), ("skipgraph/skipgraphworld.letters", Rows.laid_skipgraph_skipgraphworld_letters)]) (by exact .head _) h
def toInt : List Value → Int
 |[.int _ z] => z
 |_ => 0
def toInts (rows : List (List Value)) : List Int := rows.map toInt
def toNd : List Value → Nd
 |[.int _ a, .string k, .int _ w] => ⟨a, k, w⟩
 |_ => noNd
def toNds (rows : List (List Value)) : List Nd := rows.map toNd
theorem ints_rows {w : World} {v : Value} {q : Option Sk.Loc} {rows : List (List Value)} (h : RwIn w v q [.i .i64] rows) (i : Nat) (r : List Value) (hr : rows[i]? = some r) : ints (toInts rows) i = r.map svOf := by
 have hok := h.ok r (List.mem_of_getElem? hr);rcases r with _ | ⟨v, _ | ⟨v', r⟩⟩
 ·exact hok.elim
 ·obtain ⟨⟨z, rfl, _⟩, _⟩ := hok;simp only [ints, nth, toInts, List.getD, List.getElem?_map, hr, Option.map_some, Option.getD_some, toInt, List.map_cons, List.map_nil, svOf]
 ·exact hok.2.elim
theorem nds_rows {w : World} {v : Value} {q : Option Sk.Loc} {rows : List (List Value)} (h : RwIn w v q [.i .i64, .s, .i .u32] rows) (i : Nat) (r : List Value) (hr : rows[i]? = some r) : nds (toNds rows) i = r.map svOf := by
 have hok := h.ok r (List.mem_of_getElem? hr);rcases r with _ | ⟨v, _ | ⟨v1, _ | ⟨v2, _ | ⟨v3, r⟩⟩⟩⟩
 ·exact hok.elim
 ·exact hok.2.elim
 ·exact hok.2.2.elim
 ·obtain ⟨⟨a, rfl, _⟩, ⟨k, rfl, _⟩, ⟨z, rfl, _⟩, _⟩ := hok;simp only [nds, nd, toNds, List.getD, List.getElem?_map, hr, Option.map_some, Option.getD_some, toNd, List.map_cons, List.map_nil, svOf, Nd.sv]
 ·exact hok.2.2.2.elim
theorem ints_in {β : Env} {w : World} {v : Value} {q : Option Sk.Loc} {rows : List (List Value)} (h : RwIn w v q [.i .i64] rows) {id : Nat} (hq : β id 0 = q) :
  den β (.slc false id 0 0 (toInts rows).length) v ∧ (Sk.Obj.row ⟨false, false, 3, 1, (toInts rows).length, ints (toInts rows)⟩).holds β w q := by
 have := rows_in h hq 3 (ints (toInts rows)) (ints_rows h);simpa [toInts] using this
theorem nds_in {β : Env} {w : World} {v : Value} {q : Option Sk.Loc} {rows : List (List Value)} (h : RwIn w v q [.i .i64, .s, .i .u32] rows) {id : Nat} (hq : β id 0 = q) :
  den β (.slc false id 0 0 (toNds rows).length) v ∧ (Sk.Obj.row ⟨false, false, 42, 3, (toNds rows).length, nds (toNds rows)⟩).holds β w q := by
 have := rows_in h hq 42 (nds (toNds rows)) (nds_rows h);simpa [toNds] using this
theorem ints_len {w : World} {v : Value} {q : Option Sk.Loc} {rows : List (List Value)} (h : RwIn w v q [.i .i64] rows) : (toInts rows).length ≤ 9223372036854775807 := by
 have := h.len;simpa [toInts, maxLen] using this
theorem nds_len {w : World} {v : Value} {q : Option Sk.Loc} {rows : List (List Value)} (h : RwIn w v q [.i .i64, .s, .i .u32] rows) : (toNds rows).length ≤ 9223372036854775807 := by
 have := h.len;simpa [toNds, maxLen] using this
theorem ints_ltO (m : Nat) (xs : List Int) : (Sk.Obj.row ⟨false, false, 3, 1, xs.length, ints xs⟩).lt m := Sk.Obj.lt_row.2 fun i _ => by simp [ints, SV.ltL, SV.lt]
theorem nds_ltO (m : Nat) (xs : List Nd) : (Sk.Obj.row ⟨false, false, 42, 3, xs.length, nds xs⟩).lt m := Sk.Obj.lt_row.2 fun i _ => z1f m xs i
def putCells (l : List Value) : Go.Obj → Go.Obj
 |.cells _ t frozen => .cells l.toArray t frozen
 |o => o
noncomputable def laidWorld (os : Os) : World :=
 { World.holding Tryz.prog os ⟨#[], #[], []⟩ with heap := ((World.holding Tryz.prog os ⟨#[], #[], []⟩).heap.modify 0 (putCells (letters.map Value.string))).modify 1 (putCells (db32.map (Value.int IntKind.u8))) }
end Go.Proofs.YtdlmfcidbojniaaGreatDoor

namespace Go.Proofs.YtdlmfcidbojniaaGreatDoor
open Go.ChangeShapes Go.WideShapes Go.RowKit Go.Sk Go.Proofs
theorem uLinkeds : Tryz.prog.underlying 24 = some (.slice 52) := by kernel_rfl
theorem uLinks : Tryz.prog.underlying 50 = some (.slice 49) := by kernel_rfl
theorem nLinked : nestB Tryz.prog 52 3 50 1 = true := by kernel_rfl
theorem fLink : flatB Tryz.prog 49 [.i .i64, .i .i64] = true := by kernel_rfl
def toLv : List Value → Int × Int
 |[.int _ a, .int _ b] => (a, b)
 |_ => (0, 0)
def toLk (e : El) : Lk := ⟨toInt e.c, e.rows.map toLv⟩
def toLks (els : List El) : List Lk := els.map toLk
theorem toLks_len (els : List El) : (toLks els).length = els.length := by simp [toLks]
theorem lk_toLks {els : List El} {i : Nat} {r : El} (h : els[i]? = some r) : lk (toLks els) i = toLk r := by
 simp [lk, toLks, List.getD, h]
theorem lks_in {β : Env} {w : World} {v : Value} {q : Option Sk.Loc} {els : List El} (h : NsIn w v q [.i .i64] [.i .i64, .i .i64] els) {id f : Nat} (hq : β id 0 = q) (hqf : ∀ k, β f k = elQ els k) :
  den β (.slc false id 0 0 (toLks els).length) v ∧ (Sk.Obj.row ⟨false, false, 52, 2, (toLks els).length, lkR false f (toLks els)⟩).holds β w q ∧ ∀ k, k < (toLks els).length + 1 → (fam false 49 2 (lkF false (toLks els)) k).holds β w (β f k) := by
 have hi : ∀ (i : Nat) (r : El), els[i]? = some r → ∃ z, r.c = [.int .i64 z] := fun i r hr => by
  have hok := (h.ok r (List.mem_of_getElem? hr)).1;rcases hc : r.c with _ | ⟨u, _ | ⟨u', t⟩⟩
  ·rw [hc] at hok; exact hok.elim
  ·rw [hc] at hok;obtain ⟨⟨z, rfl, _⟩, _⟩ := hok;exact ⟨z, rfl⟩
  ·rw [hc] at hok; exact hok.2.elim
 have := nest_in h hq hqf 52 49 (lkR false f (toLks els)) (fun i r hr => by
  obtain ⟨z, hz⟩ := hi i r hr;rw [lkR_ap, lk_toLks hr, hz]
  simp [toLk, toInt, hz, svOf]) (lkF false (toLks els)) (fun i r hr => ⟨lvs (toLk r).lv, by rw [lkF_ap, lk_toLks hr]; simp [toLk], fun j u hu => by
   have hok := (h.ok r (List.mem_of_getElem? hr)).2.ok u (List.mem_of_getElem? hu);rcases u with _ | ⟨v0, _ | ⟨v1, _ | ⟨v2, t⟩⟩⟩
   ·exact hok.elim
   ·exact hok.2.elim
   ·obtain ⟨⟨a, rfl, _⟩, ⟨b, rfl, _⟩, _⟩ := hok;simp [lvs, pI, toLk, List.getD, hu, toLv, svOf]
   ·exact hok.2.2.elim⟩)
 rw [toLks_len];exact this
theorem lks_len {w : World} {v : Value} {q : Option Sk.Loc} {els : List El} (h : NsIn w v q [.i .i64] [.i .i64, .i .i64] els) : (toLks els).length ≤ 9223372036854775807 := by
 have := h.len;simpa [toLks, maxLen] using this
theorem lks_ok {w : World} {v : Value} {q : Option Sk.Loc} {els : List El} (h : NsIn w v q [.i .i64] [.i .i64, .i .i64] els) : lvOk (toLks els) := fun i hi => by
 rw [toLks_len] at hi;rw [lk_toLks (List.getElem?_eq_getElem hi)];have := (h.ok _ (List.getElem_mem hi)).2.len;simp [toLk, maxLen] at this ⊢;omega
theorem lkR_ltO (m f : Nat) (hf : f < m) (l : List Lk) : (Sk.Obj.row ⟨false, false, 52, 2, l.length, lkR false f l⟩).lt m := Sk.Obj.lt_row.2 fun i _ => (z3b _ _ _ _ i).2 hf
end Go.Proofs.YtdlmfcidbojniaaGreatDoor

namespace Go.Proofs.YtdlmfcidbojniaaGreatDoor.inspectReportsTop
open Go.ChangeShapes Go.WideShapes Go.RowKit Go.Sk Go.Proofs
theorem top (W : World) (v0 v1 v2 v3 : Value) (q0 q1 q2 : Option Sk.Loc) (r0 : List (List Value)) (h0 : RwIn W v0 q0 [.i .i64] r0) (r1 : List (List Value)) (h1 : RwIn W v1 q1 [.i .i64, .s, .i .u32] r1) (r2 : List El) (h2 : NsIn W v2 q2 [.i .i64] [.i .i64, .i .i64] r2) (n3 : Int) (h3 : v3 = .int .i64 n3)
  (htab : ∀ i, tabG Tryz.prog i = true → i < W.heap.size ∧ TabAt W i) (htabB : ∀ i, tabBG Tryz.prog i = true → i < W.heap.size ∧ TabBAt W i) : Calls Tryz.prog 3 #[v0, v1, v2, v3] W fun e w' => e = .returned (.bool true) ∧ Below W.heap.size W w' := by
 let β : Env := fun id k => if id = 0 then q0 else if id = 1 then q1 else if id = 2 then q2 else elQ r2 k
 obtain ⟨a0, b0⟩ := ints_in (β := β) (id := 0) h0 rfl;obtain ⟨a1, b1⟩ := nds_in (β := β) (id := 1) h1 rfl;obtain ⟨a2, b2, c2⟩ := lks_in (β := β) (id := 2) (f := 3) h2 rfl (fun _ => rfl);refine ze.top (Ent.of Tryz.func3 (by kernel_rfl) (by kernel_rfl)) (reports_spec (toInts r0) (toNds r1) (toLks r2) n3 (ints_len h0) (nds_len h1) (lks_len h2) (lks_ok h2)) β W [v0, v1, v2, v3] (fun id k o ho => ?_) ⟨v0, [v1, v2, v3], a0, ⟨v1, [v2, v3], a1, ⟨v2, [v3], a2, ⟨v3, [], h3, rfl, rfl⟩, rfl⟩, rfl⟩, rfl⟩ (by simp [SV.ltL, SV.lt]) htab htabB;obtain ⟨c, F, hf, hk, rfl⟩ := z1v ho;simp only [Sk.find, zz, z36, Sk.one] at hf
 split at hf
 ·rename_i e; subst e; cases hf
  exact ⟨rfl, by show (0 : Nat) < 4; omega, ints_ltO _ _, b0⟩
 ·skip
  split at hf
  ·rename_i e; subst e; cases hf
   exact ⟨rfl, by show (1 : Nat) < 4; omega, nds_ltO _ _, b1⟩
  ·skip
   split at hf
   ·rename_i e; subst e; cases hf
    exact ⟨rfl, by show (2 : Nat) < 4; omega, lkR_ltO _ _ (by show (3 : Nat) < 4; omega) _, b2⟩
   ·skip
    split at hf
    ·rename_i e; subst e; cases hf
     refine ⟨z2z _ _ _ _ _, by show (3 : Nat) < 4; omega, ?_, c2 k hk⟩
     cases k with
     |zero => exact Obj.lt_row.2 fun i hi => absurd hi (Nat.not_lt_zero _)
     |succ j => exact z1n _ _ _ j
    ·cases hf
theorem contract (H : Type) (enc : TypeId × Value → H) (W : World) (base : Nat) (args : Array Value) (ds gs : List (DataW H)) (before : List MemPlace)
  (hval : ∀ (j : Nat) t v, Tryz.f3.params[j]? = some t → args[j]? = some v → Value.okWide Tryz.prog W .any base t v)
  (hW : DataW.Whole enc Tryz.prog Tryz.f3.params.toList Rows.inspectReportsSpec.vars false W args.toList ds gs before) (hL : laidMetH Tryz.prog Rows.inspectReportsRow.laid W) :
  Calls Tryz.prog 3 args W fun e W' => ∃ v, e = .returned v ∧ Rows.inspectReportsSpec.post enc Tryz.prog Tryz.f3 false true false false W args v W' := by
 have hW1 := hW;obtain ⟨p, q, hA0, hV, rfl, _, _⟩ := hW;have hA : DataW.TrodAll enc Tryz.prog W 0 (fun _ => true) true Tryz.f3.params.toList args.toList ds p := hA0;have hval1 : ∀ (j : Nat) t v, Tryz.f3.params[j]? = some t → args[j]? = some v → Value.okWide Tryz.prog W .any base t v := hval;rw [Tryz.params3] at hA hval1;obtain ⟨v0, vs0, d0, ds0, p0, q0, ha0, rfl, rfl, h0, r0⟩ := trodAll_cons hA;obtain ⟨v1, vs1, d1, ds1, p1, q1, ha1, rfl, rfl, h1, r1⟩ := trodAll_cons r0;obtain ⟨v2, vs2, d2, ds2, p2, q2, ha2, rfl, rfl, h2, r2⟩ := trodAll_cons r1;obtain ⟨v3, vs3, d3, ds3, p3, q3, ha3, rfl, rfl, h3, r3⟩ := trodAll_cons r2;obtain ⟨rfl, rfl, rfl⟩ := trodAll_nil r3;obtain rfl : args = #[v0, v1, v2, v3] := by cases args; simp_all
 obtain ⟨_, _, x0⟩ := rows_open uInts fInt (by simp) (hval1 0 _ v0 rfl rfl) h0;obtain ⟨_, _, x1⟩ := rows_open uNodes fNode (by simp) (hval1 1 _ v1 rfl rfl) h1;obtain ⟨_, _, x2⟩ := nest_params (k1 := [.i .i64]) uLinkeds nLinked fInt uLinks fLink (by simp) (hval1 2 _ v2 rfl rfl) h2;obtain ⟨n3, x3, _⟩ := open_int uInt (hval1 3 _ v3 rfl rfl) h3;refine (top W v0 v1 v2 v3 _ _ _ _ x0 _ x1 _ x2 n3 x3 (tabs hL) (tabsB hL)).mono fun e W1 ⟨he, hb⟩ => ?_;subst he;refine ⟨_, rfl, law_post laid rowed fullS (by decide +kernel) rfl hW1 hb rfl uBool fun ds hd => ?_⟩;have hd1 : ds.length = 4 := hd
 match ds, hd1 with
 |[_, _, _, _], _ => rfl
theorem laid_met (os : Os) : laidMet Tryz.prog Rows.inspectReportsRow.laid ((laidWorld os).forCall (fun _ _ => 0) ⟨#[], #[.slice none 0 0, .slice none 0 0, .slice none 0 0, .int .i64 0], []⟩).memory :=
 laidMet_of_run' 8 (by kernel_rfl) (by kernel_rfl)
theorem reads (os : Os) {H : Type} (enc : TypeId × Value → H) : ∃ places, DataW.whole enc Tryz.prog ((laidWorld os).forCall (fun _ _ => 0) ⟨#[], #[.slice none 0 0, .slice none 0 0, .slice none 0 0, .int .i64 0], []⟩).memory Tryz.f3.params.toList Rows.inspectReportsSpec.vars false #[Value.slice none 0 0, .slice none 0 0, .slice none 0 0, .int .i64 0].toList 8 = some ([.nil, .nil, .nil, .lit (.int .i64 0)], [], places) :=
 ⟨[], by kernel_rfl⟩
set_option maxRecDepth 100000 in
theorem lifted (os : Os) (started : os.Started) (H : Type) (enc : TypeId × Value → H) (F : Stop.Interp) :
  ReturnsInHanded {} Tryz.checked os 3 .any ((OpenSpec.ofChange Rows.inspectReportsSpec).preRow enc Tryz.prog Tryz.f3 Rows.inspectReportsRow.domain false Rows.inspectReportsRow.laid) (((OpenSpec.ofChange Rows.inspectReportsSpec).at F).post enc Tryz.prog Tryz.f3 false true false false) := by
 obtain ⟨places, hx⟩ := reads os enc
 refine returnsInHanded_of_row (C := Tryz.checked) (s := OpenSpec.ofChange Rows.inspectReportsSpec) own started (by kernel_rfl) Tryz.func3
  (witness_row_at (enc := enc) (C := Tryz.checked) false (laidWorld os) #[.slice none 0 0, .slice none 0 0, .slice none 0 0, .int .i64 0] rfl (by kernel_rfl) (by kernel_rfl) (by kernel_rfl)
   (OpenSpec.preRow_of_cond 8 hx (by kernel_rfl) (fun k hk => by cases hk) (by kernel_rfl) (laid_met os))) ?_
 intro W base args ds gs before hval hW _ _ _ hL _ _;exact contract H enc W base args ds gs before hval hW hL
theorem said : Rows.InspectReportsSaid :=
 OpenClaim.holds_of_cond 3 Tryz.f3 rfl rfl rfl rfl rfl rfl rfl ⟨rfl, rfl, rfl, rfl, rfl⟩ rfl rfl rfl rfl rfl (by kernel_rfl) Tryz.func3 (by kernel_rfl)
  (of_decide_eq_true (by kernel_rfl)) (by unfold Func.isWrapper; first | (rw [if_pos (by decide +kernel)]; kernel_rfl) | (rw [if_neg (by decide +kernel)]; exact ⟨rfl, rfl⟩))
  (fun os started H enc _ F => by rw [OpenClaim.pre_eq_preRow]; exact lifted os started H enc F)
theorem plain (f : FuncId) (fn : Func) (hf : Tryz.pinned.checked.prog.funcNamed "skipgraph/skipgraphlaw7.InspectReports" = some f) (hfn : Tryz.pinned.checked.prog.funcs[f]? = some fn) :
  false = Tryz.pinned.checked.prog.looks [] ∧ ∀ (j : Nat) t, fn.params[j]? = some t → Tryz.pinned.checked.prog.wantsStandIn t = false := by
 obtain rfl : f = 3 := Option.some.inj ((show Tryz.prog.funcNamed "skipgraph/skipgraphlaw7.InspectReports" = some 3 by kernel_rfl).symm.trans hf) |>.symm
 obtain rfl : fn = Tryz.f3 := (Option.some.inj (Tryz.func3.symm.trans hfn)).symm;refine ⟨by kernel_rfl, fun j t ht => ?_⟩;rw [Tryz.params3] at ht;have hm : t ∈ [22, 23, 24, 3] := by simpa using Array.mem_of_getElem? ht
 have hall : ([22, 23, 24, 3].all fun u => !Tryz.prog.wantsStandIn u) = true := by kernel_rfl
 exact (show Tryz.prog.wantsStandIn t = false by simpa using List.all_eq_true.1 hall t hm)
theorem proved : Rows.InspectReportsCardSaid :=
 Claim7.holds_tied_plain_at .later [] _ _ _ _ said (fun _ h => by cases h) (by kernel_rfl) (fun _ h => by cases h) inspectReports_row_tie rfl ⟨rfl, rfl⟩ (by kernel_rfl) rfl plain (by kernel_rfl)
end Go.Proofs.YtdlmfcidbojniaaGreatDoor.inspectReportsTop
#print axioms Go.Proofs.YtdlmfcidbojniaaGreatDoor.inspectReportsTop.proved
