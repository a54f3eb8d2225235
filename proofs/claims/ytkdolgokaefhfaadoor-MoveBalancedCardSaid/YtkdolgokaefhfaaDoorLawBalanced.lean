/-
  MoveBalanced: for every input the law returns true, and the input reads as before.
  Conditions: those that each statement names.
-/
import Derived.Test.YtkdolgokaefhfaaDoorQzb
import Derived.Test.YtkdolgokaefhfaaDoorChecked
import Derived.Below
import Derived.ChangeSame
import Derived.ChangeSlices
import Derived.ReadAgain
import Derived.OpenShut
import Derived.JoinedOf
import Derived.Handed
import Derived.Deep.Slices
import Derived.Lib.LaidTab
import Derived.Test.YtkdolgokaefhfaaDoorQze
import Derived.Test.YtkdolgokaefhfaaDoorQzd
import Derived.Test.YtkdolgokaefhfaaDoorRows
import Derived.Test.YtkdolgokaefhfaaDoorCards
import Derived.Test.YtkdolgokaefhfaaDoorTie
import Derived.Test.YtkdolgokaefhfaaDoorQzc
import Derived.WalkKit
import Derived.ProofKit
import Derived.Deep.DeepHandedRow
set_option linter.unusedSimpArgs false
set_option linter.unusedVariables false
set_option maxRecDepth 4000
namespace Go.Sk
open Go.RowKit Go.WideShapes Go.ChangeShapes
theorem below_sameAt {w w' : World} (h : Below w.heap.size w w') {p : MemPlace} (hp : p.block < w.heap.size) : w.sameAt w' p := by
 cases p with
 |cell b off => exact World.cell?_of_block (h.block b hp)
 |map b => exact h.block b hp
section
variable {H : Type} {enc : TypeId × Value → H} {P : Program}
theorem trodAll_carry {w w' : World} {base : Nat} {sp : Nat → Bool} {held : Bool} : ∀ {ts : List TypeId} {vs : List Value} {ds : List (DataW H)} {ps : List MemPlace}, DataW.TrodAll enc P w base sp held ts vs ds ps → (∀ p ∈ ps, w.sameAt w' p) →
  DataW.TrodAll enc P w' base sp held ts vs ds ps
 |[], [], [], _, h, _ => h
 |_ :: _, _ :: _, _ :: _, _, ⟨p, q, ⟨n, h1⟩, h2, e⟩, hs =>
  ⟨p, q, ⟨n, DataW.trod_carry n _ _ _ h1 fun x hx => hs x (by rw [e]; exact List.mem_append_left _ hx)⟩, trodAll_carry h2 (fun x hx => hs x (by rw [e]; exact List.mem_append_right _ hx)), e⟩
theorem trodAll_len {w : World} {base : Nat} {sp : Nat → Bool} {held : Bool} : ∀ {ts : List TypeId} {vs : List Value} {ds : List (DataW H)} {ps : List MemPlace}, DataW.TrodAll enc P w base sp held ts vs ds ps → ds.length = ts.length
 |[], [], [], _, _ => rfl
 |_ :: _, _ :: _, _ :: _, _, ⟨_, _, _, h2, _⟩ => by simp [trodAll_len h2]
theorem law_post {f : Func} {s : ChangeSpec} {apart fresh handsOn again : Bool} {W W' : World} {args : Array Value} {ds gs : List (DataW H)} {before : List MemPlace} (hl : laidOutB P = true) (hm : mapsRowed P = true)
  (hz : ∀ t e, t < P.types.size → P.underlying t = some (.slice e) → 0 < P.cellsOf e) (hts : ∀ t ∈ f.params.toList, t < P.types.size) (hv : s.vars = [])
  (hW : DataW.Whole enc P f.params.toList s.vars apart W args.toList ds gs before) (hb : Below W.heap.size W W') {tb : TypeId} (hres : f.resultTypes = #[tb]) (hbool : P.underlying tb = some .bool)
  (hfn : ∀ ds : List (DataW H), ds.length = f.params.toList.length → s.fn H ds = { results := [.lit (.bool true)], args := ds }) : s.post enc P f apart fresh handsOn again W args (.bool true) W' := by
 have hW' := hW;obtain ⟨p, q, hA, hV, rfl, hfz, hnd⟩ := hW;rw [hv] at hV
 have hq : gs = [] ∧ q = [] := by
  cases gs with
  |nil => exact ⟨rfl, hV⟩
  |cons _ _ => exact hV.elim
 obtain ⟨rfl, rfl⟩ := hq;have hfn' := hfn (ds ++ []) (by rw [List.append_nil]; exact trodAll_len hA);have hlt : ∀ x ∈ p, x.block < W.heap.size := DataW.TrodAll.lt hA
 have hargs : ∀ sp : Nat → Bool, (∀ x ∈ p ++ [], sp x.block = true) → DataW.TrodAll enc P W' 0 sp true f.params.toList args.toList ds p := fun sp hsp =>
  trodAll_carry (DataW.TrodAll.respare (kids_rows hl hm) hz hts hA fun x hx => hsp x (List.mem_append_left _ hx)) fun x hx => below_sameAt hb (hlt x hx)
 have hrl : ((Value.bool true).resultList f.resultTypes.size) = [.bool true] := by rw [hres]; rfl
 have hres' : ∀ (b : Nat) (sp : Nat → Bool) (hd : Bool), DataW.TrodAll enc P W' b sp hd f.resultTypes.toList ((Value.bool true).resultList f.resultTypes.size) (s.fn H (ds ++ [])).results [] := fun b sp hd => by
  rw [hrl, hfn', hres];exact trodAll_mk1 (shut_bool hbool true)
 have hvars : ∀ sp : Nat → Bool, DataW.TrodVars enc P W' sp s.vars (s.fn H (ds ++ [])).vars [] := fun sp => by rw [hfn', hv]; rfl
 have hargs' : ∀ sp : Nat → Bool, (∀ x ∈ p ++ [], sp x.block = true) → DataW.TrodAll enc P W' 0 sp true f.params.toList args.toList (s.fn H (ds ++ [])).args p := fun sp hsp => by
  rw [hfn']; simpa using hargs sp hsp
 have hold : ∀ x ∈ p ++ [], (fun b => decide (b < W.heap.size)) x.block = true := fun x hx => by simpa using hlt x (by simpa using hx)
 refine ⟨ds, [], p ++ [], [], p, [], hW', hres' _ _ _, hargs' _ hold, hvars _, World.keptBut_mono (fun x hx => ⟨hx, ?_⟩) (hb.frame (· ∈ p ++ [])), fun _ => ⟨?_, _, _, ([] ++ p) ++ [], ⟨[] ++ p, [], trodAll_append (hargs' _ (fun _ _ => rfl)) (hres' _ _ _), hvars _, rfl, ?_, ?_⟩, ?_⟩⟩
 ·exact .inr (.inl (by simpa using hx))
 ·intro j t r ht hr;rw [hrl] at hr;rw [hres] at ht
  cases j with
  |zero => simp at ht hr; subst ht hr; exact okWide_bool_mk hbool _
  |succ j => simp at hr
 ·intro b off hp;have hin : MemPlace.cell b off ∈ p ++ [] := by simpa using hp
  rw [hb.frozen (hlt _ (by simpa using hin))];exact hfz b off hin
 ·intro ha;simpa using hnd ha
 ·intro x hx _;simpa using hx
end
theorem zf.top {P : Program} {f : FuncId} {args : List SV} {H0 : AH} (hent : Ent P f) (hF : zf P f args H0 (fun s _ => s = .bool true)) (β : Env) (w : World) (vs : List Value)
  (hh : ∀ id k o, look H0.os id k = some o → o.own = false ∧ id < H0.nxt ∧ o.lt H0.nxt ∧ o.holds β w (β id k)) (hd : z3r β args vs) (hl : SV.ltL H0.nxt args) (htab : ∀ g, tabG P g = true → g < w.heap.size ∧ TabAt w g) (htabB : ∀ g, tabBG P g = true → g < w.heap.size ∧ TabBAt w g) :
  Calls P f vs.toArray w fun e w' => e = .returned (.bool true) ∧ Below w.heap.size w w' := by
 let own0 : Nat → Nat → Prop := fun id k => ∃ o, look H0.os id k = some o ∧ o.own = true
 let X : Cx := { P := P, n := 0, w0 := w, own0 := own0, m0 := H0.nxt, β0 := β }
 have no : ∀ id k o, look H0.os id k = some o → ¬ o.own = true := fun id k o h => by rw [(hh id k o h).1]; simp
 have no0 : ∀ id k, ¬ own0 id k := fun id k ⟨o, h1, h2⟩ => no id k o h1 h2
 have hS : St X β H0 w := {
  os := rfl, tape := rfl, output := rfl, size := Nat.le_refl _, fix := fun _ _ _ => rfl
  holds := fun id k o h => (hh id k o h).2.2.2
  sep := fun id k id' k' o o' L L' h _ ho => absurd ho (no id k o h)
  old := fun _ _ _ => rfl
  mine := fun id k o L h ho => absurd ho (no id k o h)
  keep := fun id k h => absurd h (no0 id k)
  m0 := Nat.le_refl _
  lt := fun id k o h => ⟨(hh id k o h).2.1, (hh id k o h).2.2.1⟩
  tabs := ⟨fun g hg => ⟨(htab g hg).1, (htab g hg).2, fun id k _ h _ => absurd h (no0 id k)⟩, fun g hg => ⟨(htabB g hg).1, (htabB g hg).2, fun id k _ h _ => absurd h (no0 id k)⟩⟩
  drawn := Nat.le_refl _ }
 refine ((hF X β w vs rfl rfl rfl rfl rfl hS hd hl).calls hent).mono fun e w' ⟨v, he, β', s, H', hs, _, hdv, _, hS'⟩ => ?_;subst hs;simp only [den] at hdv;subst hdv
 exact ⟨he, hS'.os, hS'.tape, hS'.output, hS'.size, fun b hb => hS'.old b hb fun id k o L h ho hβ => by
  rcases hS'.mine id k o L h ho hβ with ⟨_, h1⟩ | ⟨_, h2⟩
  ·exact absurd h1 (no0 id k)
  ·have : w.heap.size ≤ L.blk := h2
   omega⟩
end Go.Sk

namespace Go.Sk
open Go.RowKit Go.WideShapes Go.ChangeShapes
inductive FK where
 |i (k : IntKind) | s | b
def FK.is (P : Program) (t : TypeId) : FK → Bool
 |.i k => match P.underlying t with | some (.int k') => k' == k | _ => false
 |.s => match P.underlying t with | some .string => true | _ => false
 |.b => match P.underlying t with | some .bool => true | _ => false
def FK.ok : FK → Value → Prop
 |.i k, v => ∃ z, v = .int k z ∧ (Lit.int k z).wf = true
 |.s, v => ∃ x : ByteArray, v = .string x ∧ x.size ≤ maxLen
 |.b, v => ∃ x, v = .bool x
def svOf : Value → SV
 |.int k z => .int k z
 |.string x => .str x
 |.bool x => .bool x
 |v => .raw v
theorem FK.den {β : Env} {k : FK} {v : Value} (h : k.ok v) : den β (svOf v) v ∧ (svOf v).scalar = true ∧ ∀ m, (svOf v).lt m := by
 cases k <;> simp only [FK.ok] at h
 ·obtain ⟨z, rfl, _⟩ := h; exact ⟨rfl, rfl, fun _ => trivial⟩
 ·obtain ⟨z, rfl, _⟩ := h; exact ⟨rfl, rfl, fun _ => trivial⟩
 ·obtain ⟨z, rfl⟩ := h; exact ⟨rfl, rfl, fun _ => trivial⟩
def okRow : List FK → List Value → Prop
 |[], [] => True
 |k :: ks, v :: vs => k.ok v ∧ okRow ks vs
 |_, _ => False
theorem okRow_len : ∀ {ks : List FK} {vs : List Value}, okRow ks vs → vs.length = ks.length
 |[], [], _ => rfl
 |_ :: _, _ :: _, h => by simp [okRow_len h.2]
 |[], _ :: _, h => h.elim
 |_ :: _, [], h => h.elim
theorem okRow_get : ∀ {ks : List FK} {vs : List Value}, okRow ks vs → ∀ (j : Nat) (v : Value), vs[j]? = some v → ∃ k : FK, k.ok v
 |[], [], _, j, v, h => by simp at h
 |k :: _, _ :: _, h, j, v, hj => by
  cases j with
  |zero => simp at hj; subst hj; exact ⟨k, h.1⟩
  |succ j => simp at hj; exact okRow_get h.2 j v hj
 |[], _ :: _, h, _, _, _ => h.elim
 |_ :: _, [], h, _, _, _ => h.elim
def fldsB (P : Program) (fs : Array Field) : Nat → List FK → Bool
 |i, [] => i == fs.size
 |i, k :: ks => (match fs[i]? with | some f => f.offset == i && P.cellsOf f.type == 1 && k.is P f.type | none => false) && fldsB P fs (i + 1) ks
def flatB (P : Program) (t : TypeId) (ks : List FK) : Bool :=
 P.cellsOf t == ks.length && (match P.underlying t with
  |some (.struct fs) => fldsB P fs 0 ks
  |_ => match ks with | [k] => k.is P t | _ => false)
section
variable {H : Type} {enc : TypeId × Value → H} {P : Program} {w : World} {base : Nat} {sp : Nat → Bool} {held : Bool}
theorem one_open {k : FK} {t : TypeId} {fuel : Nat} {cs : List Value} {x : DataW H × List MemPlace} (hk : k.is P t = true) (h : DataW.trod enc P w base sp held fuel t cs = some x) : ∃ v, cs = [v] ∧ k.ok v := by
 cases k <;> simp only [FK.is] at hk
 ·split at hk
  ·rename_i k' hu;obtain rfl := eq_of_beq hk;obtain ⟨n, rfl, _, hw⟩ := DataW.trod_int hu h;exact ⟨_, rfl, n, rfl, hw⟩
  ·cases hk
 ·split at hk
  ·rename_i hu;obtain ⟨s, rfl, _, hs⟩ := DataW.trod_string hu h;exact ⟨_, rfl, s, rfl, hs⟩
  ·cases hk
 ·split at hk
  ·rename_i hu;obtain ⟨b, rfl, _⟩ := DataW.trod_bool hu h;exact ⟨_, rfl, b, rfl⟩
  ·cases hk
theorem flds_open {fs : Array Field} {n : Nat} {cs : List Value} {xs : List (DataW H × List MemPlace)} (hx : xs.length = fs.size) (hf : ∀ (i : Nat) (f : Field), fs[i]? = some f → DataW.trod enc P w base sp held n f.type ((cs.drop f.offset).take (P.cellsOf f.type)) = xs[i]?) :
  ∀ (ks : List FK) (i : Nat), fldsB P fs i ks = true → i + ks.length = cs.length → okRow ks (cs.drop i)
 |[], i, _, hl => by rw [List.drop_eq_nil_of_le (by simp at hl; omega)]; trivial
 |k :: ks, i, h, hl => by
  simp only [fldsB, Bool.and_eq_true] at h;obtain ⟨h1, h2⟩ := h;simp only [List.length_cons] at hl
  split at h1
  ·rename_i f hfi;simp only [Bool.and_eq_true, beq_iff_eq] at h1;obtain ⟨⟨h3, h4⟩, h5⟩ := h1;have h6 := hf i f hfi;have hi : i < xs.length := by rw [hx]; exact (Array.getElem?_eq_some_iff.1 hfi).1
   rw [h3, h4, List.getElem?_eq_getElem hi] at h6;obtain ⟨v, hv, hok⟩ := one_open h5 h6;rw [List.drop_eq_getElem_cons (by omega), List.take_succ_cons, List.take_zero] at hv;rw [List.drop_eq_getElem_cons (by omega)];have : cs[i] = v := by simpa using hv
   rw [this];exact ⟨hok, flds_open hx hf ks (i + 1) h2 (by omega)⟩
  ·cases h1
theorem flat_open {t : TypeId} {ks : List FK} {fuel : Nat} {cs : List Value} {x : DataW H × List MemPlace} (hb : flatB P t ks = true) (h : DataW.trod enc P w base sp held fuel t cs = some x) : okRow ks cs := by
 simp only [flatB, Bool.and_eq_true, beq_iff_eq] at hb;obtain ⟨hc, hb⟩ := hb
 split at hb
 ·rename_i fs hu;obtain ⟨xs, m, _, _, hl, hxl, hf⟩ := DataW.trod_struct hu h;have := flds_open hxl hf ks 0 hb (by omega);rwa [List.drop_zero] at this
 ·split at hb
  ·rename_i k;obtain ⟨v, rfl, hok⟩ := one_open hb h;exact ⟨hok, trivial⟩
  ·cases hb
structure RwIn (w : World) (v : Value) (q : Option Loc) (ks : List FK) (rows : List (List Value)) : Prop where
 len : rows.length ≤ maxLen
 ok : ∀ r ∈ rows, okRow ks r
 val : ∃ a c, v = .slice a rows.length c ∧ rows.length ≤ c ∧ (0 < rows.length → ∃ L, q = some L ∧ a = some ⟨L.blk, L.off, none⟩)
 mem : (rows.length = 0 ∧ q = none) ∨ ∃ L, q = some L ∧ L.sz = ks.length ∧ L.blk < w.heap.size ∧ ∀ (i : Nat) (r : List Value), rows[i]? = some r → ∀ (j : Nat) (u : Value), r[j]? = some u → w.cell? ⟨L.blk, L.off + i * ks.length + j, none⟩ = some u
theorem rows_open {t e : TypeId} {ks : List FK} {v : Value} {d : DataW H} {p : List MemPlace} (ht : P.underlying t = some (.slice e)) (hb : flatB P e ks = true) (hk0 : 0 < ks.length) {b0 : Nat}
  (hval : Value.okWide P w .any b0 t v) (h : DataW.Trod enc P w base sp held t v d p) : ∃ q rows, RwIn w v q ks rows := by
 obtain ⟨n, hn⟩ := h;obtain ⟨a0, l0, c0, rfl⟩ := okWide_slice ht hval;have hce : P.cellsOf e = ks.length := by simp only [flatB, Bool.and_eq_true, beq_iff_eq] at hb; exact hb.1
 have hcs : (Value.slice a0 l0 c0).cells.toList = [Value.slice a0 l0 c0] := rfl;rw [hcs] at hn;rcases Deep.open_slice ht hn with ⟨hv, _⟩ | ⟨a, len, cap, m, n', D, Pl, hv, hbb, hlc, hcm, hmm, _, hel⟩
 ·cases hv
  exact ⟨none, [], ⟨by simp, by simp, ⟨none, 0, rfl, by simp, by simp⟩, .inl ⟨rfl, rfl⟩⟩⟩
 ·cases hv
  have hml : l0 ≤ m := by rw [hmm]; split <;> omega
  obtain ⟨R, hR⟩ := Deep.choose_lt (α := List Value) (p := fun i cs => w.cells? base (a.add (i * P.cellsOf e)) (P.cellsOf e) = some cs ∧ DataW.trod enc P w base sp held n' e cs = some (D i, Pl i)) hel;have hrl : ((List.range l0).map R).length = l0 := by simp
  have hget : ∀ i r, ((List.range l0).map R)[i]? = some r → i < l0 ∧ r = R i := fun i r h => by
   simp only [List.getElem?_map, Option.map_eq_some_iff] at h;obtain ⟨k, h1, h2⟩ := h
   have hi : i < l0 := by
    rcases Nat.lt_or_ge i l0 with h | h
    ·exact h
    ·rw [List.getElem?_eq_none (by simpa using h)] at h1; cases h1
   rw [List.getElem?_range hi] at h1
   cases h1
   exact ⟨hi, h2.symm⟩
  have hok : ∀ i, i < m → okRow ks (R i) := fun i hi => flat_open hb (hR i hi).2
  have hrow : ∀ r ∈ (List.range l0).map R, okRow ks r := fun r hr => by
   obtain ⟨i, hi, rfl⟩ := List.mem_map.1 hr;exact hok i (by have := List.mem_range.1 hi; omega)
  by_cases h0 : l0 = 0
  ·subst h0;exact ⟨none, [], ⟨by simp, by simp, ⟨some a, c0, rfl, by simp, by simp⟩, .inl ⟨rfl, rfl⟩⟩⟩
  ·have hcell : ∀ i, i < l0 → ∀ (j : Nat) (u : Value), (R i)[j]? = some u → w.cell? ((a.add (i * ks.length)).add j) = some u := fun i hi j u hj => by
    obtain ⟨h1, h2⟩ := hR i (by omega);obtain ⟨_, hlen, hc⟩ := World.cells?_some h1;have hjl : j < P.cellsOf e := by rw [← hlen]; exact (List.getElem?_eq_some_iff.1 hj).1
    rw [← hce, hc j hjl];exact hj
   have hr0 : ∃ u, (R 0)[0]? = some u := by
    have := okRow_len (hok 0 (by omega));exact ⟨_, List.getElem?_eq_getElem (by omega)⟩
   obtain ⟨u0, hu0⟩ := hr0;have hc0 := hcell 0 (by omega) 0 u0 hu0;have hsp : a.spot = none := World.cell?_spot (by unfold Addr.add at hc0; simpa using hc0);obtain ⟨b, o, s0⟩ := a;simp only at hsp;subst hsp
   have hblk : b < w.heap.size := by
    rw [z5d, z5d] at hc0;unfold World.cell? at hc0;rcases Nat.lt_or_ge b w.heap.size with h | h
    ·exact h
    ·simp [Array.getElem?_eq_none h] at hc0
   refine ⟨some ⟨b, o, ks.length, 0⟩, (List.range l0).map R, ⟨by omega, hrow, ⟨some ⟨b, o, none⟩, c0, by rw [hrl], by omega, fun _ => ⟨_, rfl, rfl⟩⟩, .inr ⟨_, rfl, rfl, hblk, fun i r hr j u hj => ?_⟩⟩⟩;obtain ⟨hi, rfl⟩ := hget i r hr;have := hcell i hi j u hj;rw [z5d, z5d] at this;exact this
end
theorem rows_in {β : Env} {w : World} {v : Value} {q : Option Loc} {ks : List FK} {rows : List (List Value)} (h : RwIn w v q ks rows) {id : Nat} (hq : β id 0 = q) (e : TypeId) (f : Nat → List SV) (hf : ∀ (i : Nat) (r : List Value), rows[i]? = some r → f i = r.map svOf) :
  den β (.slc false id 0 0 rows.length) v ∧ (Obj.row ⟨false, false, e, ks.length, rows.length, f⟩).holds β w q := by
 obtain ⟨_, hok, ⟨a, c, rfl, hc, hp⟩, hm⟩ := h;refine ⟨?_, ?_⟩
 ·simp only [den, z67, Bool.false_eq_true, if_false];refine ⟨a, c, rfl, hc, fun h => ?_⟩;obtain ⟨L, h1, h2⟩ := hp h;exact ⟨L, hq.trans h1, by rw [h2]; simp⟩
 ·rcases hm with hm | ⟨L, h1, h2, h3, h4⟩
  ·exact .inl hm
  ·refine .inr ⟨L, h1, h2, h3, fun i hi => ?_, fun h => by cases h⟩;have hi' : i < rows.length := hi;have hr := List.getElem?_eq_getElem hi';have hfi := hf i _ hr;have hoki := hok _ (List.getElem_mem hi')
   show (f i).length = ks.length ∧ ∀ (j : Nat) (s : SV), (f i)[j]? = some s → _
   rw [hfi];refine ⟨by rw [List.length_map]; exact okRow_len hoki, fun j s hs => ?_⟩;rw [List.getElem?_map, Option.map_eq_some_iff] at hs;obtain ⟨u, hu, rfl⟩ := hs;obtain ⟨k, hk⟩ := okRow_get hoki j u hu;obtain ⟨g1, g2, _⟩ := FK.den (β := β) hk;refine ⟨g2, u, ?_, g1⟩;rw [h2];exact h4 i _ hr j u hu
def strData {H : Type} (ss : List ByteArray) : DataW H := .agg (ss.map fun s => .lit (.string s.data.toList))
theorem cells_of_strs {H : Type} {enc : TypeId × Value → H} {P : Program} {w : World} {base : Nat} {sp : Nat → Bool} {held : Bool} {fuel : Nat} {t e : TypeId} {n : Nat} {cs : List Value} {ss : List ByteArray} {p : List MemPlace}
  (ht : P.underlying t = some (.array n e)) (he : P.underlying e = some .string) (hce : P.cellsOf e = 1) (hct : P.cellsOf t = n)
  (h : DataW.trod enc P w base sp held fuel t cs = some (strData ss, p)) : cs = ss.map Value.string := by
 cases fuel with
 |zero => simp [DataW.trod] at h
 |succ fuel =>
  simp only [DataW.trod, ht, hce, hct, Nat.mul_one] at h
  split at h
  ·rename_i hl;obtain ⟨xs, hm, hx⟩ := Option.map_eq_some_iff.1 h
   have hxs : xs.map (·.1) = ss.map fun s => (DataW.lit (.string s.data.toList) : DataW H) := by
    have := congrArg Prod.fst hx;simpa [strData] using this
   have hxl : xs.length = n := by simpa using Lib.mapM_length hm
   have hzl : ss.length = n := by
    have := congrArg List.length hxs;simp at this;omega
   apply List.ext_getElem?;intro i
   by_cases hi : i < n
   ·obtain ⟨b, hb, hf⟩ := Lib.mapM_at hm i i (by simp [hi]);obtain ⟨z, hc, rfl, _⟩ := DataW.trod_string he hf
    have h1 : cs[i]? = some (.string z) := by
     have := congrArg (·[0]?) hc;simpa [List.getElem?_take, List.getElem?_drop] using this
    have h2 : (xs.map (·.1))[i]? = some (DataW.lit (.string z.data.toList) : DataW H) := by simp [hb]
    rw [hxs] at h2;simp only [List.getElem?_map, Option.map_eq_some_iff, DataW.lit.injEq, Lit.string.injEq] at h2;obtain ⟨z', hz', he'⟩ := h2
    have : z' = z := by
     cases z' with
     |mk a => cases z with
      |mk b => congr 1; exact Array.toList_inj.1 he'
    subst this;simp [h1, hz']
   ·rw [List.getElem?_eq_none (by omega), List.getElem?_eq_none (by simp; omega)]
  ·cases h
theorem tabs_of_laid {P : Program} {W : World} {name : String} {g : Nat} {t e : TypeId} (hg : P.globalNamed name = some g) (hty : (P.globals[g]?).map (·.type) = some t) (ht : P.underlying t = some (.array 6 e)) (he : P.underlying e = some .string) (hce : P.cellsOf e = 1) (hct : P.cellsOf t = 6)
  (hone : (List.range P.globals.size).all (fun i => !tabG P i || i == g) = true) (h : laidMet P [(name, strData letters)] W) : ∀ i, tabG P i = true → i < W.heap.size ∧ TabAt W i := by
 obtain ⟨ps, ⟨g', t', cs, fuel, p, q, hg', ht', hvar, hd, _, _⟩, _⟩ := h;obtain rfl := Option.some.inj (hg.symm.trans hg');obtain rfl := Option.some.inj (hty.symm.trans ht');have hcs := cells_of_strs ht he hce hct hd;intro i hi
 have hlt : i < P.globals.size := by
  rcases Nat.lt_or_ge i P.globals.size with h | h
  ·exact h
  ·unfold tabG at hi; rw [Array.getElem?_eq_none h] at hi; cases hi
 have h1 := List.all_eq_true.1 hone i (List.mem_range.2 hlt);rw [hi] at h1;have : i = g := by simpa using h1
 subst this
 have hat : TabAt W i := fun j s hj => by
  have := World.var?_cell hg hvar j;rw [this, ← Array.getElem?_toList, hcs, List.getElem?_map, hj]
  rfl
 refine ⟨?_, hat⟩;have h0 := hat 0 _ (show letters[0]? = some _ from rfl);unfold World.cell? at h0;rcases Nat.lt_or_ge i W.heap.size with h | h
 ·exact h
 ·simp [Array.getElem?_eq_none h] at h0
end Go.Sk

namespace Go.Sk
open Go.RowKit Go.ChangeShapes Go.WideShapes
end Go.Sk

namespace Go.Sk
open Go.RowKit Go.WideShapes Go.ChangeShapes
section
variable {H : Type} {enc : TypeId × Value → H} {P : Program} {w : World} {base : Nat} {sp : Nat → Bool} {held : Bool}
end
end Go.Sk

namespace Go.Sk
open Go.RowKit Go.WideShapes Go.ChangeShapes
section
variable {H : Type} {enc : TypeId × Value → H} {P : Program} {w : World} {base : Nat} {sp : Nat → Bool} {held : Bool}
end
end Go.Sk

namespace Go.Proofs
open Go.Sk
theorem firstFrom_none_all {xs : List Int} : ∀ {n i : Nat}, z46 xs n i = none → ∀ j, i ≤ j → j < i + n → z6g xs j = none
 |0, i, _, j, h1, h2 => by omega
 |n + 1, i, h, j, h1, h2 => by
  simp only [z46] at h
  split at h
  ·cases h
  ·rename_i hs
   by_cases e : j = i
   ·subst e; exact hs
   ·exact firstFrom_none_all h j (by omega) (by omega)
theorem shiftAt_none_iff {xs : List Int} {i : Nat} (h : z6g xs i = none) : nth xs (i + 1) ≤ 2 * nth xs i + 4 ∧ nth xs i ≤ 2 * nth xs (i + 1) + 4 := by
 unfold z6g at h
 split at h
 ·cases h
 ·split at h
  ·cases h
  ·omega
theorem settled_near {r : List Int} (hv : z6h r = true) (h : z5b r = none) {i : Nat} (hi : i + 1 < r.length) : nth r (i + 1) ≤ 2 * nth r i + 4 ∧ nth r i ≤ 2 * nth r (i + 1) + 4 := by
 unfold z5b at h;rw [if_pos hv] at h
 split at h
 ·cases h
 ·rename_i hs;exact shiftAt_none_iff (firstFrom_none_all hs i (by omega) (by omega))
theorem mostAt_max (xs : List Int) : ∀ i, ∀ j, j < i → nth xs j ≤ nth xs (z2l xs i)
 |0, j, h => by omega
 |i + 1, j, h => by
  have ih := mostAt_max xs i;simp only [z2l]
  by_cases e : j = i
  ·subst e; split <;> omega
  ·have := ih j (by omega)
   split <;> omega
theorem leastAt_min (xs : List Int) : ∀ i, ∀ j, j < i → nth xs (z15 xs i) ≤ nth xs j
 |0, j, h => by omega
 |i + 1, j, h => by
  have ih := leastAt_min xs i;simp only [z15]
  by_cases e : j = i
  ·subst e; split <;> omega
  ·have := ih j (by omega)
   split <;> omega
theorem settled_far {r : List Int} (hv : z6h r = true) (h : z5b r = none) {i j : Nat} (hi : i < r.length) (hj : j < r.length) : nth r i ≤ 12 * nth r j + 24 := by
 have hgi := z1z hv hi;have hgj := z1z hv hj
 by_cases h3 : r.length < 3
 ·have : i = j ∨ i + 1 = j ∨ i = j + 1 := by omega
  rcases this with e | e | e
  ·subst e; omega
  ·subst e; have := settled_near hv h (i := i) hj; omega
  ·subst e; have := settled_near hv h (i := j) hi; omega
 ·have hn := h;unfold z5b at hn;rw [if_pos hv] at hn
  split at hn
  ·cases hn
  ·rw [if_neg h3] at hn;unfold z6e at hn;simp only at hn
   split at hn
   ·cases hn
   ·rename_i hm;have m1 := mostAt_max r r.length i hi;have l1 := leastAt_min r r.length j hj;have ll := z6r r r.length (Nat.le_refl _) (by omega)
    have key : nth r (toOf r (z15 r r.length)) ≤ 2 * nth r (z15 r r.length) + 4 := by
     unfold toOf
     generalize z15 r r.length = l at ll
     split
     ·rename_i hc;have := settled_near hv h (i := l) (by omega);omega
     ·rename_i hc;have := settled_near hv h (i := l - 1) (by omega);rw [show l - 1 + 1 = l by omega] at this;omega
    omega
theorem Rb.keep : ∀ {ss : List Bal} {l r : List Hd}, vldB l = true → Rb l ss r → vldB r = true ∧ z55 r = z55 l ∧ r.length = l.length ∧ z5b (z14 r) = none
 |[], l, r, hv, h => by
  obtain ⟨h1, rfl⟩ := h;exact ⟨hv, rfl, rfl, h1⟩
 |s :: ss, l, r, hv, h => by
  obtain ⟨h1, h2⟩ := h;obtain ⟨k1, k2, _⟩ := due_keep hv h1;obtain ⟨g1, g2, g3, g4⟩ := Rb.keep k2 h2;exact ⟨g1, g2.trans k1.tab, g3.trans k1.len, g4⟩
def RbZ (z : List Int) (ss : List Bal) (r : List Hd) : Prop := ∃ l, vldB l = true ∧ z = z14 l ∧ Rb l ss r
theorem RbZ.step {z : List Int} {s : Bal} {ss : List Bal} {r : List Hd} (h : RbZ z (s :: ss) r) : ∃ z', z2k z s = (z', 0) ∧ RbZ z' ss r := by
 obtain ⟨l, h1, rfl, h2, h3⟩ := h;obtain ⟨_, k2, k3⟩ := due_keep h1 h2;exact ⟨_, k3, _, k2, rfl, h3⟩
theorem RbZ.done {z : List Int} {r : List Hd} (h : RbZ z [] r) : z = z14 r := by
 obtain ⟨l, _, rfl, _, rfl⟩ := h
 rfl
theorem RbZ.len {z : List Int} {ss : List Bal} {r : List Hd} (h : RbZ z ss r) : z.length = r.length := by
 obtain ⟨l, h1, rfl, h2⟩ := h;rw [z28, (h2.keep h1).2.2.1]
theorem far_end {r : List Hd} (hv : vldB r = true) (hs : z5b (z14 r) = none) {lo hi : Int} {n : Nat} (hn : n ≤ r.length) (h1 : hi = 0 ∨ ∃ a, a < n ∧ hi = nth (z14 r) a) (h2 : lo = 1024 ∨ ∃ b, b < n ∧ lo = nth (z14 r) b) : hi ≤ 12 * lo + 24 := by
 have hl := vld_load hv;have hb : ∀ j, j < r.length → 0 ≤ nth (z14 r) j ∧ nth (z14 r) j ≤ 1024 := fun j hj => z1z hl (by rw [z28]; exact hj);rcases h1 with rfl | ⟨a, ha, rfl⟩
 ·rcases h2 with rfl | ⟨b, hb2, rfl⟩
  ·decide
  ·have := hb b (by omega); omega
 ·rcases h2 with rfl | ⟨b, hb2, rfl⟩
  ·have := hb a (by omega); omega
  ·exact settled_far hl hs (by rw [z28]; omega) (by rw [z28]; omega)
end Go.Proofs

namespace Go.Proofs
open Go.Sk
theorem bals_at (l : List Bal) (i : Nat) : bals l i = [.int .i64 (bal l i).kind, .int .i64 (bal l i).from_, .int .i64 (bal l i).to, .int .i64 (bal l i).beside, .int .i64 (bal l i).count] := rfl
theorem bals_fold (l : List Bal) : (fun i => [SV.int .i64 (bal l i).kind, .int .i64 (bal l i).from_, .int .i64 (bal l i).to, .int .i64 (bal l i).beside, .int .i64 (bal l i).count]) = bals l := rfl
theorem drop_bal {ss : List Bal} {i : Nat} (h : i < ss.length) : ss.drop i = bal ss i :: ss.drop (i + 1) := by
 rw [List.drop_eq_getElem_cons h]
 congr 1
 simp [bal, List.getD, h]
theorem MxIm.s {a : Prop} (h : a := by simp [SV.wkL, SV.wk, z1c, z1p, Sk.get, Sk.find, Sk.one, zb.eq_1, zb.eq_2, zb.eq_3, zz, z1d, z19, SV.renL, SV.ren, Obj.lt_row, SV.ltL, SV.lt, z6w, z3p, zx, z23, Obj.own.eq_1, Obj.own.eq_2, Obj.own.eq_3, Obj.own.eq_4, z1x, zw, z1h, z3h, nds, Nd.sv, z30, z2d, z71, z72, z54, z3t, z5k, z32, z3x, z3s, z4t, z4k, z4j, z3i, z5x, z19, z2q, z5m, z12, z1l, z1y, z63, ints_lt', Bal.sv, z3v, bals_ren', bals_lt]) : a := h
theorem MxIm.ca {P : Program} {f : FuncId} {args args0 : List SV} {H0 H : AH} {R : SV → AH → Prop} {dr : Bool} {W : List Nat} {k : SV → AH → Prop} (hF : zf P f args0 H0 R) (ρ : Nat → Nat) (hk : ∀ s0 H1, R s0 H1 → ∀ s1 H2, s1 = s0.ren (z5r H0.nxt H.nxt ρ) → H2 = after H0.nxt ρ H0 H H1 → k s1 H2) (q : CaQ args args0 ρ H0 H dr W := by constructor <;> exact MxIm.s) (r : CaR ρ H0 H := by exact ⟨rfl, rfl⟩) : z59 P f args H dr W k := caS hF ρ hk q r
theorem MxIm.t {s e : SV} {H g : AH} (q : AfQ s e H g := by constructor <;> (simp only [z2o, after, z5r, id, z2c, reduceCtorEq, Nat.reduceEqDiff, Nat.one_ne_zero, Nat.zero_ne_one, z5t, z2f, zx, Sk.one, Obj.own.eq_1, Obj.own.eq_2, Obj.own.eq_3, Obj.own.eq_4, Obj.ren.eq_1, Obj.ren.eq_2, Obj.ren_blk, Row.ren, SV.ren, SV.renL, List.map_cons, List.map_nil, List.nil_append, List.cons_append, ↓reduceIte, Nat.reduceLT, Nat.reduceAdd, Nat.reduceSub, Nat.reduceEqDiff, Nat.add_zero, Bool.false_eq_true, Tryd.tyInt, Tryd.szInt, Tryd.tyStr, Tryd.tyU32, Tryd.tyNode, Tryd.szNode, Tryd.zNode, Tryd.tyNodes, Tryd.szNodes, z1x, zw, nds, Nd.sv, Tryd.tyRow, Tryd.szRow, Tryd.zRow, Tryd.tyRows, Tryd.szRows, Tryd.zRows, Tryd.tyHd, Tryd.szHd, Tryd.zHd, Tryd.tyHds, Tryd.szHds, Tryd.tyHoldings, Tryd.tyErr, Tryd.tyBool, beq_self_eq_true, bne_self_eq_false, Tryd.tyTape, Tryd.szTape, Tryd.zTape, Tryd.tyInts, Tryd.szInts, Tryd.tyInt, Tryd.szInt, Tryd.zInt, z1l, z1y, z12, Tryd.tyBal, Tryd.szBal, Tryd.zBal, Tryd.tyBals, Bal.sv, stepSv, bals_at, z5g, z4n, fam_ren, hmF_ren, hmR_fold, hmR_ren, rws_ren, hoF_ren, hoR_fold, hoR_ren, z5g, z1l, z1y, bals_ren, bals_fold]; exact rfl)) : AfQ s e H g := q
theorem MxIm.af {s e e1 : SV} {H g g1 : AH} (h1 : s = e) (h2 : H = g) (q : AfQ e e1 g g1 := by exact MxIm.t) : s = e1 ∧ H = g1 := ⟨h1.trans q.s, h2.trans q.h⟩
theorem MxIm.c1 {P : Program} {f : FuncId} {args args0 : List SV} {H0 H Y g : AH} {X e : SV} {dr : Bool} {W : List Nat} {k : SV → AH → Prop} (hF : zf P f args0 H0 fun s H1 => s = X ∧ H1 = Y) (ρ : Nat → Nat) (h : k e g) (q : CaQ args args0 ρ H0 H dr W := by constructor <;> exact MxIm.s) (r : CaR ρ H0 H := by exact ⟨rfl, rfl⟩) (b : AfQ (X.ren (z5r H0.nxt H.nxt ρ)) e (after H0.nxt ρ H0 H Y) g := by exact MxIm.t) : z59 P f args H dr W k := c1S hF ρ h q r b
theorem MxIm.g {X : Cx} {fr : Fr} {H : AH} {fr1 : Fr} {H1 : AH} (ρ : Nat → Nat) (q : GvQ X ρ fr H fr1 H1 := by constructor <;> exact MxIm.s) (r : GvR X ρ H1 := by exact ⟨rfl, rfl, Nat.le_of_ble_eq_true rfl, rfl⟩) : z2h X ρ fr H fr1 H1 := gvS ρ q r
theorem z27 {a c d : Prop} (r : a → c) (h : d) (e : Sd a d := by simp only [stp, isQ, z42, Sk.get, Sk.put, z1o, zq, ↓reduceIte, reduceCtorEq, Nat.reduceEqDiff, true_and, and_true, true_implies, implies_true, forall_const, imp_self, Bool.false_eq_true, false_implies, false_and, and_false, Bool.false_and, Bool.and_false, qop, grdK, List.getElem?_toArray, List.getElem?_cons_zero, List.getElem?_cons_succ, beq_true, beq_false, beq_self_eq_true, Bool.and_true, Bool.true_and, Bool.not_true, Bool.not_false, Bool.not_not, Bool.and_eq_true, Bool.not_eq_true', Bool.not_eq_false', z10, Bool.cond_true_left, Bool.cond_false_left, Bool.cond_true_right, Bool.cond_false_right, cond_true, cond_false, and_imp, z3j, Sk.find, Sk.one, z1g, z1j, Kd.agg, List.contains_nil, List.contains_cons, Nat.reduceBEq, Bool.or_false, Bool.true_or, Bool.or_true, Bool.false_or, ite_self, Nat.lt_one_iff, Nat.zero_add, Nat.add_zero, Nat.reduceAdd, Nat.reduceMul, Nat.reduceSub, Nat.reduceLT, Nat.reduceLeDiff, Nat.le_refl, Nat.zero_le, ne_eq, Nat.one_ne_zero, not_false_eq_true, not_true_eq_false, Int.toNat_natCast, Int.reduceToNat, List.length_cons, List.length_nil, and_self, Kd.slice.injEq, exists_eq', Option.map_some, Option.some.injEq, List.drop_zero, List.drop_succ_cons, List.take_succ_cons, List.take_zero, List.take_nil, List.drop_nil, List.nil_append, List.cons_append, List.append_nil, List.append_eq, List.all_cons, List.all_nil, spl, z1s, SV.cells, SV.scalar, binK, z58, z57, intK, z2e, strK, z2s, z56, z3g, unK, z5a, z53, z2z, z31, z4r, z33, z34, optK, z36, bndK, Option.isSome_some, Option.isSome_none, Nat.sub_zero, or_true, true_or, z2r, z2y, z4m, z39, lenK, z16.len, zn.n, z4l, mmK, z1n, eop, z5e, srcK, z17, z5v, z3e, capK, z5f, z1v, z2c, z2j, boxK, z1w, z38, z2m, updF, mkK, z4p, z16.ofKd, zn.ofKd, z4q, z16.add, z16.okKd, zn.put, zn.okKd, zn.okP, z35, z16.has, zn.get, zn.z, Tryd.tyInt, Tryd.szInt, Tryd.tyStr, Tryd.tyU32, Tryd.tyNode, Tryd.szNode, Tryd.zNode, Tryd.tyNodes, Tryd.szNodes, z1x, zw, nds, Nd.sv, Tryd.tyRow, Tryd.szRow, Tryd.zRow, Tryd.tyRows, Tryd.szRows, Tryd.zRows, Tryd.tyHd, Tryd.szHd, Tryd.zHd, Tryd.tyHds, Tryd.szHds, Tryd.tyHoldings, z6q, hmF_ap, rws_ap, Tryd.tyErr, Tryd.tyBool, beq_self_eq_true, bne_self_eq_false, Tryd.tyTape, Tryd.szTape, Tryd.zTape, Tryd.tyInts, Tryd.szInts, Tryd.tyInt, Tryd.szInt, Tryd.zInt, ints, z1l, z1y, z12, Tryd.tyBal, Tryd.szBal, Tryd.zBal, Tryd.tyBals, Bal.sv, stepSv, bals_at]; (repeat (with_reducible apply Sd.and; exact z9)); exact Sd.rfl) : c := r (e.f h)
set_option maxHeartbeats 4000000 in
theorem balanced_spec (ls : List Int) (hx : ls.length ≤ 9223372036854775807) :
  zf Tryd.prog 4 [.slc false 0 0 0 ls.length] ⟨1, [(0, z1l ls)]⟩ (fun s _ => s = .bool true) := by
 refine zf.ofC false 104 [.tmp 2] Tryd.func4 rfl rfl Tryd.ntmps4 Tryd.results4 rfl ?_;intro w0 own0 β0 Q hQ hQn;simp only [z1q];refine sg [0] rfl ?_;intro K hK;refine z27 z5 ?_;refine z7 (z6 (hK _ _ ?_)); clear hK K;refine sg [3] rfl ?_;intro K hK;refine z27 z5 ?_;refine z27 z5 ?_;refine MxIm.ca (new_spec ls hx) (id) ?_;rintro s0 H0 ⟨m, hm0, rfl, rfl⟩ s1 H1 hs1 hH1;obtain ⟨hs2, hH2⟩ := MxIm.af hs1 hH1;clear hs1 hH1;subst hs2 hH2;repeat (with_reducible apply ai;exact z9)
 refine z27 z5 ?_;refine z7 (z6 (hK _ _ ?_)); clear hK K;refine sg [4] rfl ?_;intro K hK;refine z27 z5 ?_;refine z27 z5 ?_;refine MxIm.ca (crowded_spec ls m 0 hx hm0 (Nat.zero_le _)) (fun q => if q = 0 then 1 else 0) ?_;rintro s0 H0 ⟨x, at1, ha1, hxB, hx0, hx8, hxv, rfl, rfl⟩ s1 H1 hs1 hH1;obtain ⟨hs2, hH2⟩ := MxIm.af hs1 hH1;clear hs1 hH1;subst hs2 hH2;repeat (with_reducible apply ai;exact z9)
 refine z27 z5 ?_;refine z7 (z6 (hK _ _ ?_)); clear hK K;refine sg [4, 5, 6, 7] rfl ?_;intro K hK;refine z27 z5 ?_;refine z27 z5 ?_;refine MxIm.ca (rebP_spec x hxB x.length rfl) (fun q => q + 2) ?_;rintro s0 H0 ⟨L, ss, hS, hLB, hss, rfl, rfl⟩ s1 H1 hs1 hH1;obtain ⟨hs2, hH2⟩ := MxIm.af hs1 hH1;clear hs1 hH1;subst hs2 hH2;repeat (with_reducible apply ai;exact z9)
 rw [if_pos hxv];have hRb : Rb (vls x) ss (vls L) := by rwa [RbR, if_pos hxv] at hS
 obtain ⟨hlv, htab, hlen0, hend⟩ := hRb.keep hxv;have hlen : L.length = x.length := by rwa [z2v, z2v] at hlen0
 have hxl := hxB.len;have hll := hLB.len;have hxt := hxB.tot;have hlt := hLB.tot;iterate 7 (refine z27 z5 ?_)
 refine z7 (z6 (hK _ _ ?_)); clear hK K;refine Cs.seq ?_;refine sg [4, 5, 6, 48] rfl ?_;intro K hK;iterate 4 (refine z27 z5 ?_)
 refine z5 ?_;refine z11 rfl rfl ?_;refine zo ?_;refine ⟨fun _ => ?_, fun h => (by cases h)⟩;refine z27 id ?_;refine MxIm.c1 (validP_spec L hLB L.length rfl) (fun q => q + 4) ?_;rw [hlv];iterate 4 (refine z27 z5 ?_)
 refine z5 ?_;refine z11 rfl rfl ?_;refine zo ?_;refine ⟨fun _ => ?_, fun h => (by cases h)⟩;refine z27 id ?_;refine MxIm.c1 (tableP_spec x hxB.ok x.length rfl (by omega) (by omega)) (fun q => q + 2) ?_;refine z27 z5 ?_;refine z5 ?_;refine z11 rfl rfl ?_;refine zo ?_;refine ⟨fun _ => ?_, fun h => (by cases h)⟩;refine z27 id ?_;refine MxIm.c1 (tableP_spec L hLB.ok L.length rfl (by omega) (by omega)) (fun q => q + 4) ?_;refine z5 ?_;refine z11 rfl rfl ?_;refine zo ?_;refine ⟨fun _ => ?_, fun h => (by cases h)⟩;refine z27 id ?_;rw [htab];refine MxIm.c1 (same20_spec (z55 (vls x)) (z55 (vls x)) (z55 (vls x)).length rfl rfl (by omega)) (fun q => q + 7) ?_;iterate 8 (refine z27 z5 ?_)
 rw [show ((x.length : Int) != (L.length : Int)) = false by rw [hlen, bne_self_eq_false]];repeat (with_reducible apply ai;exact z9)
 refine z27 z5 ?_;refine z7 (z6 (hK _ _ ?_)); clear hK K;refine Cs.cond _ rfl ?_ ?_
 ·intro h48
  exfalso
  simp at h48
 ·intro h48
  
  refine Cs.skip ?_;refine sg [5, 6, 8] rfl ?_;intro K hK;refine z27 z5 ?_;refine z27 z5 ?_;refine MxIm.c1 (loadsP_spec x x.length rfl (by omega)) (fun q => q + 2) ?_;have hz0 : RbZ (z14 (vls x)) (ss.drop 0) (vls L) := ⟨vls x, hxv, rfl, hRb⟩;have hzl0 : (z14 (vls x)).length = x.length := z3v x;refine z27 z5 ?_;refine z7 (z6 (hK _ _ ?_)); clear hK K;refine Cs.seq ?_;refine sg [5, 8, 51, 52, 53] rfl ?_;intro K hK;iterate 3 (refine z27 z5 ?_)
  refine z7 (z6 (hK _ _ ?_)); clear hK K;refine Cs.block ?_;intro Q0 hN0 hX0 hR0 hE0;refine Cs.loop (σ := Nat × List Int) (fun σ => σ.1 ≤ ss.length ∧ RbZ σ.2 (ss.drop σ.1) (vls L)) (fun σ => ss.length - σ.1) (fun σ => [(5, .slc true 4 0 0 L.length), (8, .slc true 7 0 0 σ.2.length), (51, .slc true 6 0 0 ss.length), (52, .int .i64 ss.length), (53, .int .i64 σ.1)]) (fun σ => ⟨8, [(7, z1y σ.2), (4, Sk.one (.row ⟨true, false, 48, 4, L.length, hmR false 5 L⟩)), (5, (L.length + 1, fam true 65 2 (hmF true L))), (6, Sk.one (.row ⟨true, false, 29, 5, ss.length, bals ss⟩))]⟩) (0, z14 (vls x)) ⟨Nat.zero_le _, hz0⟩ (ρ := fun q => if q = 7 then 9 else q) (MxIm.g (fun q => if q = 7 then 9 else q)) ?_;rintro ⟨i, z⟩ hi QL1 hL1 hRL1 hEL1;refine sg [5, 8, 51, 52, 53, 54] rfl ?_;intro K hK;refine z27 z5 ?_;refine z7 (z6 (hK _ _ ?_)); clear hK K;refine Cs.seq ?_;refine Cs.cond _ rfl ?_ ?_
  ·intro h54;replace h54 := z8 h54;obtain ⟨hi1, hz⟩ := hi;dsimp only at hi1 hz;have hii : i < ss.length := by omega
   rw [drop_bal hii] at hz;have hzl := hz.len;rw [z2v] at hzl;obtain ⟨z2, hap, hz2⟩ := hz.step;refine Cs.skip ?_;refine Cs.seq ?_;refine Cs.block ?_;intro Q1 hN1 hX1 hR1 hE1;refine sg [5, 8, 10, 51, 52, 53] rfl ?_;intro K hK;iterate 4 (refine z27 z5 ?_)
   refine z7 (z6 (hK _ _ ?_)); clear hK K;refine sg [5, 7, 8, 51, 52, 53] rfl ?_;intro K hK;iterate 2 (refine z27 z5 ?_)
   refine z27 z5 ?_;refine MxIm.c1 (refApply_spec z (bal ss i) (by omega)) (fun q => 7) ?_;rw [hap];iterate 5 (refine z27 z5 ?_)
   refine z7 (z6 (hK _ _ ?_)); clear hK K;refine sg [5, 8, 51, 52, 53, 64] rfl ?_;intro K hK;iterate 2 (refine z27 z5 ?_)
   refine z7 (z6 (hK _ _ ?_)); clear hK K;refine Cs.cond _ rfl ?_ ?_
   ·intro h64
    exfalso
    simp at h64
   ·intro h64
    
    refine Cs.skip ?_;refine Cs.nil ?_;refine hN1 _ _ ?_;refine Cs.reg [5, 8, 51, 52, 53] rfl ?_;intro K hK;iterate 2 (refine z27 z5 ?_)
    refine z7 (z6 (hK _ _ ?_)); clear hK K;refine Cs.nil ?_;refine hL1 _ _ ?_;rw [show (i : Int) + 1 = ((i + 1 : Nat) : Int) from by omega];exact ⟨(i + 1, z2), ⟨⟨by omega, hz2⟩, by dsimp only; omega⟩, fun q => if q = 7 then 9 else q, (MxIm.g (fun q => if q = 7 then 9 else q))⟩
  ·intro h54;replace h54 := z8 h54;obtain ⟨hi1, hz⟩ := hi;dsimp only at hi1 hz;rw [List.drop_eq_nil_of_le (by omega)] at hz;have hzl := hz.len;rw [z2v] at hzl;have hzd := hz.done;refine Cs.exit ?_;refine hEL1 _ _ _ ?_;refine hX0 _ _ ?_;refine sg [5, 8, 12] rfl ?_;intro K hK;refine z27 z5 ?_;refine z27 z5 ?_;refine MxIm.c1 (loadsP_spec L L.length rfl (by omega)) (fun q => q + 4) ?_;have hsp := refStep_spec (z14 (vls L)) (by rw [z3v]; omega);rw [hend] at hsp;refine z27 z5 ?_;refine MxIm.c1 (hsp) (fun _ => 8) ?_;iterate 6 (refine z27 z5 ?_)
   refine z7 (z6 (hK _ _ ?_)); clear hK K;refine sg [5, 8, 12, 13, 14] rfl ?_;intro K hK;iterate 2 (refine z27 z5 ?_)
   refine z7 (z6 (hK _ _ ?_)); clear hK K;refine Cs.seq ?_;refine sg [5, 8, 12, 13, 14, 73, 74, 75] rfl ?_;intro K hK;refine z27 z5 ?_;refine z27 z5 ?_;refine MxIm.c1 (loadsP_spec L L.length rfl (by omega)) (fun q => q + 4) ?_;have hbd : ∀ j, j < L.length → 0 ≤ nth (z14 (vls L)) j ∧ nth (z14 (vls L)) j ≤ 1024 := fun j hj => z1z (vld_load hlv) (by rw [z3v]; exact hj);iterate 2 (refine z27 z5 ?_)
   refine z7 (z6 (hK _ _ ?_)); clear hK K;refine Cs.block ?_;intro Q2 hN2 hX2 hR2 hE2;refine Cs.loop (σ := Nat × Int × Int) (fun σ => σ.1 ≤ L.length ∧ (σ.2.2 = 0 ∨ ∃ a, a < σ.1 ∧ σ.2.2 = nth (z14 (vls L)) a) ∧ (σ.2.1 = 1024 ∨ ∃ b, b < σ.1 ∧ σ.2.1 = nth (z14 (vls L)) b)) (fun σ => L.length - σ.1) (fun σ => [(5, .slc true 4 0 0 L.length), (8, .slc true 7 0 0 z.length), (12, .bool false), (13, .int .i64 σ.2.1), (14, .int .i64 σ.2.2), (73, .slc true 10 0 0 L.length), (74, .int .i64 L.length), (75, .int .i64 σ.1)]) (fun σ => ⟨11, [(10, Sk.one (.row ⟨true, false, 3, 1, L.length, ints (z14 (vls L))⟩)), (7, z1y z), (4, Sk.one (.row ⟨true, false, 48, 4, L.length, hmR false 5 L⟩)), (5, (L.length + 1, fam true 65 2 (hmF true L)))]⟩) (0, 1024, 0) ⟨Nat.zero_le _, .inl rfl, .inl rfl⟩ (ρ := id) (MxIm.g id) ?_;rintro ⟨k, lo, hi⟩ hk QL2 hL2 hRL2 hEL2;refine sg [5, 8, 12, 13, 14, 73, 74, 75, 76] rfl ?_;intro K hK;refine z27 z5 ?_;refine z7 (z6 (hK _ _ ?_)); clear hK K;refine Cs.seq ?_;refine Cs.cond _ rfl ?_ ?_
   ·intro h76;replace h76 := z8 h76;obtain ⟨hk1, hk2, hk3⟩ := hk;dsimp only at hk1 hk2 hk3;have hkk : k < L.length := by omega
    refine Cs.skip ?_;refine Cs.seq ?_;refine Cs.block ?_;intro Q3 hN3 hX3 hR3 hE3;refine sg [5, 8, 12, 13, 14, 16, 73, 74, 75] rfl ?_;intro K hK;iterate 3 (refine z27 z5 ?_)
    refine z7 (z6 (hK _ _ ?_)); clear hK K;refine Cs.reg [5, 8, 12, 13, 14, 73, 74, 75] rfl ?_;intro K hK;iterate 8 (refine z27 z5 ?_)
    refine z7 (z6 (hK _ _ ?_)); clear hK K;refine Cs.nil ?_;refine hN3 _ _ ?_;refine Cs.reg [5, 8, 12, 13, 14, 73, 74, 75] rfl ?_;intro K hK;iterate 2 (refine z27 z5 ?_)
    refine z7 (z6 (hK _ _ ?_)); clear hK K;refine Cs.nil ?_;refine hL2 _ _ ?_;rw [show (k : Int) + 1 = ((k + 1 : Nat) : Int) from by omega];refine ⟨(k + 1, min lo (nth (z14 (vls L)) k), max hi (nth (z14 (vls L)) k)), ⟨⟨by omega, ?_, ?_⟩, by dsimp only; omega⟩, id, (MxIm.g id)⟩
    ·dsimp only;rcases Int.le_total hi (nth (z14 (vls L)) k) with g | g
     ·exact .inr ⟨k, by omega, Int.max_eq_right g⟩
     ·rw [Int.max_eq_left g];rcases hk2 with rfl | ⟨a, ha, rfl⟩
      ·exact .inl rfl
      ·exact .inr ⟨a, by omega, rfl⟩
    ·dsimp only;rcases Int.le_total lo (nth (z14 (vls L)) k) with g | g
     ·rw [Int.min_eq_left g];rcases hk3 with rfl | ⟨b, hb, rfl⟩
      ·exact .inl rfl
      ·exact .inr ⟨b, by omega, rfl⟩
     ·exact .inr ⟨k, by omega, Int.min_eq_right g⟩
   ·intro h76;replace h76 := z8 h76;obtain ⟨hk1, hk2, hk3⟩ := hk;dsimp only at hk1 hk2 hk3;have hfar := far_end hlv hend (n := k) (by rw [z2v]; exact hk1) hk2 hk3
    have hlo : 0 ≤ lo ∧ lo ≤ 1024 := by
     rcases hk3 with rfl | ⟨b, hb, rfl⟩
     ·decide
     ·exact hbd b (by omega)
    refine Cs.exit ?_;refine hEL2 _ _ _ ?_;refine hX2 _ _ ?_;refine sg [2] rfl ?_;intro K hK;iterate 5 (refine z27 z5 ?_)
    refine z5 ?_;refine z11 rfl rfl ?_;refine zo ?_;refine ⟨fun _ => ?_, fun h => (by cases h)⟩;refine z27 id ?_;refine MxIm.c1 (loadsP_spec L L.length rfl (by omega)) (fun q => q + 4) ?_;refine z5 ?_;refine z11 rfl rfl ?_;refine zo ?_;refine ⟨fun _ => ?_, fun h => (by cases h)⟩;refine z27 id ?_;refine MxIm.c1 (sameInts_spec z (z14 (vls L)) (by omega) (by rw [z3v]; omega)) (fun q => if q = 0 then 7 else 11) ?_;rw [decide_eq_true hzd];iterate 7 (refine z27 z5 ?_)
    rw [decide_eq_true hfar];repeat (with_reducible apply ai;exact z9)
    iterate 2 (refine z27 z5 ?_)
    refine z5 ?_;refine z11 rfl rfl ?_;refine zo ?_;refine ⟨fun _ => ?_, fun h => (by cases h)⟩;refine z27 id ?_;refine MxIm.c1 (awake_spec) (id) ?_;iterate 2 (refine z27 z5 ?_)
    refine z7 (z6 (hK _ _ ?_)); clear hK K;refine Cs.ret ?_;refine hQ _ _ ?_;refine zl.mk (H' := ⟨1, []⟩) (.inl rfl) ?_;refine zh ?_;refine ⟨MxIm.s, (MxIm.g id), MxIm.s, ?_⟩;trivial
end Go.Proofs

namespace Go.Proofs.YtkdolgokaefhfaaDoor
open Go.ChangeShapes Go.WideShapes Go.RowKit Go.Sk Go.Proofs
theorem own : ownKnob Tryd.prog.godebug = none := by kernel_rfl
theorem laid : laidOutB Tryd.prog = true := by kernel_rfl
theorem rowed : mapsRowed Tryd.prog = true := by kernel_rfl
theorem fullS : ∀ t e, t < Tryd.prog.types.size → Tryd.prog.underlying t = some (.slice e) → 0 < Tryd.prog.cellsOf e := slices_full_of _ (by kernel_rfl)
theorem uInts : Tryd.prog.underlying 22 = some (.slice 3) := by kernel_rfl
theorem uStr : Tryd.prog.underlying 9 = some .string := by kernel_rfl
theorem uBool : Tryd.prog.underlying 4 = some .bool := by kernel_rfl
theorem fInt : flatB Tryd.prog 3 [.i .i64] = true := by kernel_rfl
theorem gTab : Tryd.prog.globalNamed "skipgraph/skipgraphworld.letters" = some 0 := by kernel_rfl
theorem gTabType : (Tryd.prog.globals[0]?).map (·.type) = some 98 := by kernel_rfl
theorem uTab : Tryd.prog.underlying 98 = some (.array 6 9) := by kernel_rfl
theorem cTab : Tryd.prog.cellsOf 98 = 6 := by kernel_rfl
theorem cStr : Tryd.prog.cellsOf 9 = 1 := by kernel_rfl
theorem oneTab : (List.range Tryd.prog.globals.size).all (fun i => !tabG Tryd.prog i || i == 0) = true := by kernel_rfl
theorem tabs {W : World} (h : laidMetH Tryd.prog [("skipgraph/skipgraphworld.letters", Rows.laid_skipgraph_skipgraphworld_letters)] W) : ∀ i, tabG Tryd.prog i = true → i < W.heap.size ∧ TabAt W i :=
 tabs_of_laid gTab gTabType uTab uStr cStr cTab oneTab h
theorem noTabB : (List.range Tryd.prog.globals.size).all (fun i => !tabBG Tryd.prog i) = true := by kernel_rfl
theorem tabsB {W : World} : ∀ i, tabBG Tryd.prog i = true → i < W.heap.size ∧ TabBAt W i := fun i hi => by
 exfalso
 have hlt : i < Tryd.prog.globals.size := by
  rcases Nat.lt_or_ge i Tryd.prog.globals.size with h | h
  ·exact h
  ·unfold tabBG at hi; rw [Array.getElem?_eq_none h] at hi; cases hi
 have h1 := List.all_eq_true.1 noTabB i (List.mem_range.2 hlt);rw [hi] at h1
 cases h1
def toInt : List Value → Int
 |[.int _ z] => z
 |_ => 0
def toInts (rows : List (List Value)) : List Int := rows.map toInt
theorem ints_rows {w : World} {v : Value} {q : Option Sk.Loc} {rows : List (List Value)} (h : RwIn w v q [.i .i64] rows) (i : Nat) (r : List Value) (hr : rows[i]? = some r) : ints (toInts rows) i = r.map svOf := by
 have hok := h.ok r (List.mem_of_getElem? hr);rcases r with _ | ⟨v, _ | ⟨v', r⟩⟩
 ·exact hok.elim
 ·obtain ⟨⟨z, rfl, _⟩, _⟩ := hok;simp only [ints, nth, toInts, List.getD, List.getElem?_map, hr, Option.map_some, Option.getD_some, toInt, List.map_cons, List.map_nil, svOf]
 ·exact hok.2.elim
theorem ints_in {β : Env} {w : World} {v : Value} {q : Option Sk.Loc} {rows : List (List Value)} (h : RwIn w v q [.i .i64] rows) {id : Nat} (hq : β id 0 = q) :
  den β (.slc false id 0 0 (toInts rows).length) v ∧ (Sk.Obj.row ⟨false, false, 3, 1, (toInts rows).length, ints (toInts rows)⟩).holds β w q := by
 have := rows_in h hq 3 (ints (toInts rows)) (ints_rows h);simpa [toInts] using this
theorem ints_len {w : World} {v : Value} {q : Option Sk.Loc} {rows : List (List Value)} (h : RwIn w v q [.i .i64] rows) : (toInts rows).length ≤ 9223372036854775807 := by
 have := h.len;simpa [toInts, maxLen] using this
theorem ints_ltO (m : Nat) (xs : List Int) : (Sk.Obj.row ⟨false, false, 3, 1, xs.length, ints xs⟩).lt m := Sk.Obj.lt_row.2 fun i _ => by simp [ints, SV.ltL, SV.lt]
noncomputable def laidWorld (os : Os) : World :=
  { World.holding Tryd.prog os ⟨#[], #[], []⟩ with heap := (World.holding Tryd.prog os ⟨#[], #[], []⟩).heap.modify 0 fun
      | .cells _ t frozen => .cells (letters.map Value.string).toArray t frozen
      | o => o }
end Go.Proofs.YtkdolgokaefhfaaDoor

namespace Go.Proofs.YtkdolgokaefhfaaDoor.moveBalancedTop
open Go.ChangeShapes Go.WideShapes Go.RowKit Go.Sk Go.Proofs
theorem top (W : World) (v0 : Value) (q0 : Option Sk.Loc) (r0 : List (List Value)) (h0 : RwIn W v0 q0 [.i .i64] r0)
  (htab : ∀ i, tabG Tryd.prog i = true → i < W.heap.size ∧ TabAt W i) (htabB : ∀ i, tabBG Tryd.prog i = true → i < W.heap.size ∧ TabBAt W i) : Calls Tryd.prog 4 #[v0] W fun e w' => e = .returned (.bool true) ∧ Below W.heap.size W w' := by
 let β : Env := fun id k => q0
 obtain ⟨a0, b0⟩ := ints_in (β := β) (id := 0) h0 rfl;refine zf.top (Ent.of Tryd.func4 (by kernel_rfl) (by kernel_rfl)) (balanced_spec (toInts r0) (ints_len h0)) β W [v0] (fun id k o ho => ?_) ⟨v0, [], a0, rfl, rfl⟩ (by simp [SV.ltL, SV.lt]) htab htabB;obtain ⟨c, F, hf, hk, rfl⟩ := z1e ho;simp only [Sk.find, z1l, Sk.one] at hf
 split at hf
 ·rename_i e; subst e; cases hf
  exact ⟨rfl, by show (0 : Nat) < 1; omega, ints_ltO _ _, b0⟩
 ·cases hf
theorem contract (H : Type) (enc : TypeId × Value → H) (W : World) (base : Nat) (args : Array Value) (ds gs : List (DataW H)) (before : List MemPlace)
  (hval : ∀ (j : Nat) t v, Tryd.f4.params[j]? = some t → args[j]? = some v → Value.okWide Tryd.prog W .any base t v)
  (hW : DataW.Whole enc Tryd.prog Tryd.f4.params.toList Rows.moveBalancedSpec.vars false W args.toList ds gs before) (hL : laidMetH Tryd.prog Rows.moveBalancedRow.laid W) :
  Calls Tryd.prog 4 args W fun e W' => ∃ v, e = .returned v ∧ Rows.moveBalancedSpec.post enc Tryd.prog Tryd.f4 false true false false W args v W' := by
 have hW1 := hW;obtain ⟨p, q, hA0, hV, rfl, _, _⟩ := hW;have hA : DataW.TrodAll enc Tryd.prog W 0 (fun _ => true) true Tryd.f4.params.toList args.toList ds p := hA0;have hval1 : ∀ (j : Nat) t v, Tryd.f4.params[j]? = some t → args[j]? = some v → Value.okWide Tryd.prog W .any base t v := hval;rw [Tryd.params4] at hA hval1;obtain ⟨v0, vs0, d0, ds0, p0, q0, ha0, rfl, rfl, h0, r0⟩ := trodAll_cons hA;obtain ⟨rfl, rfl, rfl⟩ := trodAll_nil r0;obtain rfl : args = #[v0] := by cases args; simp_all
 obtain ⟨_, _, x0⟩ := rows_open uInts fInt (by simp) (hval1 0 _ v0 rfl rfl) h0;refine (top W v0 _ _ x0 (tabs hL) tabsB).mono fun e W1 ⟨he, hb⟩ => ?_;subst he;refine ⟨_, rfl, law_post laid rowed fullS (by decide +kernel) rfl hW1 hb rfl uBool fun ds hd => ?_⟩;have hd1 : ds.length = 1 := hd
 match ds, hd1 with
 |[_], _ => rfl
theorem laid_met (os : Os) : laidMet Tryd.prog Rows.moveBalancedRow.laid ((laidWorld os).forCall (fun _ _ => 0) ⟨#[], #[.slice none 0 0], []⟩).memory :=
 laidMet_of_run' 8 (by kernel_rfl) (by kernel_rfl)
theorem reads (os : Os) {H : Type} (enc : TypeId × Value → H) : ∃ places, DataW.whole enc Tryd.prog ((laidWorld os).forCall (fun _ _ => 0) ⟨#[], #[.slice none 0 0], []⟩).memory Tryd.f4.params.toList Rows.moveBalancedSpec.vars false #[Value.slice none 0 0].toList 8 = some ([.nil], [], places) :=
 ⟨[], by kernel_rfl⟩
set_option maxRecDepth 100000 in
theorem lifted (os : Os) (started : os.Started) (H : Type) (enc : TypeId × Value → H) (F : Stop.Interp) :
  ReturnsInHanded {} Tryd.checked os 4 .any ((OpenSpec.ofChange Rows.moveBalancedSpec).preRow enc Tryd.prog Tryd.f4 Rows.moveBalancedRow.domain false Rows.moveBalancedRow.laid) (((OpenSpec.ofChange Rows.moveBalancedSpec).at F).post enc Tryd.prog Tryd.f4 false true false false) := by
 obtain ⟨places, hx⟩ := reads os enc
 refine returnsInHanded_of_row (C := Tryd.checked) (s := OpenSpec.ofChange Rows.moveBalancedSpec) own started (by kernel_rfl) Tryd.func4
  (witness_row_at (enc := enc) (C := Tryd.checked) false (laidWorld os) #[.slice none 0 0] rfl (by kernel_rfl) (by kernel_rfl) (by kernel_rfl)
   (OpenSpec.preRow_of_cond 8 hx (by kernel_rfl) (fun k hk => by cases hk) (by kernel_rfl) (laid_met os))) ?_
 intro W base args ds gs before hval hW _ _ _ hL _ _;exact contract H enc W base args ds gs before hval hW hL
theorem said : Rows.MoveBalancedSaid :=
 OpenClaim.holds_of_cond 4 Tryd.f4 rfl rfl rfl rfl rfl rfl rfl ⟨rfl, rfl, rfl, rfl, rfl⟩ rfl rfl rfl rfl rfl (by kernel_rfl) Tryd.func4 (by kernel_rfl)
  (of_decide_eq_true (by kernel_rfl)) (by unfold Func.isWrapper; first | (rw [if_pos (by decide +kernel)]; kernel_rfl) | (rw [if_neg (by decide +kernel)]; exact ⟨rfl, rfl⟩))
  (fun os started H enc _ F => by rw [OpenClaim.pre_eq_preRow]; exact lifted os started H enc F)
theorem plain (f : FuncId) (fn : Func) (hf : Tryd.pinned.checked.prog.funcNamed "skipgraph/skipgraphlaw33.MoveBalanced" = some f) (hfn : Tryd.pinned.checked.prog.funcs[f]? = some fn) :
  false = Tryd.pinned.checked.prog.looks [] ∧ ∀ (j : Nat) t, fn.params[j]? = some t → Tryd.pinned.checked.prog.wantsStandIn t = false := by
 obtain rfl : f = 4 := Option.some.inj ((show Tryd.prog.funcNamed "skipgraph/skipgraphlaw33.MoveBalanced" = some 4 by kernel_rfl).symm.trans hf) |>.symm
 obtain rfl : fn = Tryd.f4 := (Option.some.inj (Tryd.func4.symm.trans hfn)).symm;refine ⟨by kernel_rfl, fun j t ht => ?_⟩;rw [Tryd.params4] at ht;have hm : t ∈ [22] := by simpa using Array.mem_of_getElem? ht
 have hall : ([22].all fun u => !Tryd.prog.wantsStandIn u) = true := by kernel_rfl
 exact (show Tryd.prog.wantsStandIn t = false by simpa using List.all_eq_true.1 hall t hm)
theorem proved : Rows.MoveBalancedCardSaid :=
 Claim7.holds_tied_plain_at .later [] _ _ _ _ said (fun _ h => by cases h) (by kernel_rfl) (fun _ h => by cases h) moveBalanced_row_tie rfl ⟨rfl, rfl⟩ (by kernel_rfl) rfl plain (by kernel_rfl)
end Go.Proofs.YtkdolgokaefhfaaDoor.moveBalancedTop
#print axioms Go.Proofs.YtkdolgokaefhfaaDoor.moveBalancedTop.proved
