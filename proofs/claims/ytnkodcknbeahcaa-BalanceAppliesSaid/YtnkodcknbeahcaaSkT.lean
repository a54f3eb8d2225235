/-
  From what a law's walk gives (FSpec) to the form's contract: the call returns true, and what came in reads as before.
  Conditions: the parameters' readings, opened.
-/
import Derived.Test.YtnkodcknbeahcaaSkR
import Derived.Test.YtnkodcknbeahcaaChecked
import Derived.Below
import Derived.ChangeSame
import Derived.ChangeSlices
import Derived.ReadAgain
import Derived.OpenShut
import Derived.JoinedOf
import Derived.Handed
set_option linter.unusedSimpArgs false
set_option linter.unusedVariables false
namespace Go.Sk
open Go.RowKit Go.WideShapes Go.ChangeShapes

theorem below_sameAt {w w' : World} (h : Below w.heap.size w w') {p : MemPlace} (hp : p.block < w.heap.size) : w.sameAt w' p := by
  cases p with
  | cell b off => exact World.cell?_of_block (h.block b hp)
  | map b => exact h.block b hp

section
variable {H : Type} {enc : TypeId × Value → H} {P : Program}

theorem trodAll_carry {w w' : World} {base : Nat} {sp : Nat → Bool} {held : Bool} : ∀ {ts : List TypeId} {vs : List Value} {ds : List (DataW H)} {ps : List MemPlace}, DataW.TrodAll enc P w base sp held ts vs ds ps → (∀ p ∈ ps, w.sameAt w' p) →
    DataW.TrodAll enc P w' base sp held ts vs ds ps
  | [], [], [], _, h, _ => h
  | _ :: _, _ :: _, _ :: _, _, ⟨p, q, ⟨n, h1⟩, h2, e⟩, hs =>
    ⟨p, q, ⟨n, DataW.trod_carry n _ _ _ h1 fun x hx => hs x (by rw [e]; exact List.mem_append_left _ hx)⟩, trodAll_carry h2 (fun x hx => hs x (by rw [e]; exact List.mem_append_right _ hx)), e⟩

theorem trodAll_len {w : World} {base : Nat} {sp : Nat → Bool} {held : Bool} : ∀ {ts : List TypeId} {vs : List Value} {ds : List (DataW H)} {ps : List MemPlace}, DataW.TrodAll enc P w base sp held ts vs ds ps → ds.length = ts.length
  | [], [], [], _, _ => rfl
  | _ :: _, _ :: _, _ :: _, _, ⟨_, _, _, h2, _⟩ => by simp [trodAll_len h2]

theorem law_post {f : Func} {s : ChangeSpec} {apart fresh handsOn again : Bool} {W W' : World} {args : Array Value} {ds gs : List (DataW H)} {before : List MemPlace} (hl : laidOutB P = true) (hm : mapsRowed P = true)
    (hz : ∀ t e, t < P.types.size → P.underlying t = some (.slice e) → 0 < P.cellsOf e) (hts : ∀ t ∈ f.params.toList, t < P.types.size) (hv : s.vars = [])
    (hW : DataW.Whole enc P f.params.toList s.vars apart W args.toList ds gs before) (hb : Below W.heap.size W W') {tb : TypeId} (hres : f.resultTypes = #[tb]) (hbool : P.underlying tb = some .bool)
    (hfn : ∀ ds : List (DataW H), ds.length = f.params.toList.length → s.fn H ds = { results := [.lit (.bool true)], args := ds }) : s.post enc P f apart fresh handsOn again W args (.bool true) W' := by
  have hW' := hW
  obtain ⟨p, q, hA, hV, rfl, hfz, hnd⟩ := hW
  rw [hv] at hV
  have hq : gs = [] ∧ q = [] := by
    cases gs with
    | nil => exact ⟨rfl, hV⟩
    | cons _ _ => exact hV.elim
  obtain ⟨rfl, rfl⟩ := hq
  have hfn' := hfn (ds ++ []) (by rw [List.append_nil]; exact trodAll_len hA)
  have hlt : ∀ x ∈ p, x.block < W.heap.size := DataW.TrodAll.lt hA
  have hargs : ∀ sp : Nat → Bool, (∀ x ∈ p ++ [], sp x.block = true) → DataW.TrodAll enc P W' 0 sp true f.params.toList args.toList ds p := fun sp hsp =>
    trodAll_carry (DataW.TrodAll.respare (kids_rows hl hm) hz hts hA fun x hx => hsp x (List.mem_append_left _ hx)) fun x hx => below_sameAt hb (hlt x hx)
  have hrl : ((Value.bool true).resultList f.resultTypes.size) = [.bool true] := by rw [hres]; rfl
  have hres' : ∀ (b : Nat) (sp : Nat → Bool) (hd : Bool), DataW.TrodAll enc P W' b sp hd f.resultTypes.toList ((Value.bool true).resultList f.resultTypes.size) (s.fn H (ds ++ [])).results [] := fun b sp hd => by
    rw [hrl, hfn', hres]
    exact trodAll_mk1 (shut_bool hbool true)
  have hvars : ∀ sp : Nat → Bool, DataW.TrodVars enc P W' sp s.vars (s.fn H (ds ++ [])).vars [] := fun sp => by rw [hfn', hv]; rfl
  have hargs' : ∀ sp : Nat → Bool, (∀ x ∈ p ++ [], sp x.block = true) → DataW.TrodAll enc P W' 0 sp true f.params.toList args.toList (s.fn H (ds ++ [])).args p := fun sp hsp => by
    rw [hfn']; simpa using hargs sp hsp
  have hold : ∀ x ∈ p ++ [], (fun b => decide (b < W.heap.size)) x.block = true := fun x hx => by simpa using hlt x (by simpa using hx)
  refine ⟨ds, [], p ++ [], [], p, [], hW', hres' _ _ _, hargs' _ hold, hvars _, World.keptBut_mono (fun x hx => ⟨hx, ?_⟩) (hb.frame (· ∈ p ++ [])), fun _ => ⟨?_, _, _, ([] ++ p) ++ [], ⟨[] ++ p, [], trodAll_append (hargs' _ (fun _ _ => rfl)) (hres' _ _ _), hvars _, rfl, ?_, ?_⟩, ?_⟩⟩
  · exact .inr (.inl (by simpa using hx))
  · intro j t r ht hr
    rw [hrl] at hr
    rw [hres] at ht
    cases j with
    | zero => simp at ht hr; subst ht hr; exact okWide_bool_mk hbool _
    | succ j => simp at hr
  · intro b off hp
    have hin : MemPlace.cell b off ∈ p ++ [] := by simpa using hp
    rw [hb.frozen (hlt _ (by simpa using hin))]
    exact hfz b off hin
  · intro ha
    simpa using hnd ha
  · intro x hx _
    simpa using hx

end

theorem FSpec.top {P : Program} {f : FuncId} {args : List SV} {H0 : AH} (hF : FSpec P f args H0 (fun s _ => s = .bool true)) (β : Env) (w : World) (vs : List Value)
    (hh : ∀ id k o, look H0.os id k = some o → o.own = false ∧ id < H0.nxt ∧ o.lt H0.nxt ∧ o.holds β w (β id k)) (hd : denL β args vs) (hl : SV.ltL H0.nxt args) :
    Calls P f vs.toArray w fun e w' => e = .returned (.bool true) ∧ Below w.heap.size w w' := by
  let own0 : Nat → Nat → Prop := fun id k => ∃ o, look H0.os id k = some o ∧ o.own = true
  let X : Cx := { P := P, n := 0, w0 := w, own0 := own0, m0 := H0.nxt, β0 := β }
  have no : ∀ id k o, look H0.os id k = some o → ¬ o.own = true := fun id k o h => by rw [(hh id k o h).1]; simp
  have no0 : ∀ id k, ¬ own0 id k := fun id k ⟨o, h1, h2⟩ => no id k o h1 h2
  have hS : St X β H0 w := {
    os := rfl, tape := rfl, output := rfl, size := Nat.le_refl _, fix := fun _ _ _ => rfl
    holds := fun id k o h => (hh id k o h).2.2.2
    sep := fun id k id' k' o o' L L' h _ ho => absurd ho (no id k o h)
    old := fun _ _ _ => rfl
    mine := fun id k o L h ho => absurd ho (no id k o h)
    keep := fun id k h => absurd h (no0 id k)
    m0 := Nat.le_refl _
    lt := fun id k o h => ⟨(hh id k o h).2.1, (hh id k o h).2.2.1⟩ }
  refine (hF.2 X β w vs rfl rfl rfl rfl rfl hS hd hl).mono fun e w' ⟨v, he, β', s, H', hs, _, hdv, _, hS'⟩ => ?_
  subst hs
  simp only [den] at hdv
  subst hdv
  exact ⟨he, hS'.os, hS'.tape, hS'.output, hS'.size, fun b hb => hS'.old b hb fun id k o L h ho hβ => by
    rcases hS'.mine id k o L h ho hβ with ⟨_, h1⟩ | ⟨_, h2⟩
    · exact absurd h1 (no0 id k)
    · have : w.heap.size ≤ L.blk := h2
      omega⟩

/-- What a slice of numbers is, opened. -/
structure Ints (w : World) (v : Value) (q : Option Loc) (xs : List Int) : Prop where
  len : xs.length ≤ maxLen
  rng : ∀ x ∈ xs, -9223372036854775808 ≤ x ∧ x ≤ 9223372036854775807
  val : ∃ a c, v = .slice a xs.length c ∧ xs.length ≤ c ∧ (0 < xs.length → ∃ L, q = some L ∧ a = some ⟨L.blk, L.off, none⟩)
  mem : (xs.length = 0 ∧ q = none) ∨ ∃ L, q = some L ∧ L.sz = 1 ∧ L.blk < w.heap.size ∧ ∀ i (h : i < xs.length), w.cell? ⟨L.blk, L.off + i, none⟩ = some (.int .i64 xs[i])

theorem open_in {H : Type} {enc : TypeId × Value → H} {P : Program} {w : World} {base : Nat} {t e : TypeId} {v : Value} {d : DataW H} {p : List MemPlace} (ht : P.underlying t = some (.slice e)) (he : P.underlying e = some (.int .i64)) (hc : P.cellsOf e = 1)
    (hval : Value.okWide P w .any base t v) (h : DataW.Trod enc P w 0 (fun _ => true) true t v d p) : ∃ q xs, Ints w v q xs := by
  obtain ⟨n, hn⟩ := h
  obtain ⟨a0, l0, c0, rfl⟩ := okWide_slice ht hval
  have hcs : (Value.slice a0 l0 c0).cells.toList = [Value.slice a0 l0 c0] := rfl
  rw [hcs] at hn
  rcases open_ints ht he hc hn with ⟨hv, _⟩ | ⟨a, len, cap, zs, hv, _, hlc, hcm, hzl, _, hcell, hwf⟩
  · cases hv
    exact ⟨none, [], ⟨by simp, by simp, ⟨none, 0, rfl, by simp, by simp⟩, .inl ⟨rfl, rfl⟩⟩⟩
  · cases hv
    simp only [if_true] at hzl
    have hl : (zs.take l0).length = l0 := by rw [List.length_take]; omega
    by_cases h0 : l0 = 0
    · refine ⟨none, zs.take l0, ⟨by omega, fun x hx => bounds_i64 (hwf x (List.mem_of_mem_take hx)), ⟨some a, c0, by rw [hl], by omega, fun hp => by omega⟩, .inl ⟨by omega, rfl⟩⟩⟩
    · have hsp : a.spot = none := World.cell?_spot (by have := hcell 0 (by omega); unfold Addr.add at this; simpa using this)
      obtain ⟨b, o, sp⟩ := a
      simp only at hsp
      subst hsp
      have hblk : b < w.heap.size := by
        have := hcell 0 (by omega)
        rw [addr_add] at this
        unfold World.cell? at this
        rcases Nat.lt_or_ge b w.heap.size with h | h
        · exact h
        · simp [Array.getElem?_eq_none h] at this
      refine ⟨some ⟨b, o, 1, 0⟩, zs.take l0, ⟨by omega, fun x hx => bounds_i64 (hwf x (List.mem_of_mem_take hx)), ⟨some ⟨b, o, none⟩, c0, by rw [hl], by omega, fun _ => ⟨_, rfl, rfl⟩⟩, .inr ⟨_, rfl, rfl, hblk, fun i hi => ?_⟩⟩⟩
      have := hcell i (by omega)
      rw [addr_add] at this
      rw [this, List.getElem_take, List.getD, List.getElem?_eq_getElem (by omega)]
      rfl

/-! ### A struct of numbers, opened -/
def intFields (P : Program) (fs : Array Field) (n : Nat) : Bool := (List.range n).all fun i => match fs[i]? with
  | some f => f.offset == i && P.cellsOf f.type == 1 && (match P.underlying f.type with | some (.int .i64) => true | _ => false)
  | none => false
def numV : Value → Int
  | .int _ z => z
  | _ => 0

theorem open_intsS {H : Type} {enc : TypeId × Value → H} {P : Program} {w : World} {base : Nat} {spare : Nat → Bool} {held : Bool} {fuel : Nat} {t : TypeId} {fs : Array Field} {n : Nat} {cs : List Value} {x : DataW H × List MemPlace} (ht : P.underlying t = some (.struct fs)) (hn : P.cellsOf t = n)
    (hb : intFields P fs n = true) (h : DataW.trod enc P w base spare held fuel t cs = some x) : ∃ zs : List Int, zs.length = n ∧ cs = zs.map (Value.int .i64) := by
  obtain ⟨xs, m, _, _, hl, hxl, hf⟩ := DataW.trod_struct ht h
  rw [hn] at hl
  have each : ∀ i (hi : i < cs.length), cs[i] = .int .i64 (numV cs[i]) := fun i hi => by
    have h1 := List.all_eq_true.1 hb i (List.mem_range.2 (by omega))
    split at h1
    · rename_i f hfi
      simp only [Bool.and_eq_true, beq_iff_eq] at h1
      obtain ⟨⟨h2, h3⟩, h4⟩ := h1
      have h5 := hf i f hfi
      have hfs : i < fs.size := (Array.getElem?_eq_some_iff.1 hfi).1
      rw [h2, h3, List.getElem?_eq_getElem (by omega : i < xs.length)] at h5
      have hu : P.underlying f.type = some (.int .i64) := by
        split at h4
        · assumption
        · cases h4
      obtain ⟨z, hz, _⟩ := DataW.trod_int hu h5
      have h6 : (cs.drop i).take 1 = [cs[i]] := by rw [List.drop_eq_getElem_cons hi, List.take_succ_cons, List.take_zero]
      rw [h6] at hz
      have h7 : cs[i] = .int .i64 z := by simpa using hz
      rw [h7]
      rfl
    · cases h1
  refine ⟨cs.map numV, by simp [hl], ?_⟩
  apply List.ext_getElem
  · simp
  · intro i h1 h2
    simp only [List.getElem_map]
    exact each i h1


end Go.Sk
