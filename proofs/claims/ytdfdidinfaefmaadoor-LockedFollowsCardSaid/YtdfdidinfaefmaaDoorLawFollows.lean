/-
  LockedFollows: for every input the law returns true, and the input reads as before.
  Conditions: those that each statement names.
-/
import Derived.Test.YtdfdidinfaefmaaDoorQlb
import Derived.Test.YtdfdidinfaefmaaDoorChecked
import Derived.Below
import Derived.ChangeSame
import Derived.ChangeSlices
import Derived.ReadAgain
import Derived.OpenShut
import Derived.JoinedOf
import Derived.Handed
import Derived.Deep.Slices
import Derived.Lib.LaidTab
import Derived.Test.YtdfdidinfaefmaaDoorQle
import Derived.Test.YtdfdidinfaefmaaDoorRows
import Derived.Test.YtdfdidinfaefmaaDoorCards
import Derived.Test.YtdfdidinfaefmaaDoorTie
import Derived.WalkKit
import Derived.ProofKit
import Derived.Deep.DeepHandedRow
set_option linter.unusedSimpArgs false
set_option linter.unusedVariables false
set_option maxRecDepth 4000
namespace Go.Sk
open Go.RowKit
def schedT0 (ops : Array Oper) : Plan → Array Bool → Bool
 |.done, listed => (Region.ready .any ops listed).isEmpty
 |.op i p, listed => (if opQ ops i then (Region.ready .any ops listed).contains i && Region.free .any ops listed i else Region.ready .any ops listed == [i]) && schedT0 ops p (listed.setIfInBounds i true)
 |_, _ => false
/-- No effect writes what is told; nothing is made by an allocation of the region's own. -/
def nilW (ops : Array Oper) (W : List (List Nat)) : Bool := (List.range ops.size).all fun j => !isNew ops j && (W.getD j []).isEmpty
section
variable {X : Cx} {ops : Array Oper} {K : Fr → AH → Prop} {Q : Exit → Act → World → Prop} {Wf Uq : List (List Nat)}
def SW0 (_ : Nat) (w w' : World) : Prop := Kp w (fun _ => False) w'
theorem runT0_ok (hQ : ∀ a w, At X K a w → Q .normal a w) (hQp : ∀ c a w, ¬ Q (.panic c) a w)
  (hns : Region.noSelect ops = true) (hW : nilW ops Wf = true) (hd : dstOk X.n ops.toList = true) :
  ∀ (p : Plan) (listed : Array Bool) {β : Env} {H : AH} {w : World} {fr : Fr} {a : Act}, schedT0 ops p listed = true → Closed ops listed →
   St X β H w → FrOk X β H.nxt fr a →
   runT X.P X.wrap X.m0 Wf Uq ops p [] fr H K → wpAnyG X.P ops Q SW0 (z6s ops) p.len listed a w
 |.done, listed, β, H, w, fr, a, hs, _, hS, hF, h => ⟨by simpa [schedT0] using hs, hQ _ _ ⟨β, fr, H, h, hF, hS⟩⟩
 |.two .., _, _, _, _, _, _, hs, _, _, _, _ => by simp [schedT0] at hs
 |.three .., _, _, _, _, _, _, hs, _, _, _, _ => by simp [schedT0] at hs
 |.op i p, listed, β, H, w, fr, a, hs, hcl, hS, hF, h => by
  simp only [schedT0, Bool.and_eq_true] at hs;obtain ⟨hs1, hs2⟩ := hs;simp only [runT] at h;unfold stpI at h
  cases ho : ops[i]? with
  |none => rw [ho] at h; exact h.elim
  |some o =>
   rw [ho] at h;simp only at h;have his : i < ops.size := (Array.getElem?_eq_some_iff.1 ho).1;have hWi := List.all_eq_true.1 hW i (List.mem_range.2 his);rw [Bool.and_eq_true, Bool.not_eq_true', List.isEmpty_iff] at hWi;have hnn : newN ops i H [] = [] := by unfold newN; rw [hWi.1]; rfl
   have hwo : wOf Wf i H [] = [] := by unfold wOf anyW; rw [hWi.2]; rfl
   rw [hnn, hwo] at h;have hom : o ∈ ops.toList := by have := Array.mem_of_getElem? ho; simpa using this
   have hdo : ∀ t, o.dst = some t → t < X.n := dstOk_spec hd hom
   split at hs1
   ·rename_i hq0;rw [Bool.and_eq_true] at hs1;obtain ⟨hr, hfree⟩ := hs1;have hr' : i ∈ Region.ready .any ops listed := by simpa using hr
    have hcx := hcl.set hr';have hisq : z6s ops i = true := by unfold opQ at hq0; unfold z6s; exact hq0
    have hq : isQ o.op = true := by unfold opQ at hq0; rw [ho] at hq0; exact hq0
    obtain ⟨v, fr', hy, hk, hF'⟩ := stp_quiet (C := Kp w (fun _ => False)) hS hF hdo hq (fun _ w' hw' => hw'.mono fun b hb => hb.elim) h;refine wpAnyG_first (T := Kp w (fun _ => False)) ho hisq (Region.noSelect_spec hns) (fun c a w hh => absurd hh (hQp c _ w)) ?_ (fun _ => Kp.refl _ _) p.len listed a w hcl (Region.free_spec ho hfree) hr' hy (Kp.refl _ _) (runT0_ok hQ hQp hns hW hd p _ hs2 hcx hS hF' hk);intro listed' hcl' hun j hj hji w2 w3 hT hjq hSw;exact ⟨Nat.le_trans hT.1 hSw.1, fun b hb hnb => by rw [← hT.2 b hb hnb]; exact hSw.2 b (Nat.lt_of_lt_of_le hb hT.1) hnb⟩
   ·rename_i hq0;have hq : isQ o.op = false := by unfold opQ at hq0; rw [ho] at hq0; simpa using hq0
    have hisq : z6s ops i = false := by unfold z6s; rw [ho]; exact hq
    have hrd : Region.ready .any ops listed = [i] := by simpa using hs1
    refine ⟨fun h0 => (by rw [hrd] at h0; cases h0), fun x hx => ?_⟩;have hcx := hcl.set hx;rw [hrd] at hx;simp only [List.mem_cons, List.not_mem_nil, or_false] at hx;subst hx;have he := stp_eff (Q := Q) hS hF hdo hq h;unfold wpOp;rw [ho];simp only
    split at he
    ·rename_i hw;rw [if_pos hw];refine .inl (Oper.wp_mono (fun a' w' hp => ?_) he);obtain ⟨β', fr', H', hk, hF', hS', hag', hle', hsub', hkp'⟩ := hp;refine ⟨⟨fun hh => (by rw [hisq] at hh; cases hh), (hkp' rfl).mono fun b hin => ?_⟩, runT0_ok hQ hQp hns hW hd p _ hs2 hcx hS' hF' hk⟩;obtain ⟨id, k, o', L, hm, _⟩ := hin
     cases hm
    ·rename_i hw;rw [if_neg hw];obtain ⟨fr', hk, hF'⟩ := he;exact ⟨⟨fun hh => (by rw [hisq] at hh; cases hh), Kp.refl _ _⟩, runT0_ok hQ hQp hns hW hd p _ hs2 hcx hS hF' hk⟩
end
variable {X : Cx} {Q : Exit → Fr → AH → Prop} {fr : Fr} {H : AH} {l : List Code}
theorem Cs.regNil {c : Code} {id : Nat} {ops : List Oper} (keep : List Nat) (p : Plan) (W U : List (List Nat)) (hm : X.P.follows .mixedOrders = true)
    (hd : dstOk X.n ops = true) (hlen : p.len = ops.length) (hns : Region.noSelect ops.toArray = true) (hW : nilW ops.toArray W = true)
    (hs : schedT0 ops.toArray p (Array.replicate ops.length false) = true)
    (h : ∀ K : Fr → AH → Prop, (∀ fr H, Cs X (c :: l) Q fr H → K fr H) → (∀ fr H F G ρ, z24 X ρ fr H F G → K F G → K fr H) → runT X.P X.wrap X.m0 W U ops.toArray p [] fr H (fun fr H => K (prune keep fr) H)) : Cs X (.region id ops.toArray true :: c :: l) Q fr H := by
  have h1 := h (fun fr H => Cs X (c :: l) Q fr H) (fun _ _ h => h) (fun fr H F G ρ hg hk => Cs.give ρ hg hk)
  have h2 : Cw X (.region id ops.toArray true) (fun e fr H => match e with | .normal => Cs X (c :: l) Q (prune keep fr) H | e => Q e fr H) fr H := fun β a w hF hS => by
    refine wp_region_any hm (wpAny_of_G (S := SW0) (isq := z6s ops.toArray) _ _ _ _ ?_)
    have := runT0_ok (X := X) (ops := ops.toArray) (Q := lift X (fun e fr H => match e with | .normal => Cs X (c :: l) Q (prune keep fr) H | e => Q e fr H)) (fun _ _ h => h) (fun _ _ _ h => h) hns hW (by simpa using hd) p (Array.replicate ops.length false) (a := a) hs (fun j oj _ hl => by
        exfalso
        rcases Nat.lt_or_ge j ops.length with h' | h'
        · simp [h'] at hl
        · simp [h'] at hl) hS.drew hF h1
    rw [hlen] at this;simpa using this
  refine Cw.conv h2 ?_;intro e a w hh
  cases e with
  | normal => exact At.prune (K := fun fr H => Cs X (c :: l) Q fr H) hh
  | _ => exact hh
end Go.Sk

set_option linter.unusedSimpArgs false
set_option linter.unusedVariables false
set_option maxRecDepth 4000
namespace Go.Sk
open Go.RowKit Go.WideShapes Go.ChangeShapes
theorem below_sameAt {w w' : World} (h : Below w.heap.size w w') {p : MemPlace} (hp : p.block < w.heap.size) : w.sameAt w' p := by
 cases p with
 |cell b off => exact World.cell?_of_block (h.block b hp)
 |map b => exact h.block b hp
section
variable {H : Type} {enc : TypeId × Value → H} {P : Program}
theorem trodAll_carry {w w' : World} {base : Nat} {sp : Nat → Bool} {held : Bool} : ∀ {ts : List TypeId} {vs : List Value} {ds : List (DataW H)} {ps : List MemPlace}, DataW.TrodAll enc P w base sp held ts vs ds ps → (∀ p ∈ ps, w.sameAt w' p) →
  DataW.TrodAll enc P w' base sp held ts vs ds ps
 |[], [], [], _, h, _ => h
 |_ :: _, _ :: _, _ :: _, _, ⟨p, q, ⟨n, h1⟩, h2, e⟩, hs =>
  ⟨p, q, ⟨n, DataW.trod_carry n _ _ _ h1 fun x hx => hs x (by rw [e]; exact List.mem_append_left _ hx)⟩, trodAll_carry h2 (fun x hx => hs x (by rw [e]; exact List.mem_append_right _ hx)), e⟩
theorem trodAll_len {w : World} {base : Nat} {sp : Nat → Bool} {held : Bool} : ∀ {ts : List TypeId} {vs : List Value} {ds : List (DataW H)} {ps : List MemPlace}, DataW.TrodAll enc P w base sp held ts vs ds ps → ds.length = ts.length
 |[], [], [], _, _ => rfl
 |_ :: _, _ :: _, _ :: _, _, ⟨_, _, _, h2, _⟩ => by simp [trodAll_len h2]
theorem law_post {f : Func} {s : ChangeSpec} {apart fresh handsOn again : Bool} {W W' : World} {args : Array Value} {ds gs : List (DataW H)} {before : List MemPlace} (hl : laidOutB P = true) (hm : mapsRowed P = true)
  (hz : ∀ t e, t < P.types.size → P.underlying t = some (.slice e) → 0 < P.cellsOf e) (hts : ∀ t ∈ f.params.toList, t < P.types.size) (hv : s.vars = [])
  (hW : DataW.Whole enc P f.params.toList s.vars apart W args.toList ds gs before) (hb : Below W.heap.size W W') {tb : TypeId} (hres : f.resultTypes = #[tb]) (hbool : P.underlying tb = some .bool)
  (hfn : ∀ ds : List (DataW H), ds.length = f.params.toList.length → s.fn H ds = { results := [.lit (.bool true)], args := ds }) : s.post enc P f apart fresh handsOn again W args (.bool true) W' := by
 have hW' := hW;obtain ⟨p, q, hA, hV, rfl, hfz, hnd⟩ := hW;rw [hv] at hV
 have hq : gs = [] ∧ q = [] := by
  cases gs with
  |nil => exact ⟨rfl, hV⟩
  |cons _ _ => exact hV.elim
 obtain ⟨rfl, rfl⟩ := hq;have hfn' := hfn (ds ++ []) (by rw [List.append_nil]; exact trodAll_len hA);have hlt : ∀ x ∈ p, x.block < W.heap.size := DataW.TrodAll.lt hA
 have hargs : ∀ sp : Nat → Bool, (∀ x ∈ p ++ [], sp x.block = true) → DataW.TrodAll enc P W' 0 sp true f.params.toList args.toList ds p := fun sp hsp =>
  trodAll_carry (DataW.TrodAll.respare (kids_rows hl hm) hz hts hA fun x hx => hsp x (List.mem_append_left _ hx)) fun x hx => below_sameAt hb (hlt x hx)
 have hrl : ((Value.bool true).resultList f.resultTypes.size) = [.bool true] := by rw [hres]; rfl
 have hres' : ∀ (b : Nat) (sp : Nat → Bool) (hd : Bool), DataW.TrodAll enc P W' b sp hd f.resultTypes.toList ((Value.bool true).resultList f.resultTypes.size) (s.fn H (ds ++ [])).results [] := fun b sp hd => by
  rw [hrl, hfn', hres];exact trodAll_mk1 (shut_bool hbool true)
 have hvars : ∀ sp : Nat → Bool, DataW.TrodVars enc P W' sp s.vars (s.fn H (ds ++ [])).vars [] := fun sp => by rw [hfn', hv]; rfl
 have hargs' : ∀ sp : Nat → Bool, (∀ x ∈ p ++ [], sp x.block = true) → DataW.TrodAll enc P W' 0 sp true f.params.toList args.toList (s.fn H (ds ++ [])).args p := fun sp hsp => by
  rw [hfn']; simpa using hargs sp hsp
 have hold : ∀ x ∈ p ++ [], (fun b => decide (b < W.heap.size)) x.block = true := fun x hx => by simpa using hlt x (by simpa using hx)
 refine ⟨ds, [], p ++ [], [], p, [], hW', hres' _ _ _, hargs' _ hold, hvars _, World.keptBut_mono (fun x hx => ⟨hx, ?_⟩) (hb.frame (· ∈ p ++ [])), fun _ => ⟨?_, _, _, ([] ++ p) ++ [], ⟨[] ++ p, [], trodAll_append (hargs' _ (fun _ _ => rfl)) (hres' _ _ _), hvars _, rfl, ?_, ?_⟩, ?_⟩⟩
 ·exact .inr (.inl (by simpa using hx))
 ·intro j t r ht hr;rw [hrl] at hr;rw [hres] at ht
  cases j with
  |zero => simp at ht hr; subst ht hr; exact okWide_bool_mk hbool _
  |succ j => simp at hr
 ·intro b off hp;have hin : MemPlace.cell b off ∈ p ++ [] := by simpa using hp
  rw [hb.frozen (hlt _ (by simpa using hin))];exact hfz b off hin
 ·intro ha;simpa using hnd ha
 ·intro x hx _;simpa using hx
end
theorem z19.top {P : Program} {f : FuncId} {args : List SV} {H0 : AH} (hent : Ent P f) (hF : z19 P f args H0 (fun s _ => s = .bool true)) (β : Env) (w : World) (vs : List Value)
  (hh : ∀ id k o, look H0.os id k = some o → o.own = false ∧ id < H0.nxt ∧ o.lt H0.nxt ∧ o.holds β w (β id k)) (hd : z4b β args vs) (hl : SV.ltL H0.nxt args) (htab : ∀ g, tabG P g = true → g < w.heap.size ∧ TabAt w g) :
  Calls P f vs.toArray w fun e w' => e = .returned (.bool true) ∧ Below w.heap.size w w' := by
 let own0 : Nat → Nat → Prop := fun id k => ∃ o, look H0.os id k = some o ∧ o.own = true
 let X : Cx := { P := P, n := 0, w0 := w, own0 := own0, m0 := H0.nxt, β0 := β }
 have no : ∀ id k o, look H0.os id k = some o → ¬ o.own = true := fun id k o h => by rw [(hh id k o h).1]; simp
 have no0 : ∀ id k, ¬ own0 id k := fun id k ⟨o, h1, h2⟩ => no id k o h1 h2
 have hS : St X β H0 w := {
  os := rfl, tape := rfl, output := rfl, size := Nat.le_refl _, fix := fun _ _ _ => rfl
  holds := fun id k o h => (hh id k o h).2.2.2
  sep := fun id k id' k' o o' L L' h _ ho => absurd ho (no id k o h)
  old := fun _ _ _ => rfl
  mine := fun id k o L h ho => absurd ho (no id k o h)
  keep := fun id k h => absurd h (no0 id k)
  m0 := Nat.le_refl _
  lt := fun id k o h => ⟨(hh id k o h).2.1, (hh id k o h).2.2.1⟩
  tabs := fun g hg => ⟨(htab g hg).1, (htab g hg).2, fun id k _ h _ => absurd h (no0 id k)⟩ }
 refine ((hF X β w vs rfl rfl rfl rfl rfl hS hd hl).calls hent).mono fun e w' ⟨v, he, β', s, H', hs, _, hdv, _, hS'⟩ => ?_;subst hs;simp only [den] at hdv;subst hdv
 exact ⟨he, hS'.os, hS'.tape, hS'.output, hS'.size, fun b hb => hS'.old b hb fun id k o L h ho hβ => by
  rcases hS'.mine id k o L h ho hβ with ⟨_, h1⟩ | ⟨_, h2⟩
  ·exact absurd h1 (no0 id k)
  ·have : w.heap.size ≤ L.blk := h2
   omega⟩
end Go.Sk

set_option linter.unusedSimpArgs false
set_option linter.unusedVariables false
set_option maxRecDepth 4000
namespace Go.Sk
open Go.RowKit Go.WideShapes Go.ChangeShapes
/-- The kinds of one-cell fields. -/
inductive FK where
 |i (k : IntKind) | s | b
def FK.is (P : Program) (t : TypeId) : FK → Bool
 |.i k => match P.underlying t with | some (.int k') => k' == k | _ => false
 |.s => match P.underlying t with | some .string => true | _ => false
 |.b => match P.underlying t with | some .bool => true | _ => false
/-- A value of the kind. -/
def FK.ok : FK → Value → Prop
 |.i k, v => ∃ z, v = .int k z ∧ (Lit.int k z).wf = true
 |.s, v => ∃ x : ByteArray, v = .string x ∧ x.size ≤ maxLen
 |.b, v => ∃ x, v = .bool x
def svOf : Value → SV
 |.int k z => .int k z
 |.string x => .str x
 |.bool x => .bool x
 |v => .raw v
theorem FK.den {β : Env} {k : FK} {v : Value} (h : k.ok v) : den β (svOf v) v ∧ (svOf v).scalar = true ∧ ∀ m, (svOf v).lt m := by
 cases k <;> simp only [FK.ok] at h
 ·obtain ⟨z, rfl, _⟩ := h; exact ⟨rfl, rfl, fun _ => trivial⟩
 ·obtain ⟨z, rfl, _⟩ := h; exact ⟨rfl, rfl, fun _ => trivial⟩
 ·obtain ⟨z, rfl⟩ := h; exact ⟨rfl, rfl, fun _ => trivial⟩
/-- Cells of the kinds. -/
def okRow : List FK → List Value → Prop
 |[], [] => True
 |k :: ks, v :: vs => k.ok v ∧ okRow ks vs
 |_, _ => False
theorem okRow_len : ∀ {ks : List FK} {vs : List Value}, okRow ks vs → vs.length = ks.length
 |[], [], _ => rfl
 |_ :: _, _ :: _, h => by simp [okRow_len h.2]
 |[], _ :: _, h => h.elim
 |_ :: _, [], h => h.elim
theorem okRow_get : ∀ {ks : List FK} {vs : List Value}, okRow ks vs → ∀ (j : Nat) (v : Value), vs[j]? = some v → ∃ k : FK, k.ok v
 |[], [], _, j, v, h => by simp at h
 |k :: _, _ :: _, h, j, v, hj => by
  cases j with
  |zero => simp at hj; subst hj; exact ⟨k, h.1⟩
  |succ j => simp at hj; exact okRow_get h.2 j v hj
 |[], _ :: _, h, _, _, _ => h.elim
 |_ :: _, [], h, _, _, _ => h.elim
def fldsB (P : Program) (fs : Array Field) : Nat → List FK → Bool
 |i, [] => i == fs.size
 |i, k :: ks => (match fs[i]? with | some f => f.offset == i && P.cellsOf f.type == 1 && k.is P f.type | none => false) && fldsB P fs (i + 1) ks
/-- A type of one cell, or a struct of such fields. -/
def flatB (P : Program) (t : TypeId) (ks : List FK) : Bool :=
 P.cellsOf t == ks.length && (match P.underlying t with
  |some (.struct fs) => fldsB P fs 0 ks
  |_ => match ks with | [k] => k.is P t | _ => false)
section
variable {H : Type} {enc : TypeId × Value → H} {P : Program} {w : World} {base : Nat} {sp : Nat → Bool} {held : Bool}
theorem one_open {k : FK} {t : TypeId} {fuel : Nat} {cs : List Value} {x : DataW H × List MemPlace} (hk : k.is P t = true) (h : DataW.trod enc P w base sp held fuel t cs = some x) : ∃ v, cs = [v] ∧ k.ok v := by
 cases k <;> simp only [FK.is] at hk
 ·split at hk
  ·rename_i k' hu;obtain rfl := eq_of_beq hk;obtain ⟨n, rfl, _, hw⟩ := DataW.trod_int hu h;exact ⟨_, rfl, n, rfl, hw⟩
  ·cases hk
 ·split at hk
  ·rename_i hu;obtain ⟨s, rfl, _, hs⟩ := DataW.trod_string hu h;exact ⟨_, rfl, s, rfl, hs⟩
  ·cases hk
 ·split at hk
  ·rename_i hu;obtain ⟨b, rfl, _⟩ := DataW.trod_bool hu h;exact ⟨_, rfl, b, rfl⟩
  ·cases hk
theorem flds_open {fs : Array Field} {n : Nat} {cs : List Value} {xs : List (DataW H × List MemPlace)} (hx : xs.length = fs.size) (hf : ∀ (i : Nat) (f : Field), fs[i]? = some f → DataW.trod enc P w base sp held n f.type ((cs.drop f.offset).take (P.cellsOf f.type)) = xs[i]?) :
  ∀ (ks : List FK) (i : Nat), fldsB P fs i ks = true → i + ks.length = cs.length → okRow ks (cs.drop i)
 |[], i, _, hl => by rw [List.drop_eq_nil_of_le (by simp at hl; omega)]; trivial
 |k :: ks, i, h, hl => by
  simp only [fldsB, Bool.and_eq_true] at h;obtain ⟨h1, h2⟩ := h;simp only [List.length_cons] at hl
  split at h1
  ·rename_i f hfi;simp only [Bool.and_eq_true, beq_iff_eq] at h1;obtain ⟨⟨h3, h4⟩, h5⟩ := h1;have h6 := hf i f hfi;have hi : i < xs.length := by rw [hx]; exact (Array.getElem?_eq_some_iff.1 hfi).1
   rw [h3, h4, List.getElem?_eq_getElem hi] at h6;obtain ⟨v, hv, hok⟩ := one_open h5 h6;rw [List.drop_eq_getElem_cons (by omega), List.take_succ_cons, List.take_zero] at hv;rw [List.drop_eq_getElem_cons (by omega)];have : cs[i] = v := by simpa using hv
   rw [this];exact ⟨hok, flds_open hx hf ks (i + 1) h2 (by omega)⟩
  ·cases h1
theorem flat_open {t : TypeId} {ks : List FK} {fuel : Nat} {cs : List Value} {x : DataW H × List MemPlace} (hb : flatB P t ks = true) (h : DataW.trod enc P w base sp held fuel t cs = some x) : okRow ks cs := by
 simp only [flatB, Bool.and_eq_true, beq_iff_eq] at hb;obtain ⟨hc, hb⟩ := hb
 split at hb
 ·rename_i fs hu;obtain ⟨xs, m, _, _, hl, hxl, hf⟩ := DataW.trod_struct hu h;have := flds_open hxl hf ks 0 hb (by omega);rwa [List.drop_zero] at this
 ·split at hb
  ·rename_i k;obtain ⟨v, rfl, hok⟩ := one_open hb h;exact ⟨hok, trivial⟩
  ·cases hb
/-- A slice of rows that came in. -/
structure RwIn (w : World) (v : Value) (q : Option Loc) (ks : List FK) (rows : List (List Value)) : Prop where
 len : rows.length ≤ maxLen
 ok : ∀ r ∈ rows, okRow ks r
 val : ∃ a c, v = .slice a rows.length c ∧ rows.length ≤ c ∧ (0 < rows.length → ∃ L, q = some L ∧ a = some ⟨L.blk, L.off, none⟩)
 mem : (rows.length = 0 ∧ q = none) ∨ ∃ L, q = some L ∧ L.sz = ks.length ∧ L.blk < w.heap.size ∧ ∀ (i : Nat) (r : List Value), rows[i]? = some r → ∀ (j : Nat) (u : Value), r[j]? = some u → w.cell? ⟨L.blk, L.off + i * ks.length + j, none⟩ = some u
theorem rows_open {t e : TypeId} {ks : List FK} {v : Value} {d : DataW H} {p : List MemPlace} (ht : P.underlying t = some (.slice e)) (hb : flatB P e ks = true) (hk0 : 0 < ks.length) {b0 : Nat}
  (hval : Value.okWide P w .any b0 t v) (h : DataW.Trod enc P w base sp held t v d p) : ∃ q rows, RwIn w v q ks rows := by
 obtain ⟨n, hn⟩ := h;obtain ⟨a0, l0, c0, rfl⟩ := okWide_slice ht hval;have hce : P.cellsOf e = ks.length := by simp only [flatB, Bool.and_eq_true, beq_iff_eq] at hb; exact hb.1
 have hcs : (Value.slice a0 l0 c0).cells.toList = [Value.slice a0 l0 c0] := rfl;rw [hcs] at hn;rcases Deep.open_slice ht hn with ⟨hv, _⟩ | ⟨a, len, cap, m, n', D, Pl, hv, hbb, hlc, hcm, hmm, _, hel⟩
 ·cases hv
  exact ⟨none, [], ⟨by simp, by simp, ⟨none, 0, rfl, by simp, by simp⟩, .inl ⟨rfl, rfl⟩⟩⟩
 ·cases hv
  have hml : l0 ≤ m := by rw [hmm]; split <;> omega
  obtain ⟨R, hR⟩ := Deep.choose_lt (α := List Value) (p := fun i cs => w.cells? base (a.add (i * P.cellsOf e)) (P.cellsOf e) = some cs ∧ DataW.trod enc P w base sp held n' e cs = some (D i, Pl i)) hel;have hrl : ((List.range l0).map R).length = l0 := by simp
  have hget : ∀ i r, ((List.range l0).map R)[i]? = some r → i < l0 ∧ r = R i := fun i r h => by
   simp only [List.getElem?_map, Option.map_eq_some_iff] at h;obtain ⟨k, h1, h2⟩ := h
   have hi : i < l0 := by
    rcases Nat.lt_or_ge i l0 with h | h
    ·exact h
    ·rw [List.getElem?_eq_none (by simpa using h)] at h1; cases h1
   rw [List.getElem?_range hi] at h1
   cases h1
   exact ⟨hi, h2.symm⟩
  have hok : ∀ i, i < m → okRow ks (R i) := fun i hi => flat_open hb (hR i hi).2
  have hrow : ∀ r ∈ (List.range l0).map R, okRow ks r := fun r hr => by
   obtain ⟨i, hi, rfl⟩ := List.mem_map.1 hr;exact hok i (by have := List.mem_range.1 hi; omega)
  by_cases h0 : l0 = 0
  ·subst h0;exact ⟨none, [], ⟨by simp, by simp, ⟨some a, c0, rfl, by simp, by simp⟩, .inl ⟨rfl, rfl⟩⟩⟩
  ·have hcell : ∀ i, i < l0 → ∀ (j : Nat) (u : Value), (R i)[j]? = some u → w.cell? ((a.add (i * ks.length)).add j) = some u := fun i hi j u hj => by
    obtain ⟨h1, h2⟩ := hR i (by omega);obtain ⟨_, hlen, hc⟩ := World.cells?_some h1;have hjl : j < P.cellsOf e := by rw [← hlen]; exact (List.getElem?_eq_some_iff.1 hj).1
    rw [← hce, hc j hjl];exact hj
   have hr0 : ∃ u, (R 0)[0]? = some u := by
    have := okRow_len (hok 0 (by omega));exact ⟨_, List.getElem?_eq_getElem (by omega)⟩
   obtain ⟨u0, hu0⟩ := hr0;have hc0 := hcell 0 (by omega) 0 u0 hu0;have hsp : a.spot = none := World.cell?_spot (by unfold Addr.add at hc0; simpa using hc0);obtain ⟨b, o, s0⟩ := a;simp only at hsp;subst hsp
   have hblk : b < w.heap.size := by
    rw [z6x, z6x] at hc0;unfold World.cell? at hc0;rcases Nat.lt_or_ge b w.heap.size with h | h
    ·exact h
    ·simp [Array.getElem?_eq_none h] at hc0
   refine ⟨some ⟨b, o, ks.length, 0⟩, (List.range l0).map R, ⟨by omega, hrow, ⟨some ⟨b, o, none⟩, c0, by rw [hrl], by omega, fun _ => ⟨_, rfl, rfl⟩⟩, .inr ⟨_, rfl, rfl, hblk, fun i r hr j u hj => ?_⟩⟩⟩;obtain ⟨hi, rfl⟩ := hget i r hr;have := hcell i hi j u hj;rw [z6x, z6x] at this;exact this
end
/-- The rows as the walk's names have them. -/
theorem rows_in {β : Env} {w : World} {v : Value} {q : Option Loc} {ks : List FK} {rows : List (List Value)} (h : RwIn w v q ks rows) {id : Nat} (hq : β id 0 = q) (e : TypeId) (f : Nat → List SV) (hf : ∀ (i : Nat) (r : List Value), rows[i]? = some r → f i = r.map svOf) :
  den β (.slc false id 0 0 rows.length) v ∧ (Obj.row ⟨false, false, e, ks.length, rows.length, f⟩).holds β w q := by
 obtain ⟨_, hok, ⟨a, c, rfl, hc, hp⟩, hm⟩ := h;refine ⟨?_, ?_⟩
 ·simp only [den, slcDen, Bool.false_eq_true, if_false];refine ⟨a, c, rfl, hc, fun h => ?_⟩;obtain ⟨L, h1, h2⟩ := hp h;exact ⟨L, hq.trans h1, by rw [h2]; simp⟩
 ·rcases hm with hm | ⟨L, h1, h2, h3, h4⟩
  ·exact .inl hm
  ·refine .inr ⟨L, h1, h2, h3, fun i hi => ?_, fun h => by cases h⟩;have hi' : i < rows.length := hi;have hr := List.getElem?_eq_getElem hi';have hfi := hf i _ hr;have hoki := hok _ (List.getElem_mem hi')
   show (f i).length = ks.length ∧ ∀ (j : Nat) (s : SV), (f i)[j]? = some s → _
   rw [hfi];refine ⟨by rw [List.length_map]; exact okRow_len hoki, fun j s hs => ?_⟩;rw [List.getElem?_map, Option.map_eq_some_iff] at hs;obtain ⟨u, hu, rfl⟩ := hs;obtain ⟨k, hk⟩ := okRow_get hoki j u hu;obtain ⟨g1, g2, _⟩ := FK.den (β := β) hk;refine ⟨g2, u, ?_, g1⟩;rw [h2];exact h4 i _ hr j u hu
def strData {H : Type} (ss : List ByteArray) : DataW H := .agg (ss.map fun s => .lit (.string s.data.toList))
theorem cells_of_strs {H : Type} {enc : TypeId × Value → H} {P : Program} {w : World} {base : Nat} {sp : Nat → Bool} {held : Bool} {fuel : Nat} {t e : TypeId} {n : Nat} {cs : List Value} {ss : List ByteArray} {p : List MemPlace}
  (ht : P.underlying t = some (.array n e)) (he : P.underlying e = some .string) (hce : P.cellsOf e = 1) (hct : P.cellsOf t = n)
  (h : DataW.trod enc P w base sp held fuel t cs = some (strData ss, p)) : cs = ss.map Value.string := by
 cases fuel with
 |zero => simp [DataW.trod] at h
 |succ fuel =>
  simp only [DataW.trod, ht, hce, hct, Nat.mul_one] at h
  split at h
  ·rename_i hl;obtain ⟨xs, hm, hx⟩ := Option.map_eq_some_iff.1 h
   have hxs : xs.map (·.1) = ss.map fun s => (DataW.lit (.string s.data.toList) : DataW H) := by
    have := congrArg Prod.fst hx;simpa [strData] using this
   have hxl : xs.length = n := by simpa using Lib.mapM_length hm
   have hzl : ss.length = n := by
    have := congrArg List.length hxs;simp at this;omega
   apply List.ext_getElem?;intro i
   by_cases hi : i < n
   ·obtain ⟨b, hb, hf⟩ := Lib.mapM_at hm i i (by simp [hi]);obtain ⟨z, hc, rfl, _⟩ := DataW.trod_string he hf
    have h1 : cs[i]? = some (.string z) := by
     have := congrArg (·[0]?) hc;simpa [List.getElem?_take, List.getElem?_drop] using this
    have h2 : (xs.map (·.1))[i]? = some (DataW.lit (.string z.data.toList) : DataW H) := by simp [hb]
    rw [hxs] at h2;simp only [List.getElem?_map, Option.map_eq_some_iff, DataW.lit.injEq, Lit.string.injEq] at h2;obtain ⟨z', hz', he'⟩ := h2
    have : z' = z := by
     cases z' with
     |mk a => cases z with
      |mk b => congr 1; exact Array.toList_inj.1 he'
    subst this;simp [h1, hz']
   ·rw [List.getElem?_eq_none (by omega), List.getElem?_eq_none (by simp; omega)]
  ·cases h
/-- The one table is the one that the row lists. -/
theorem tabs_of_laid {P : Program} {W : World} {name : String} {g : Nat} {t e : TypeId} (hg : P.globalNamed name = some g) (hty : (P.globals[g]?).map (·.type) = some t) (ht : P.underlying t = some (.array 6 e)) (he : P.underlying e = some .string) (hce : P.cellsOf e = 1) (hct : P.cellsOf t = 6)
  (hone : (List.range P.globals.size).all (fun i => !tabG P i || i == g) = true) (h : laidMet P [(name, strData letters)] W) : ∀ i, tabG P i = true → i < W.heap.size ∧ TabAt W i := by
 obtain ⟨ps, ⟨g', t', cs, fuel, p, q, hg', ht', hvar, hd, _, _⟩, _⟩ := h;obtain rfl := Option.some.inj (hg.symm.trans hg');obtain rfl := Option.some.inj (hty.symm.trans ht');have hcs := cells_of_strs ht he hce hct hd;intro i hi
 have hlt : i < P.globals.size := by
  rcases Nat.lt_or_ge i P.globals.size with h | h
  ·exact h
  ·unfold tabG at hi; rw [Array.getElem?_eq_none h] at hi; cases hi
 have h1 := List.all_eq_true.1 hone i (List.mem_range.2 hlt);rw [hi] at h1;have : i = g := by simpa using h1
 subst this
 have hat : TabAt W i := fun j s hj => by
  have := World.var?_cell hg hvar j;rw [this, ← Array.getElem?_toList, hcs, List.getElem?_map, hj]
  rfl
 refine ⟨?_, hat⟩;have h0 := hat 0 _ (show letters[0]? = some _ from rfl);unfold World.cell? at h0;rcases Nat.lt_or_ge i W.heap.size with h | h
 ·exact h
 ·simp [Array.getElem?_eq_none h] at h0
end Go.Sk

set_option linter.unusedSimpArgs false
set_option linter.unusedVariables false
set_option maxRecDepth 4000
namespace Go.Sk
open Go.RowKit Go.WideShapes Go.ChangeShapes
section
variable {H : Type} {enc : TypeId × Value → H} {P : Program} {w : World} {base : Nat} {sp : Nat → Bool} {held : Bool}
end
end Go.Sk

set_option linter.unusedSimpArgs false
set_option linter.unusedVariables false
set_option maxRecDepth 4000
namespace Go.Proofs
open Go.Sk
theorem startR_len (cs : List Cl) (ps : List Pr) (p k c : Int) : (z2d cs ps p k c).1.length ≤ cs.length ∧ (z2d cs ps p k c).2.length ≤ ps.length := by
 unfold z2d
 split
 ·exact ⟨Nat.le_refl _, Nat.le_of_eq (z64 ..)⟩
 ·simp
theorem stepR_len (cs : List Cl) (ps : List Pr) (p : Int) : (z3u cs ps p).1.length ≤ cs.length ∧ (z3u cs ps p).2.length ≤ ps.length := by
 unfold z3u
 split
 ·simp
 ·split
  ·simp only [stepC_length, List.length_set]; omega
  ·simp
theorem membersK_most (cs : List Cl) (ps : List Pr) : (z1b cs ps).length ≤ cs.length + 1 := by
 unfold z1b
 split
 ·rw [srtR_length];rcases memsC_len cs cs.length with h | h
  ·omega
  ·rw [h]; simp
 ·simp
theorem rowsOf_six (a b c d e f : Int) : rowsOf 1 6 [SV.int .i64 a, SV.int .i64 b, SV.int .i64 c, SV.int .i64 d, SV.int .i64 e, SV.int .i64 f] = ints [a, b, c, d, e, f] := rfl
theorem z40 {s e e1 : SV} {H g g1 : AH} (h1 : s = e) (h2 : H = g) (a1 : e = e1 := by simp only [after, z5o, id, z2q, reduceCtorEq, Nat.reduceEqDiff, Nat.one_ne_zero, Nat.zero_ne_one, z3n, z23, z1p, one, Obj.own, Obj.ren, Row.ren, SV.ren, SV.renL, List.map_cons, List.map_nil, List.nil_append, List.cons_append, ↓reduceIte, Nat.reduceLT, Nat.reduceAdd, Nat.reduceSub, Nat.reduceEqDiff, Nat.add_zero, Bool.false_eq_true, Tryd.tyInt, Tryd.szInt, Tryd.zInt, Tryd.tyInts, Tryd.szInts, Tryd.tyErr, Tryd.szErr, Tryd.zErr, Tryd.tyBool, Tryd.szBool, Tryd.zBool, Tryd.tyStr, Tryd.szStr, Tryd.tyCl, Tryd.szCl, Tryd.zCl, Tryd.tyPr, Tryd.szPr, Tryd.zPr, Tryd.tyCls, Tryd.szCls, Tryd.tyPrs, Tryd.szPrs, Tryd.tyLs, Tryd.szLs, Tryd.zLs, z14, zj, z16, zl, zp, zo, zt, zy, zq, z4l, z4m, z4n, z4o, z4p, z4q, z4r, z4s, z4t, z4u, z4v, z4w, z1z, z20, Cl.sv, Pr.sv, zk, zd, z1c, z1r, z1y, rowsOf_six, Tryd.tyTape, Tryd.szTape, Tryd.zTape, zn, lsS, lsH, z1h, z26, z2t, z1h, lsS, lsH]; exact rfl) (a2 : g = g1 := by simp only [after, z5o, id, z2q, reduceCtorEq, Nat.reduceEqDiff, Nat.one_ne_zero, Nat.zero_ne_one, z3n, z23, z1p, one, Obj.own, Obj.ren, Row.ren, SV.ren, SV.renL, List.map_cons, List.map_nil, List.nil_append, List.cons_append, ↓reduceIte, Nat.reduceLT, Nat.reduceAdd, Nat.reduceSub, Nat.reduceEqDiff, Nat.add_zero, Bool.false_eq_true, Tryd.tyInt, Tryd.szInt, Tryd.zInt, Tryd.tyInts, Tryd.szInts, Tryd.tyErr, Tryd.szErr, Tryd.zErr, Tryd.tyBool, Tryd.szBool, Tryd.zBool, Tryd.tyStr, Tryd.szStr, Tryd.tyCl, Tryd.szCl, Tryd.zCl, Tryd.tyPr, Tryd.szPr, Tryd.zPr, Tryd.tyCls, Tryd.szCls, Tryd.tyPrs, Tryd.szPrs, Tryd.tyLs, Tryd.szLs, Tryd.zLs, z14, zj, z16, zl, zp, zo, zt, zy, zq, z4l, z4m, z4n, z4o, z4p, z4q, z4r, z4s, z4t, z4u, z4v, z4w, z1z, z20, Cl.sv, Pr.sv, zk, zd, z1c, z1r, z1y, rowsOf_six, Tryd.tyTape, Tryd.szTape, Tryd.zTape, zn, lsS, lsH, z1h, z26, z2t, z1h, lsS, lsH]; exact rfl) : s = e1 ∧ H = g1 := ⟨h1.trans a1, h2.trans a2⟩
theorem z1s {a b c : Prop} (r : a → c) (h : b) (e : a = b := by simp only [stp, isQ, z5c, Sk.get, Sk.put, z3e, z1v, ↓reduceIte, reduceCtorEq, Nat.reduceEqDiff, true_and, and_true, true_implies, implies_true, forall_const, imp_self, Bool.false_eq_true, false_implies, false_and, and_false, Bool.false_and, Bool.and_false, qop, grdK, List.getElem?_toArray, List.getElem?_cons_zero, List.getElem?_cons_succ, beq_true, beq_false, beq_self_eq_true, Bool.and_true, Bool.true_and, Bool.not_true, Bool.not_false, Bool.not_not, Bool.and_eq_true, Bool.not_eq_true', Bool.not_eq_false', z2j, Bool.cond_true_left, Bool.cond_false_left, Bool.cond_true_right, Bool.cond_false_right, cond_true, cond_false, and_imp, z5m, Sk.find, one, Kd.agg, List.contains_nil, List.contains_cons, Nat.reduceBEq, Bool.or_false, Bool.true_or, Bool.or_true, Bool.false_or, ite_self, Nat.lt_one_iff, Nat.zero_add, Nat.add_zero, Nat.reduceAdd, Nat.reduceMul, Nat.reduceSub, Nat.reduceLT, Nat.reduceLeDiff, Nat.le_refl, Nat.zero_le, ne_eq, Nat.one_ne_zero, not_false_eq_true, not_true_eq_false, Int.toNat_natCast, Int.reduceToNat, List.length_cons, List.length_nil, and_self, Kd.slice.injEq, exists_eq', Option.map_some, Option.some.injEq, List.drop_zero, List.drop_succ_cons, List.take_succ_cons, List.take_zero, List.take_nil, List.drop_nil, List.nil_append, List.cons_append, List.append_nil, List.append_eq, List.all_cons, List.all_nil, spl, z3k, SV.cells, SV.scalar, binK, z70, z6z, intK, z3v, strK, z4a, z6y, z58, unK, z6r, z4d, z4e, z6l, z4f, z4g, optK, z4i, bndK, Option.isSome_some, Option.isSome_none, Nat.sub_zero, or_true, true_or, z49, z4c, z6b, z4z, lenK, z2k.len, z62, mmK, z32, eop, copyK, srcK, z2u, setO, z54, z3c, z2q, z43, boxK, z3d, z3z, z4j, updF, mkK, z6j, z2k.ofKd, z6k, z2k.add, z2k.okKd, z4h, z2k.has, Tryd.tyInt, Tryd.szInt, Tryd.zInt, Tryd.tyInts, Tryd.szInts, Tryd.tyErr, Tryd.szErr, Tryd.zErr, Tryd.tyBool, Tryd.szBool, Tryd.zBool, Tryd.tyStr, Tryd.szStr, Tryd.tyCl, Tryd.szCl, Tryd.zCl, Tryd.tyPr, Tryd.szPr, Tryd.zPr, Tryd.tyCls, Tryd.szCls, Tryd.tyPrs, Tryd.szPrs, Tryd.tyLs, Tryd.szLs, Tryd.zLs, z14, zj, z16, zl, zp, zo, zt, zy, zq, z4l, z4m, z4n, z4o, z4p, z4q, z4r, z4s, z4t, z4u, z4v, z4w, z1z, z20, Cl.sv, Pr.sv, zk, zd, z1c, z1r, z1y, rowsOf_six, ints, Tryd.tyTape, Tryd.szTape, Tryd.zTape, zn, lsS, lsH]; exact rfl) : c := r (Eq.mpr e h)
set_option maxHeartbeats 8000000 in
theorem follows_spec (ls : List Int) (p kind cell : Int) (hx : ls.length ≤ 9223372036854775807) :
  z19 Tryd.prog 8 [.slc false 0 0 0 ls.length, .int .i64 p, .int .i64 kind, .int .i64 cell] ⟨1, [(0, zk ls)]⟩ (fun s _ => s = .bool true) := by
 refine z19.ofC false 145 [.tmp 8] Tryd.func8 rfl rfl Tryd.ntmps8 Tryd.results8 rfl ?_;intro w0 own0 β0 Q hQ hQn;simp only [z2e];refine Cs.seq ?_;refine Cs.reg [0, 1, 2, 3] rfl ?_;intro K hK;(refine z1s z5 ?_; repeat (with_reducible apply ai;exact z4));refine z7 (z6 (hK _ _ ?_)); clear hK K;refine Cs.seq ?_;refine Cs.reg [1, 2, 3, 9] rfl ?_;intro K hK;(refine z1s z5 ?_; repeat (with_reducible apply ai;exact z4));refine z1s z5 ?_;repeat (with_reducible apply ai;exact z4)
 refine z1x (new_spec ls hx) (id) ?_;rintro s0 H0 ⟨m, hm, rfl, rfl⟩ s1 H1 hs1 hH1;obtain ⟨hs2, hH2⟩ := z40 hs1 hH1;clear hs1 hH1;subst hs2 hH2;repeat (with_reducible apply ai;exact z4)
 (refine z1s z5 ?_; repeat (with_reducible apply ai;exact z4));refine z7 (z6 (hK _ _ ?_)); clear hK K;refine Cs.seq ?_;refine Cs.reg [1, 2, 3, 9, 10, 11] rfl ?_;intro K hK;(refine z1s z5 ?_; repeat (with_reducible apply ai;exact z4));refine z1s z5 ?_;repeat (with_reducible apply ai;exact z4)
 refine z1x (made_spec ls m 0 hx hm (Nat.zero_le _)) (fun k => if k = 0 then 1 else 0) ?_;rintro s0 H0 ⟨keys, inn, np, at1, ⟨ha1, hmk⟩, rfl, rfl⟩ s1 H1 hs1 hH1;obtain ⟨hs2, hH2⟩ := z40 hs1 hH1;clear hs1 hH1;subst hs2 hH2;repeat (with_reducible apply ai;exact z4)
 have hk6 := hmk.len;have hp4 := hmk.four;iterate 6 (refine z1s z5 ?_; repeat (with_reducible apply ai;exact z4))
 refine z7 (z6 (hK _ _ ?_)); clear hK K;refine Cs.seq ?_;refine Cs.seq ?_;refine Cs.reg [1, 2, 3, 9, 10, 33] rfl ?_;intro K hK;iterate 2 (refine z1s z5 ?_; repeat (with_reducible apply ai;exact z4))
 refine z7 (z6 (hK _ _ ?_)); clear hK K;refine Cs.cond _ rfl ?_ ?_
 ·intro h33
  exfalso; cases h33
 ·intro h33
  
  refine Cs.skip ?_;refine Cs.seq ?_;refine Cs.reg [1, 2, 3, 9, 10, 12] rfl ?_;intro K hK;(refine z1s z5 ?_; repeat (with_reducible apply ai;exact z4));refine z1s z5 ?_;repeat (with_reducible apply ai;exact z4)
  have hcl := z15 keys inn keys.length;have hpl : (List.replicate np noPr).length = np := List.length_replicate
  generalize newK keys inn keys.length = cs0 at *
  generalize List.replicate np noPr = ps0 at *
  rw [← hcl, ← hpl];rw [← hpl] at hp4;refine z1x (copy_spec cs0 ps0 cs0.length ps0.length rfl rfl (by omega) (by omega)) (fun k => k + 2) ?_;rintro s0 H0 ⟨rfl, rfl⟩ s1 H1 hs1 hH1;obtain ⟨hs2, hH2⟩ := z40 hs1 hH1;clear hs1 hH1;subst hs2 hH2;repeat (with_reducible apply ai;exact z4)
  iterate 2 (refine z1s z5 ?_; repeat (with_reducible apply ai;exact z4))
  refine z7 (z6 (hK _ _ ?_)); clear hK K;refine Cs.seq ?_;refine Cs.seq ?_;refine Cs.reg [1, 2, 3, 9, 10, 12, 13] rfl ?_;intro K hK;(refine z1s z5 ?_; repeat (with_reducible apply ai;exact z4));refine z7 (z6 (hK _ _ ?_)); clear hK K;refine Cs.block ?_;intro Q0 hN0 hX0 hR0 hE0;refine Cs.loop (σ := (List Cl × List Pr) × Nat × Nat) (fun σ => (σ.1.1.length ≤ 8 ∧ σ.1.2.length ≤ 4) ∧ σ.2.1 ≤ m ∧ σ.2.2 ≤ 90) (fun σ => 90 - σ.2.2) (fun σ => [(1, .int .i64 p), (2, .int .i64 kind), (3, .int .i64 cell), (9, .ptr 1 0 0 0), (10, .ptr 4 0 0 0), (12, .ptr 7 0 0 0), (13, .int .i64 σ.2.2)]) (fun σ => ⟨8, [(1, zn 0 m σ.2.1), (7, zo 5 σ.1.1.length 6 σ.1.2.length), (6, zl σ.1.2), (5, zj σ.1.1), (4, zo 2 σ.1.1.length 3 σ.1.2.length), (3, zl σ.1.2), (2, zj σ.1.1), (0, zk ls)]⟩) ((cs0, ps0), at1, 0) ⟨⟨by dsimp only; omega, by dsimp only; omega⟩, ha1, Nat.zero_le _⟩ (ρ := id) (z5q id) ?_;rintro ⟨⟨cs, ps⟩, at2, i⟩ hi QL1 hL1 hRL1 hEL1;refine Cs.seq ?_;refine Cs.seq ?_;refine Cs.reg [1, 2, 3, 9, 10, 12, 13, 41] rfl ?_;intro K hK
  have hk7 : ((cs.length ≤ 8 ∧ ps.length ≤ 4) ∧ at2 ≤ m ∧ i ≤ 90) → ∀ B : Bool, (B = true → i < 90) → K [(1, .int .i64 p), (2, .int .i64 kind), (3, .int .i64 cell), (9, .ptr 1 0 0 0), (10, .ptr 4 0 0 0), (12, .ptr 7 0 0 0), (13, .int .i64 i), (41, .bool B)] ⟨8, [(1, zn 0 m at2), (7, zo 5 cs.length 6 ps.length), (6, zl ps), (5, zj cs), (4, zo 2 cs.length 3 ps.length), (3, zl ps), (2, zj cs), (0, zk ls)]⟩ := by
   intro hi B hB;obtain ⟨⟨hi1, hi2⟩, hi3, hi4⟩ := hi;refine hK _ _ ?_;clear hK K;refine Cs.cond _ rfl ?_ ?_
   ·intro h41;have hi90 := hB h41;refine Cs.skip ?_;refine Cs.seq ?_;refine Cs.block ?_;intro Q1 hN1 hX1 hR1 hE1;refine Cs.seq ?_;refine Cs.reg [1, 2, 3, 9, 10, 12, 13, 14] rfl ?_;intro K hK;iterate 5 (refine z1s z5 ?_; repeat (with_reducible apply ai;exact z4))
    refine z1s z5 ?_;repeat (with_reducible apply ai;exact z4)
    refine z1x (z25 ls m at2 (ps.length + 1) hx hm hi3 (by omega)) (fun k => if k = 0 then 1 else 0) ?_;rintro s0 H0 ⟨v, at3, g1, g2, g3, g4, rfl, rfl⟩ s1 H1 hs1 hH1;obtain ⟨hs2, hH2⟩ := z40 hs1 hH1;clear hs1 hH1;subst hs2 hH2;repeat (with_reducible apply ai;exact z4)
    have g5 := g3 (by omega);(refine z1s z5 ?_; repeat (with_reducible apply ai;exact z4));refine z1s z5 ?_;repeat (with_reducible apply ai;exact z4)
    refine z1x (z25 ls m at3 12 hx hm g1 (by omega)) (fun k => if k = 0 then 1 else 0) ?_;rintro s0 H0 ⟨u, at4, f1, f2, f3, f4, rfl, rfl⟩ s1 H1 hs1 hH1;obtain ⟨hs2, hH2⟩ := z40 hs1 hH1;clear hs1 hH1;subst hs2 hH2;repeat (with_reducible apply ai;exact z4)
    have f5 := f3 (by omega);iterate 3 (refine z1s z5 ?_; repeat (with_reducible apply ai;exact z4))
    refine z7 ?_;refine z6 ?_;obtain ⟨q, hq⟩ : ∃ q : Int, v - u / 11 = q := ⟨_, rfl⟩;rw [hq];refine hK _ _ ?_;clear hK K;refine Cs.seq ?_;refine Cs.seq ?_;refine Cs.reg [1, 2, 3, 9, 10, 12, 13, 14, 55] rfl ?_;intro K hK;(refine z1s z5 ?_; repeat (with_reducible apply ai;exact z4));refine z1s z5 ?_;repeat (with_reducible apply ai;exact z4)
    refine z1x (bool_spec ls m at4 5 hx hm f1 (by omega) (by omega)) (fun k => if k = 0 then 1 else 0) ?_;rintro s0 H0 ⟨b4, at5, e1, rfl, rfl⟩ s1 H1 hs1 hH1;obtain ⟨hs2, hH2⟩ := z40 hs1 hH1;clear hs1 hH1;subst hs2 hH2;repeat (with_reducible apply ai;exact z4)
    refine z7 (z6 (hK _ _ ?_)); clear hK K;refine Cs.cond _ rfl ?_ ?_
    ·intro h55
     
     refine Cs.seq ?_;refine Cs.regDraw [1, 2, 3, 9, 10, 12, 13, 14, 15, 16] [0, 3, 4, 5, 6, 1, 2, 7, 8, 9, 10] [[], [], [0, 1], [], [], [4], [4, 5], [0, 1, 2, 3, 4, 5, 6], [0, 1, 2, 3, 4, 5, 6, 7], [0, 1, 2, 3, 4, 5, 6, 7], [0, 1, 2, 3, 4, 5, 6, 7, 8, 9]] [[], [1], [1], [], [], [], [], [1], [], [], []] [[1], [1], [1], [1], [1], [1], [1], [1], [1], [1], [1]] Tryd.mo rfl rfl rfl (by kernel_rfl) (by kernel_rfl) (by kernel_rfl) rfl (by kernel_rfl) ?_;intro K hK;iterate 5 (refine z1s (za _ [] [1] rfl rfl rfl) ?_; repeat (with_reducible apply ai;exact z4))
     (refine z1s (za _ [1] [1] rfl rfl rfl) ?_; repeat (with_reducible apply ai;exact z4));refine z1s (za _ [1] [1] rfl rfl rfl) ?_;repeat (with_reducible apply ai;exact z4)
     refine z1x (pick_spec ls [1, 2, 3, 1, 2, 0] m at5 hx hm e1 (by simp) (by simp)) (fun k => if k = 0 then 1 else if k = 1 then 0 else 8) ?_;rintro s0 H0 ⟨i6, at6, d1, d2, rfl, rfl⟩ s1 H1 hs1 hH1;obtain ⟨hs2, hH2⟩ := z40 hs1 hH1;clear hs1 hH1;subst hs2 hH2;repeat (with_reducible apply ai;exact z4)
     refine z1s (za _ [1] [1] rfl rfl rfl) ?_;repeat (with_reducible apply ai;exact z4)
     refine z1x (z25 ls m at6 cs.length hx hm d1 (by omega)) (fun k => if k = 0 then 1 else 0) ?_;rintro s0 H0 ⟨w, at7, c1, c2, c3, c4, rfl, rfl⟩ s1 H1 hs1 hH1;obtain ⟨hs2, hH2⟩ := z40 hs1 hH1;clear hs1 hH1;subst hs2 hH2;repeat (with_reducible apply ai;exact z4)
     have hw8 : w ≤ 8 := by
      rcases Int.lt_or_le (cs.length : Int) 1 with h | h
      ·have := c4 h; omega
      ·have := c3 h; omega
     iterate 3 (refine z1s (za _ [] [1] rfl rfl rfl) ?_; repeat (with_reducible apply ai;exact z4))
     refine z1d (z6 (hK _ _ ?_)); clear hK K;refine Cs.seq ?_;refine Cs.seq ?_;refine Cs.reg [1, 2, 3, 9, 10, 12, 13, 14, 15, 16, 66] rfl ?_;intro K hK;(refine z1s z5 ?_; repeat (with_reducible apply ai;exact z4));refine z1s z5 ?_;repeat (with_reducible apply ai;exact z4)
     refine z1x (bool_spec ls m at7 20 hx hm c1 (by omega) (by omega)) (fun k => if k = 0 then 1 else 0) ?_;rintro s0 H0 ⟨b20, at8, b1, rfl, rfl⟩ s1 H1 hs1 hH1;obtain ⟨hs2, hH2⟩ := z40 hs1 hH1;clear hs1 hH1;subst hs2 hH2;repeat (with_reducible apply ai;exact z4)
     refine z7 (z6 (hK _ _ ?_)); clear hK K;refine Cs.meet (σ := Int × Int × Int) (fun _ => True) (fun σ => [(1, .int .i64 p), (2, .int .i64 kind), (3, .int .i64 cell), (9, .ptr 1 0 0 0), (10, .ptr 4 0 0 0), (12, .ptr 7 0 0 0), (13, .int .i64 i), (14, .int .i64 σ.1), (15, .int .i64 σ.2.1), (16, .int .i64 σ.2.2)]) (fun _ => ⟨8, [(1, zn 0 m at8), (7, zo 5 cs.length 6 ps.length), (6, zl ps), (5, zj cs), (4, zo 2 cs.length 3 ps.length), (3, zl ps), (2, zj cs), (0, zk ls)]⟩) _ rfl ?_ ?_ ?_
     ·intro h66 QM hM66 hR66 hE66
      try replace h66 := z9 h66
      refine Cs.reg [1, 2, 3, 9, 10, 12, 13, 14, 15, 16] rfl ?_;intro K hK;iterate 6 (refine z1s z5 ?_; repeat (with_reducible apply ai;exact z4))
      refine z7 (z6 (hK _ _ ?_)); clear hK K;refine Cs.nil ?_;refine hM66 _ _ ?_;exact ⟨(p, kind, cell), trivial, id, (z5q id)⟩
     ·intro h66 QM hM66 hR66 hE66
      try replace h66 := z9 h66
      refine Cs.skip ?_;refine Cs.nil ?_;refine hM66 _ _ ?_;exact ⟨(q, nth [1, 2, 3, 1, 2, 0] i6, 2 + w), trivial, id, (z5q id)⟩
     rintro ⟨q, kk, cc⟩ _;refine Cs.seq ?_;refine Cs.reg [1, 2, 3, 9, 10, 12, 13, 14, 15, 16, 17, 18] rfl ?_;intro K hK;iterate 4 (refine z1s z5 ?_; repeat (with_reducible apply ai;exact z4))
     refine z1s z5 ?_;repeat (with_reducible apply ai;exact z4)
     refine z1x (z37 cs ps cs.length ps.length rfl rfl (by omega) (by omega) q kk cc) (fun k => k + 2) ?_;rintro s0 H0 ⟨rfl, rfl⟩ s1 H1 hs1 hH1;obtain ⟨hs2, hH2⟩ := z40 hs1 hH1;clear hs1 hH1;subst hs2 hH2;repeat (with_reducible apply ai;exact z4)
     iterate 6 (refine z1s z5 ?_; repeat (with_reducible apply ai;exact z4))
     refine z7 (z6 (hK _ _ ?_)); clear hK K;refine Cs.seq ?_;refine Cs.reg [1, 2, 3, 9, 10, 12, 13, 17, 18, 19, 20] rfl ?_;intro K hK;iterate 4 (refine z1s z5 ?_; repeat (with_reducible apply ai;exact z4))
     refine z1s z5 ?_;repeat (with_reducible apply ai;exact z4)
     refine z1x (refStart_spec cs ps cs.length ps.length rfl rfl (by omega) (by omega) q kk cc) (fun k => k + 5) ?_;rintro s0 H0 ⟨rfl, rfl⟩ s1 H1 hs1 hH1;obtain ⟨hs2, hH2⟩ := z40 hs1 hH1;clear hs1 hH1;subst hs2 hH2;repeat (with_reducible apply ai;exact z4)
     iterate 6 (refine z1s z5 ?_; repeat (with_reducible apply ai;exact z4))
     refine z7 ?_;refine z6 ?_;have hsl := startR_len cs ps q kk cc
     generalize z2d cs ps q kk cc = R at *
     generalize z36 cs ps q kk cc = E at *
     obtain ⟨xs, ys⟩ := R;dsimp only at hsl ⊢;refine hK _ _ ?_;clear hK K;refine Cs.seq ?_;refine Cs.seq ?_;refine Cs.reg [1, 2, 3, 9, 10, 12, 13, 17, 18, 19, 94] rfl ?_;intro K hK;iterate 3 (refine z1s z5 ?_; repeat (with_reducible apply ai;exact z4))
     rw [bne_self_eq_false];repeat (with_reducible apply ai;exact z4)
     iterate 3 (refine z1s z5 ?_; repeat (with_reducible apply ai;exact z4))
     refine z5 ?_;refine z2i rfl rfl ?_;refine z2h ?_;refine ⟨fun _ => ?_, fun h => (by cases h)⟩;refine z1s id ?_;repeat (with_reducible apply ai;exact z4)
     refine z1x (same_spec xs ys xs ys xs.length ys.length xs.length ys.length rfl rfl rfl rfl (by omega) (by omega)) (fun k => if k = 0 then 8 else if k = 1 then 9 else if k = 2 then 11 else 12) ?_;rintro s0 H0 ⟨rfl, rfl⟩ s1 H1 hs1 hH1;obtain ⟨hs2, hH2⟩ := z40 hs1 hH1;clear hs1 hH1;subst hs2 hH2;repeat (with_reducible apply ai;exact z4)
     simp only [decide_true];iterate 2 (refine z1s z5 ?_; repeat (with_reducible apply ai;exact z4))
     refine z7 (z6 (hK _ _ ?_)); clear hK K;refine Cs.cond _ rfl ?_ ?_
     ·intro h94
      exfalso; simp at h94
     ·intro h94
      
      refine Cs.skip ?_;refine Cs.seq ?_;refine Cs.seq ?_;refine Cs.reg [1, 2, 3, 9, 10, 12, 13, 17, 19, 96] rfl ?_;intro K hK;iterate 2 (refine z1s z5 ?_; repeat (with_reducible apply ai;exact z4))
      refine z7 (z6 (hK _ _ ?_)); clear hK K;refine Cs.cond _ rfl ?_ ?_
      ·intro h96
       
       refine Cs.regDraw [1, 2, 3, 9, 10, 12, 13] [0, 1, 2, 3] [[], [], [0], [0, 1, 2]] [[], [], [4], [7]] [[], [4], [4], [4, 7]] Tryd.mo rfl rfl rfl (by kernel_rfl) (by kernel_rfl) (by kernel_rfl) rfl (by kernel_rfl) ?_;intro K hK;(refine z1s (za _ [] [] rfl rfl rfl) ?_; repeat (with_reducible apply ai;exact z4));(refine z1s (za _ [] [4] rfl rfl rfl) ?_; repeat (with_reducible apply ai;exact z4));(refine z1s (za _ [4] [4] rfl rfl rfl) ?_; repeat (with_reducible apply ai;exact z4));(refine z1s (za _ [7] [4, 7] rfl rfl rfl) ?_; repeat (with_reducible apply ai;exact z4));refine z1d (z6 (hK _ _ ?_)); clear hK K;refine Cs.exit ?_;refine hX1 _ _ ?_;refine Cs.reg [1, 2, 3, 9, 10, 12, 13] rfl ?_;intro K hK;iterate 3 (refine z1s z5 ?_; repeat (with_reducible apply ai;exact z4))
       refine z7 (z6 (hK _ _ ?_)); clear hK K;refine Cs.nil ?_;refine hL1 _ _ ?_;rw [show (i : Int) + 1 = ((i + 1 : Nat) : Int) from by omega];refine ⟨((xs, ys), at8, i + 1), ⟨⟨⟨by dsimp only; omega, by dsimp only; omega⟩, b1, by dsimp only; omega⟩, by dsimp only; omega⟩, fun k => if k = 2 then 8 else if k = 3 then 9 else if k = 5 then 11 else if k = 6 then 12 else k, (LmDm.g1 (fun k => if k = 2 then 8 else if k = 3 then 9 else if k = 5 then 11 else if k = 6 then 12 else k))⟩
      ·intro h96
       
       refine Cs.skip ?_;refine Cs.exit ?_;refine hX1 _ _ ?_;refine Cs.reg [1, 2, 3, 9, 10, 12, 13] rfl ?_;intro K hK;iterate 3 (refine z1s z5 ?_; repeat (with_reducible apply ai;exact z4))
       refine z7 (z6 (hK _ _ ?_)); clear hK K;refine Cs.nil ?_;refine hL1 _ _ ?_;rw [show (i : Int) + 1 = ((i + 1 : Nat) : Int) from by omega];refine ⟨((cs, ps), at8, i + 1), ⟨⟨⟨hi1, hi2⟩, b1, by dsimp only; omega⟩, by dsimp only; omega⟩, id, (z5q id)⟩
    ·intro h55
     
     refine Cs.skip ?_;refine Cs.seq ?_;refine Cs.reg [1, 2, 3, 9, 10, 12, 13, 14, 21, 22] rfl ?_;intro K hK;iterate 2 (refine z1s z5 ?_; repeat (with_reducible apply ai;exact z4))
     refine z1s z5 ?_;repeat (with_reducible apply ai;exact z4)
     refine z1x (stepL_spec cs ps cs.length ps.length rfl rfl (by omega) (by omega) q) (fun k => k + 2) ?_;rintro s0 H0 ⟨rfl, rfl⟩ s1 H1 hs1 hH1;obtain ⟨hs2, hH2⟩ := z40 hs1 hH1;clear hs1 hH1;subst hs2 hH2;repeat (with_reducible apply ai;exact z4)
     iterate 6 (refine z1s z5 ?_; repeat (with_reducible apply ai;exact z4))
     refine z7 (z6 (hK _ _ ?_)); clear hK K;refine Cs.seq ?_;refine Cs.reg [1, 2, 3, 9, 10, 12, 13, 21, 22, 23, 24] rfl ?_;intro K hK;iterate 2 (refine z1s z5 ?_; repeat (with_reducible apply ai;exact z4))
     refine z1s z5 ?_;repeat (with_reducible apply ai;exact z4)
     refine z1x (refStepL_spec cs ps cs.length ps.length rfl rfl (by omega) (by omega) q) (fun k => k + 5) ?_;rintro s0 H0 ⟨rfl, rfl⟩ s1 H1 hs1 hH1;obtain ⟨hs2, hH2⟩ := z40 hs1 hH1;clear hs1 hH1;subst hs2 hH2;repeat (with_reducible apply ai;exact z4)
     iterate 6 (refine z1s z5 ?_; repeat (with_reducible apply ai;exact z4))
     refine z7 ?_;refine z6 ?_;have hsl := stepR_len cs ps q
     generalize z3u cs ps q = R at *
     generalize z3y cs ps q = E at *
     obtain ⟨xs, ys⟩ := R;dsimp only at hsl ⊢;have hml := membersK_most xs ys;refine hK _ _ ?_;clear hK K;refine Cs.seq ?_;refine Cs.seq ?_;refine Cs.regNil [1, 2, 3, 9, 10, 12, 13, 21, 23, 141] (.op 0 (.op 1 (.op 2 (.op 3 (.op 4 (.op 5 (.op 6 (.op 7 (.op 8 (.op 9 (.op 10 (.op 12 (.op 11 (.op 13 (.op 14 (.op 15 (.op 16 (.op 17 (.op 18 (.op 20 (.op 19 (.op 21 (.op 22 (.op 23 (.op 24 (.op 25 (.op 27 (.op 26 (.op 28 (.op 29 (.op 30 .done))))))))))))))))))))))))))))))) [[], [], [], [], [], [], [], [], [], [], [], [], [], [], [], [], [], [], [], [], [], [], [], [], [], [], [], [], [], [], []] [[], [], [], [], [], [], [], [], [], [], [], [], [], [], [], [], [], [], [], [], [], [], [], [], [], [], [], [], [], [], []] Tryd.mo rfl rfl (by kernel_rfl) (by kernel_rfl) (by kernel_rfl) ?_;intro K hK hG
     have hk22 : K [(1, .int .i64 p), (2, .int .i64 kind), (3, .int .i64 cell), (9, .ptr 1 0 0 0), (10, .ptr 4 0 0 0), (12, .ptr 7 0 0 0), (13, .int .i64 i), (21, .ptr 10 0 0 0), (23, .ptr 13 0 0 0), (141, .bool false)] ⟨14, [(13, zo 11 xs.length 12 ys.length), (12, zl ys), (11, zj xs), (10, zo 8 xs.length 9 ys.length), (9, zl ys), (8, zj xs), (1, zn 0 m at5), (7, zo 5 cs.length 6 ps.length), (6, zl ps), (5, zj cs), (4, zo 2 cs.length 3 ps.length), (3, zl ps), (2, zj cs), (0, zk ls)]⟩ := by
      refine hK _ _ ?_;clear hG hK K;refine Cs.cond _ rfl ?_ ?_
      ·intro h141
       exfalso; cases h141
      ·intro h141
       
       refine Cs.skip ?_;refine Cs.regDraw [1, 2, 3, 9, 10, 12, 13] [0, 1, 2, 3] [[], [], [0], [0, 1, 2]] [[], [], [4], [7]] [[], [4], [4], [4, 7]] Tryd.mo rfl rfl rfl (by kernel_rfl) (by kernel_rfl) (by kernel_rfl) rfl (by kernel_rfl) ?_;intro K hK;(refine z1s (za _ [] [] rfl rfl rfl) ?_; repeat (with_reducible apply ai;exact z4));(refine z1s (za _ [] [4] rfl rfl rfl) ?_; repeat (with_reducible apply ai;exact z4));(refine z1s (za _ [4] [4] rfl rfl rfl) ?_; repeat (with_reducible apply ai;exact z4));(refine z1s (za _ [7] [4, 7] rfl rfl rfl) ?_; repeat (with_reducible apply ai;exact z4));refine z1d (z6 (hK _ _ ?_)); clear hK K;refine Cs.nil ?_;refine hN1 _ _ ?_;refine Cs.reg [1, 2, 3, 9, 10, 12, 13] rfl ?_;intro K hK;iterate 3 (refine z1s z5 ?_; repeat (with_reducible apply ai;exact z4))
       refine z7 (z6 (hK _ _ ?_)); clear hK K;refine Cs.nil ?_;refine hL1 _ _ ?_;rw [show (i : Int) + 1 = ((i + 1 : Nat) : Int) from by omega];refine ⟨((xs, ys), at5, i + 1), ⟨⟨⟨by dsimp only; omega, by dsimp only; omega⟩, e1, by dsimp only; omega⟩, by dsimp only; omega⟩, fun k => if k = 2 then 8 else if k = 3 then 9 else if k = 5 then 11 else if k = 6 then 12 else k, (LmDm.g1 (fun k => if k = 2 then 8 else if k = 3 then 9 else if k = 5 then 11 else if k = 6 then 12 else k))⟩
     (refine z1s (zg _ [] [] [] rfl rfl rfl rfl) ?_; repeat (with_reducible apply ai;exact z4));(refine z1s (zg _ [] [] [] rfl rfl rfl rfl) ?_; repeat (with_reducible apply ai;exact z4));(refine z1s (zg _ [] [] [] rfl rfl rfl rfl) ?_; repeat (with_reducible apply ai;exact z4));rw [bne_self_eq_false];repeat (with_reducible apply ai;exact z4)
     (refine z1s (zg _ [] [] [] rfl rfl rfl rfl) ?_; repeat (with_reducible apply ai;exact z4));(refine z1s (zg _ [] [] [] rfl rfl rfl rfl) ?_; repeat (with_reducible apply ai;exact z4));(refine z1s (zg _ [] [] [] rfl rfl rfl rfl) ?_; repeat (with_reducible apply ai;exact z4));refine zg _ [] [] [] rfl rfl rfl rfl ?_;refine z2i rfl rfl ?_;refine z2h ?_;refine ⟨fun _ => ?_, fun h => (by cases h)⟩;refine z1s id ?_;repeat (with_reducible apply ai;exact z4)
     refine z1x (same_spec xs ys xs ys xs.length ys.length xs.length ys.length rfl rfl rfl rfl (by omega) (by omega)) (fun k => if k = 0 then 8 else if k = 1 then 9 else if k = 2 then 11 else 12) ?_;rintro s0 H0 ⟨rfl, rfl⟩ s1 H1 hs1 hH1;obtain ⟨hs2, hH2⟩ := z40 hs1 hH1;clear hs1 hH1;subst hs2 hH2;repeat (with_reducible apply ai;exact z4)
     simp only [decide_true];(refine z1s (zg _ [] [] [] rfl rfl rfl rfl) ?_; repeat (with_reducible apply ai;exact z4));(refine z1s (zg _ [] [] [] rfl rfl rfl rfl) ?_; repeat (with_reducible apply ai;exact z4));(refine z1s (zg _ [] [] [] rfl rfl rfl rfl) ?_; repeat (with_reducible apply ai;exact z4));(refine z1s (zg _ [] [] [] rfl rfl rfl rfl) ?_; repeat (with_reducible apply ai;exact z4));(refine z1s (zg _ [] [] [] rfl rfl rfl rfl) ?_; repeat (with_reducible apply ai;exact z4));refine zg _ [] [] [] rfl rfl rfl rfl ?_;refine z2i rfl rfl ?_;refine z2h ?_;refine ⟨fun _ => ?_, fun h => (by cases h)⟩;refine z1s id ?_;repeat (with_reducible apply ai;exact z4)
     refine z1x (members_spec xs ys xs.length ys.length rfl rfl (by omega) (by omega)) (fun k => k + 8) ?_;rintro s0 H0 ⟨rfl, rfl⟩ s1 H1 hs1 hH1;obtain ⟨hs2, hH2⟩ := z40 hs1 hH1;clear hs1 hH1;subst hs2 hH2;repeat (with_reducible apply ai;exact z4)
     refine zg _ [] [] [] rfl rfl rfl rfl ?_;refine z2i rfl rfl ?_;refine z2h ?_;refine ⟨fun _ => ?_, fun h => (by cases h)⟩;refine z1s id ?_;repeat (with_reducible apply ai;exact z4)
     refine z1x (refMembers_spec xs ys xs.length ys.length rfl rfl (by omega) (by omega)) (fun k => k + 11) ?_;rintro s0 H0 ⟨rfl, rfl⟩ s1 H1 hs1 hH1;obtain ⟨hs2, hH2⟩ := z40 hs1 hH1;clear hs1 hH1;subst hs2 hH2;repeat (with_reducible apply ai;exact z4)
     refine zg _ [] [] [] rfl rfl rfl rfl ?_;refine z2i rfl rfl ?_;refine z2h ?_;refine ⟨fun _ => ?_, fun h => (by cases h)⟩;refine z1s id ?_;repeat (with_reducible apply ai;exact z4)
     refine z1x (sameInts_spec (z1b xs ys) (z1b xs ys) _ _ rfl rfl (by omega) (by omega)) (fun k => k + 14) ?_;rintro s0 H0 ⟨rfl, rfl⟩ s1 H1 hs1 hH1;obtain ⟨hs2, hH2⟩ := z40 hs1 hH1;clear hs1 hH1;subst hs2 hH2;repeat (with_reducible apply ai;exact z4)
     simp only [decide_true];(refine z1s (zg _ [] [] [] rfl rfl rfl rfl) ?_; repeat (with_reducible apply ai;exact z4));(refine z1s (zg _ [] [] [] rfl rfl rfl rfl) ?_; repeat (with_reducible apply ai;exact z4));(refine z1s (zg _ [] [] [] rfl rfl rfl rfl) ?_; repeat (with_reducible apply ai;exact z4));(refine z1s (zg _ [] [] [] rfl rfl rfl rfl) ?_; repeat (with_reducible apply ai;exact z4));(refine z1s (zg _ [] [] [] rfl rfl rfl rfl) ?_; repeat (with_reducible apply ai;exact z4));refine zg _ [] [] [] rfl rfl rfl rfl ?_;refine z2i rfl rfl ?_;refine z2h ?_;refine ⟨fun _ => ?_, fun h => (by cases h)⟩;refine z1s id ?_;repeat (with_reducible apply ai;exact z4)
     refine z1x (check_specL xs ys xs.length ys.length rfl rfl (by omega) (by omega)) (fun k => k + 8) ?_;rintro s0 H0 ⟨rfl, rfl⟩ s1 H1 hs1 hH1;obtain ⟨hs2, hH2⟩ := z40 hs1 hH1;clear hs1 hH1;subst hs2 hH2;repeat (with_reducible apply ai;exact z4)
     refine zg _ [] [] [] rfl rfl rfl rfl ?_;refine z2i rfl rfl ?_;refine z2h ?_;refine ⟨fun _ => ?_, fun h => (by cases h)⟩;refine z1s id ?_;repeat (with_reducible apply ai;exact z4)
     refine z1x (refCheck_specL xs ys xs.length ys.length rfl rfl (by omega) (by omega)) (fun k => k + 11) ?_;rintro s0 H0 ⟨rfl, rfl⟩ s1 H1 hs1 hH1;obtain ⟨hs2, hH2⟩ := z40 hs1 hH1;clear hs1 hH1;subst hs2 hH2;repeat (with_reducible apply ai;exact z4)
     (refine z1s (zg _ [] [] [] rfl rfl rfl rfl) ?_; repeat (with_reducible apply ai;exact z4));rw [bne_self_eq_false];repeat (with_reducible apply ai;exact z4)
     (refine z1s (zg _ [] [] [] rfl rfl rfl rfl) ?_; repeat (with_reducible apply ai;exact z4));(refine z1s (zg _ [] [] [] rfl rfl rfl rfl) ?_; repeat (with_reducible apply ai;exact z4));(refine z1s (zg _ [] [] [] rfl rfl rfl rfl) ?_; repeat (with_reducible apply ai;exact z4));(refine z1s (zg _ [] [] [] rfl rfl rfl rfl) ?_; repeat (with_reducible apply ai;exact z4));refine zg _ [] [] [] rfl rfl rfl rfl ?_;refine z2i rfl rfl ?_;refine z2h ?_;refine ⟨fun _ => ?_, fun h => (by cases h)⟩;refine z1s id ?_;repeat (with_reducible apply ai;exact z4)
     refine z1x (bound_spec xs ys xs.length ys.length rfl rfl (by omega) (by omega)) (fun k => k + 8) ?_;rintro s0 H0 ⟨rfl, rfl⟩ s1 H1 hs1 hH1;obtain ⟨hs2, hH2⟩ := z40 hs1 hH1;clear hs1 hH1;subst hs2 hH2;repeat (with_reducible apply ai;exact z4)
     refine zg _ [] [] [] rfl rfl rfl rfl ?_;refine z2i rfl rfl ?_;refine z2h ?_;refine ⟨fun _ => ?_, fun h => (by cases h)⟩;refine z1s id ?_;repeat (with_reducible apply ai;exact z4)
     refine z1x (refBound_spec xs ys xs.length ys.length rfl rfl (by omega) (by omega)) (fun k => k + 11) ?_;rintro s0 H0 ⟨rfl, rfl⟩ s1 H1 hs1 hH1;obtain ⟨hs2, hH2⟩ := z40 hs1 hH1;clear hs1 hH1;subst hs2 hH2;repeat (with_reducible apply ai;exact z4)
     (refine z1s (zg _ [] [] [] rfl rfl rfl rfl) ?_; repeat (with_reducible apply ai;exact z4));rw [bne_self_eq_false];repeat (with_reducible apply ai;exact z4)
     (refine z1s (zg _ [] [] [] rfl rfl rfl rfl) ?_; repeat (with_reducible apply ai;exact z4));refine z2p ?_;refine z6 ?_;exact hG _ _ _ _ id (z5q id) hk22
   ·intro h41
    
    refine Cs.exit ?_;refine hEL1 _ _ _ ?_;refine hX0 _ _ ?_;refine Cs.seq ?_;refine Cs.reg [8] rfl ?_;intro K hK;refine z1s z5 ?_;repeat (with_reducible apply ai;exact z4)
    refine z1x (sane_spec) (id) ?_;rintro s0 H0 ⟨rfl, rfl⟩ s1 H1 hs1 hH1;obtain ⟨hs2, hH2⟩ := z40 hs1 hH1;clear hs1 hH1;subst hs2 hH2;repeat (with_reducible apply ai;exact z4)
    (refine z1s z5 ?_; repeat (with_reducible apply ai;exact z4));refine z7 (z6 (hK _ _ ?_)); clear hK K;refine Cs.ret ?_;refine hQ _ _ ?_;refine z17.mk (H' := ⟨1, []⟩) (.inl rfl) ?_;refine LmCm.ou ?_;repeat (with_reducible apply ai;exact z4)
    refine ⟨zh, (z5q id), LmDm.r3, ?_⟩
    all_goals first | trivial | rfl | exact ⟨rfl, trivial⟩
  iterate 4 (refine z1s z5 ?_; repeat (with_reducible apply ai;exact z4))
  refine z5 ?_;refine z2i rfl rfl ?_;refine z2h ?_
  first | refine z2b ?_ ?_ | refine (fun (h1 : false = true → _) (h2 : false = false → _) => And.intro h1 fun _ => h2 rfl) ?_ ?_
  ·intro hg4
   first
    |(simp at hg4; done)
    |skip
     try replace hg4 := z9 hg4
     refine z1s id ?_;repeat (with_reducible apply ai;exact z4)
     refine z1x (left_spec ls m at2) (fun k => if k = 0 then 1 else 0) ?_;rintro s0 H0 ⟨⟨b, rfl⟩, rfl⟩ s1 H1 hs1 hH1;obtain ⟨hs2, hH2⟩ := z40 hs1 hH1;clear hs1 hH1;subst hs2 hH2;repeat (with_reducible apply ai;exact z4)
     (refine z1s z5 ?_; repeat (with_reducible apply ai;exact z4));refine z7 ?_;refine z6 ?_;refine hk7 hi _ ?_;intro hb; simp at hb <;> omega
  ·intro hg4;refine ⟨.bool false, ?_⟩
   first
    |(simp at hg4; done)
    |skip
     try replace hg4 := z9 hg4
     (refine z1s z5 ?_; repeat (with_reducible apply ai;exact z4));refine z7 ?_;refine z6 ?_;refine hk7 hi _ ?_;intro hb; simp at hb hg4 <;> omega
end Go.Proofs

set_option linter.unusedSimpArgs false
set_option linter.unusedVariables false
set_option maxRecDepth 4000
namespace Go.Proofs.YtdfdidinfaefmaaDoor
open Go.ChangeShapes Go.WideShapes Go.RowKit Go.Sk Go.Proofs
theorem own : ownKnob Tryd.prog.godebug = none := by kernel_rfl
theorem laid : laidOutB Tryd.prog = true := by kernel_rfl
theorem rowed : mapsRowed Tryd.prog = true := by kernel_rfl
theorem fullS : ∀ t e, t < Tryd.prog.types.size → Tryd.prog.underlying t = some (.slice e) → 0 < Tryd.prog.cellsOf e := slices_full_of _ (by kernel_rfl)
theorem uInts : Tryd.prog.underlying 22 = some (.slice 3) := by kernel_rfl
theorem uInt : Tryd.prog.underlying 3 = some (.int .i64) := by kernel_rfl
theorem uStr : Tryd.prog.underlying 9 = some .string := by kernel_rfl
theorem uBool : Tryd.prog.underlying 4 = some .bool := by kernel_rfl
theorem fInt : flatB Tryd.prog 3 [.i .i64] = true := by kernel_rfl
theorem gTab : Tryd.prog.globalNamed "skipgraph/skipgraphworld.letters" = some 0 := by kernel_rfl
theorem gTabType : (Tryd.prog.globals[0]?).map (·.type) = some 86 := by kernel_rfl
theorem uTab : Tryd.prog.underlying 86 = some (.array 6 9) := by kernel_rfl
theorem cTab : Tryd.prog.cellsOf 86 = 6 := by kernel_rfl
theorem cStr : Tryd.prog.cellsOf 9 = 1 := by kernel_rfl
theorem oneTab : (List.range Tryd.prog.globals.size).all (fun i => !tabG Tryd.prog i || i == 0) = true := by kernel_rfl
theorem tabs {W : World} (h : laidMetH Tryd.prog [("skipgraph/skipgraphworld.letters", Rows.laid_skipgraph_skipgraphworld_letters)] W) : ∀ i, tabG Tryd.prog i = true → i < W.heap.size ∧ TabAt W i :=
 tabs_of_laid gTab gTabType uTab uStr cStr cTab oneTab h
def toInt : List Value → Int
 |[.int _ z] => z
 |_ => 0
def toInts (rows : List (List Value)) : List Int := rows.map toInt
theorem ints_rows {w : World} {v : Value} {q : Option Sk.Loc} {rows : List (List Value)} (h : RwIn w v q [.i .i64] rows) (i : Nat) (r : List Value) (hr : rows[i]? = some r) : ints (toInts rows) i = r.map svOf := by
 have hok := h.ok r (List.mem_of_getElem? hr);rcases r with _ | ⟨v, _ | ⟨v', r⟩⟩
 ·exact hok.elim
 ·obtain ⟨⟨z, rfl, _⟩, _⟩ := hok;simp only [ints, nth, toInts, List.getD, List.getElem?_map, hr, Option.map_some, Option.getD_some, toInt, List.map_cons, List.map_nil, svOf]
 ·exact hok.2.elim
theorem ints_in {β : Env} {w : World} {v : Value} {q : Option Sk.Loc} {rows : List (List Value)} (h : RwIn w v q [.i .i64] rows) {id : Nat} (hq : β id 0 = q) :
  den β (.slc false id 0 0 (toInts rows).length) v ∧ (Sk.Obj.row ⟨false, false, 3, 1, (toInts rows).length, ints (toInts rows)⟩).holds β w q := by
 have := rows_in h hq 3 (ints (toInts rows)) (ints_rows h);simpa [toInts] using this
theorem ints_len {w : World} {v : Value} {q : Option Sk.Loc} {rows : List (List Value)} (h : RwIn w v q [.i .i64] rows) : (toInts rows).length ≤ 9223372036854775807 := by
 have := h.len;simpa [toInts, maxLen] using this
theorem ints_ltO (m : Nat) (xs : List Int) : (Sk.Obj.row ⟨false, false, 3, 1, xs.length, ints xs⟩).lt m := Sk.Obj.lt_row.2 fun i _ => by simp [ints, SV.ltL, SV.lt]
/-- A world for the witness: the table holds the six letters. -/
noncomputable def z5l (os : Os) : World :=
  { World.holding Tryd.prog os ⟨#[], #[], []⟩ with heap := (World.holding Tryd.prog os ⟨#[], #[], []⟩).heap.modify 0 fun
      | .cells _ t frozen => .cells (letters.map Value.string).toArray t frozen
      | o => o }
end Go.Proofs.YtdfdidinfaefmaaDoor

set_option linter.unusedSimpArgs false
set_option linter.unusedVariables false
set_option maxRecDepth 4000
namespace Go.Proofs.YtdfdidinfaefmaaDoor.lockedFollowsTop
open Go.ChangeShapes Go.WideShapes Go.RowKit Go.Sk Go.Proofs
theorem top (W : World) (v0 v1 v2 v3 : Value) (q0 : Option Sk.Loc) (r0 : List (List Value)) (h0 : RwIn W v0 q0 [.i .i64] r0) (n1 : Int) (h1 : v1 = .int .i64 n1) (n2 : Int) (h2 : v2 = .int .i64 n2) (n3 : Int) (h3 : v3 = .int .i64 n3)
  (htab : ∀ i, tabG Tryd.prog i = true → i < W.heap.size ∧ TabAt W i) : Calls Tryd.prog 8 #[v0, v1, v2, v3] W fun e w' => e = .returned (.bool true) ∧ Below W.heap.size W w' := by
 let β : Env := fun _ _ => q0
 obtain ⟨a0, b0⟩ := ints_in (β := β) (id := 0) h0 rfl;refine z19.top (Ent.of Tryd.func8 (by kernel_rfl) (by kernel_rfl)) (follows_spec (toInts r0) n1 n2 n3 (ints_len h0)) β W [v0, v1, v2, v3] (fun id k o ho => ?_) ⟨v0, [v1, v2, v3], a0, ⟨v1, [v2, v3], h1, ⟨v2, [v3], h2, ⟨v3, [], h3, rfl, rfl⟩, rfl⟩, rfl⟩, rfl⟩ (by simp [SV.ltL, SV.lt]) htab;obtain ⟨c, F, hf, hk, rfl⟩ := z3s ho;simp only [Sk.find, zk, one] at hf
 split at hf
 ·rename_i e; subst e; cases hf
  exact ⟨rfl, by show (0 : Nat) < 1; omega, ints_ltO _ _, b0⟩
 ·cases hf
theorem contract (H : Type) (enc : TypeId × Value → H) (W : World) (base : Nat) (args : Array Value) (ds gs : List (DataW H)) (before : List MemPlace)
  (hval : ∀ (j : Nat) t v, Tryd.f8.params[j]? = some t → args[j]? = some v → Value.okWide Tryd.prog W .any base t v)
  (hW : DataW.Whole enc Tryd.prog Tryd.f8.params.toList Rows.lockedFollowsSpec.vars false W args.toList ds gs before) (hL : laidMetH Tryd.prog Rows.lockedFollowsRow.laid W) :
  Calls Tryd.prog 8 args W fun e W' => ∃ v, e = .returned v ∧ Rows.lockedFollowsSpec.post enc Tryd.prog Tryd.f8 false true false false W args v W' := by
 have hW1 := hW;obtain ⟨p, q, hA0, hV, rfl, _, _⟩ := hW;have hA : DataW.TrodAll enc Tryd.prog W 0 (fun _ => true) true Tryd.f8.params.toList args.toList ds p := hA0;have hval1 : ∀ (j : Nat) t v, Tryd.f8.params[j]? = some t → args[j]? = some v → Value.okWide Tryd.prog W .any base t v := hval;rw [Tryd.params8] at hA hval1;obtain ⟨v0, vs0, d0, ds0, p0, q0, ha0, rfl, rfl, h0, r0⟩ := trodAll_cons hA;obtain ⟨v1, vs1, d1, ds1, p1, q1, ha1, rfl, rfl, h1, r1⟩ := trodAll_cons r0;obtain ⟨v2, vs2, d2, ds2, p2, q2, ha2, rfl, rfl, h2, r2⟩ := trodAll_cons r1;obtain ⟨v3, vs3, d3, ds3, p3, q3, ha3, rfl, rfl, h3, r3⟩ := trodAll_cons r2;obtain ⟨rfl, rfl, rfl⟩ := trodAll_nil r3;obtain rfl : args = #[v0, v1, v2, v3] := by cases args; simp_all
 obtain ⟨_, _, x0⟩ := rows_open uInts fInt (by simp) (hval1 0 _ v0 rfl rfl) h0;obtain ⟨n1, x1, _⟩ := open_int uInt (hval1 1 _ v1 rfl rfl) h1;obtain ⟨n2, x2, _⟩ := open_int uInt (hval1 2 _ v2 rfl rfl) h2;obtain ⟨n3, x3, _⟩ := open_int uInt (hval1 3 _ v3 rfl rfl) h3;refine (top W v0 v1 v2 v3 _ _ x0 n1 x1 n2 x2 n3 x3 (tabs hL)).mono fun e W1 ⟨he, hb⟩ => ?_;subst he;refine ⟨_, rfl, law_post laid rowed fullS (by decide +kernel) rfl hW1 hb rfl uBool fun ds hd => ?_⟩;have hd1 : ds.length = 4 := hd
 match ds, hd1 with
 |[_, _, _, _], _ => rfl
theorem laid_met (os : Os) : laidMet Tryd.prog Rows.lockedFollowsRow.laid ((z5l os).forCall (fun _ _ => 0) ⟨#[], #[.slice none 0 0, .int .i64 0, .int .i64 0, .int .i64 0], []⟩).memory :=
 laidMet_of_run' 8 (by kernel_rfl) (by kernel_rfl)
theorem reads (os : Os) {H : Type} (enc : TypeId × Value → H) : ∃ places, DataW.whole enc Tryd.prog ((z5l os).forCall (fun _ _ => 0) ⟨#[], #[.slice none 0 0, .int .i64 0, .int .i64 0, .int .i64 0], []⟩).memory Tryd.f8.params.toList Rows.lockedFollowsSpec.vars false #[Value.slice none 0 0, .int .i64 0, .int .i64 0, .int .i64 0].toList 8 = some ([.nil, .lit (.int .i64 0), .lit (.int .i64 0), .lit (.int .i64 0)], [], places) :=
 ⟨[], by kernel_rfl⟩
set_option maxRecDepth 100000 in
theorem lifted (os : Os) (started : os.Started) (H : Type) (enc : TypeId × Value → H) (F : Stop.Interp) :
  ReturnsInHanded {} Tryd.checked os 8 .any ((OpenSpec.ofChange Rows.lockedFollowsSpec).preRow enc Tryd.prog Tryd.f8 Rows.lockedFollowsRow.domain false Rows.lockedFollowsRow.laid) (((OpenSpec.ofChange Rows.lockedFollowsSpec).at F).post enc Tryd.prog Tryd.f8 false true false false) := by
 obtain ⟨places, hx⟩ := reads os enc
 refine returnsInHanded_of_row (C := Tryd.checked) (s := OpenSpec.ofChange Rows.lockedFollowsSpec) own started (by kernel_rfl) Tryd.func8
  (witness_row_at (enc := enc) (C := Tryd.checked) false (z5l os) #[.slice none 0 0, .int .i64 0, .int .i64 0, .int .i64 0] rfl (by kernel_rfl) (by kernel_rfl) (by kernel_rfl)
   (OpenSpec.preRow_of_cond 8 hx (by kernel_rfl) (fun k hk => by cases hk) (by kernel_rfl) (laid_met os))) ?_
 intro W base args ds gs before hval hW _ _ _ hL _ _;exact contract H enc W base args ds gs before hval hW hL
theorem said : Rows.LockedFollowsSaid :=
 OpenClaim.holds_of_cond 8 Tryd.f8 rfl rfl rfl rfl rfl rfl rfl ⟨rfl, rfl, rfl, rfl, rfl⟩ rfl rfl rfl rfl rfl (by kernel_rfl) Tryd.func8 (by kernel_rfl)
  (of_decide_eq_true (by kernel_rfl)) (by unfold Func.isWrapper; first | (rw [if_pos (by decide +kernel)]; kernel_rfl) | (rw [if_neg (by decide +kernel)]; exact ⟨rfl, rfl⟩))
  (fun os started H enc _ F => by rw [OpenClaim.pre_eq_preRow]; exact lifted os started H enc F)
theorem plain (f : FuncId) (fn : Func) (hf : Tryd.pinned.checked.prog.funcNamed "skipgraph/skipgraphlaw11.LockedFollows" = some f) (hfn : Tryd.pinned.checked.prog.funcs[f]? = some fn) :
  false = Tryd.pinned.checked.prog.looks [] ∧ ∀ (j : Nat) t, fn.params[j]? = some t → Tryd.pinned.checked.prog.wantsStandIn t = false := by
 obtain rfl : f = 8 := Option.some.inj ((show Tryd.prog.funcNamed "skipgraph/skipgraphlaw11.LockedFollows" = some 8 by kernel_rfl).symm.trans hf) |>.symm
 obtain rfl : fn = Tryd.f8 := (Option.some.inj (Tryd.func8.symm.trans hfn)).symm;refine ⟨by kernel_rfl, fun j t ht => ?_⟩;rw [Tryd.params8] at ht;have hm : t ∈ [22, 3, 3, 3] := by simpa using Array.mem_of_getElem? ht
 have hall : ([22, 3, 3, 3].all fun u => !Tryd.prog.wantsStandIn u) = true := by kernel_rfl
 exact (show Tryd.prog.wantsStandIn t = false by simpa using List.all_eq_true.1 hall t hm)
theorem proved : Rows.LockedFollowsCardSaid :=
 Claim7.holds_tied_plain_at .later [] _ _ _ _ said (fun _ h => by cases h) (by kernel_rfl) (fun _ h => by cases h) lockedFollows_row_tie rfl ⟨rfl, rfl⟩ (by kernel_rfl) rfl plain (by kernel_rfl)
end Go.Proofs.YtdfdidinfaefmaaDoor.lockedFollowsTop
#print axioms Go.Proofs.YtdfdidinfaefmaaDoor.lockedFollowsTop.proved
