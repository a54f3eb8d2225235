/-
  A frame for walks, eighteenth part: rules for a list of pieces of code; what comes behind is named, not shown.
  Conditions: none; lemmas over any program.
-/
import Derived.Test.YtnkodcknbeahcaaSkQ
import Derived.Scope
set_option linter.unusedSimpArgs false
set_option linter.unusedVariables false
namespace Go.Sk
open Go.RowKit

mutual
theorem ren_id : ∀ s : SV, s.ren id = s
  | .agg l => by simp only [SV.ren, renL_id l]
  | .tup l => by simp only [SV.ren, renL_id l]
  | .fn f l => by simp only [SV.ren, renL_id l]
  | .gd g s => by simp only [SV.ren, ren_id s]
  | .ptr .. | .slc .. | .mp .. | .int .. | .bool _ | .str _ | .nilp | .nils | .nilfn | .raw _ => rfl
theorem renL_id : ∀ l : List SV, SV.renL id l = l
  | [] => rfl
  | s :: l => by simp only [SV.renL, ren_id s, renL_id l]
end

theorem ltL_iff {m : Nat} : ∀ {l : List SV}, SV.ltL m l ↔ ∀ (j : Nat) (s : SV), l[j]? = some s → s.lt m
  | [] => by simp [SV.ltL]
  | a :: l => by
    simp only [SV.ltL, ltL_iff (l := l)]
    constructor
    · rintro ⟨h1, h2⟩ j s hj
      cases j with
      | zero => simp at hj; subst hj; exact h1
      | succ j => exact h2 j s (by simpa using hj)
    · intro h
      exact ⟨h 0 a (by simp), fun j s hj => h (j + 1) s (by simpa using hj)⟩

theorem Obj.lt_row {m : Nat} {r : Row} : (Obj.row r).lt m ↔ ∀ i, i < r.n → SV.ltL m (r.f i) := by
  simp only [Obj.lt, ltL_iff]
  exact ⟨fun h i hi j s hs => h i j s hi hs, fun h i j s hi hs => h i hi j s hs⟩

/-- Pieces of code, one after another. -/
def Cs (X : Cx) : List Code → (Exit → Fr → AH → Prop) → Fr → AH → Prop
  | [], Q, fr, H => Q .normal fr H
  | c :: l, Q, fr, H => Cw X c (thenK (fun fr H => Cs X l Q fr H) Q) fr H

section
variable {X : Cx} {Q : Exit → Fr → AH → Prop} {fr : Fr} {H : AH} {l : List Code}

theorem Cs.one {c : Code} (h : Cs X [c] Q fr H) : Cw X c Q fr H := Cw.mono h fun e _ _ hh => by cases e <;> exact hh

theorem Cs.seq {x y : Code} (h : Cs X (x :: y :: l) Q fr H) : Cs X (.seq x y :: l) Q fr H := Cw.seq fun _ hK => Cw.mono h fun e fr H hh => by
  cases e with
  | normal => exact hK fr H hh
  | _ => exact hh

theorem Cs.ret (h : Q .ret fr H) : Cs X (.ret :: l) Q fr H := Cw.ret h
theorem Cs.exit {id : Nat} (h : Q (.exit id) fr H) : Cs X (.exit id :: l) Q fr H := Cw.exit h
theorem Cs.skip (h : Cs X l Q fr H) : Cs X (.skip :: l) Q fr H := Cw.skip h
theorem Cs.nil (h : Q .normal fr H) : Cs X [] Q fr H := h

theorem Cs.cond {t : Tmp} {x y : Code} (b : Bool) (hb : get fr t = some (.bool b)) (h1 : b = true → Cs X (x :: l) Q fr H) (h2 : b = false → Cs X (y :: l) Q fr H) : Cs X (.cond (.tmp t) x y :: l) Q fr H := Cw.cond hb h1 h2

/-- A test whose branches meet again. -/
theorem Cs.join {t : Tmp} {x y : Code} (b : Bool) (hb : get fr t = some (.bool b))
    (h : ∀ K : Fr → AH → Prop, (∀ fr H, Cs X l Q fr H → K fr H) → (b = true → Cs X [x] (thenK K Q) fr H) ∧ (b = false → Cs X [y] (thenK K Q) fr H)) : Cs X (.cond (.tmp t) x y :: l) Q fr H :=
  Cw.cond hb (fun e => Cs.one ((h _ fun _ _ h => h).1 e)) (fun e => Cs.one ((h _ fun _ _ h => h).2 e))

theorem Cs.reg {id : Nat} {ops : List Oper} (keep : List Nat) (hd : dstOk X.n ops = true) (h : ∀ K : Fr → AH → Prop, (∀ fr H, Cs X l Q fr H → K fr H) → runL X.P X.wrap X.m0 ops.toArray ops fr H (fun fr H => K (prune keep fr) H)) : Cs X (.region id ops.toArray false :: l) Q fr H :=
  Cw.reg keep hd (h _ fun _ _ h => h)

/-- The operations of a region, in an order that is given by their numbers. -/
def runI (P : Program) (wr : Bool) (m0 : Nat) (W U : List (List Nat)) (ops : Array Oper) (L : List Oper) : List Nat → Fr → AH → (Fr → AH → Prop) → Prop
  | [], fr, H, K => K fr H
  | i :: l, fr, H, K => match L[i]? with
    | some o => stp P wr m0 true (W.getD i []) (U.getD i []) ops o fr H (fun fr' H' => runI P wr m0 W U ops L l fr' H' K)
    | none => False

@[congr] theorem runI_c {P : Program} {wr : Bool} {m0 : Nat} {W U : List (List Nat)} {ops : Array Oper} {L : List Oper} {o : List Nat} {fr : Fr} {H : AH} {K : Fr → AH → Prop} : runI P wr m0 W U ops L o fr H K = runI P wr m0 W U ops L o fr H K := rfl

theorem runI_runO {P : Program} {wr : Bool} {m0 : Nat} {W U : List (List Nat)} {L : List Oper} : ∀ {o : List Nat} (_ : ∀ i ∈ o, i < L.length) {fr : Fr} {H : AH} {K : Fr → AH → Prop}, runI P wr m0 W U L.toArray L o fr H K = runO P wr m0 W U L.toArray (o.map fun i => (i, L.toArray.getD i default)) fr H K
  | [], _, _, _, _ => rfl
  | i :: l, h, fr, H, K => by
    have hi : i < L.length := h i (List.mem_cons_self ..)
    have h1 : L[i]? = some L[i] := by simp [hi]
    have h2 : L.toArray.getD i default = L[i] := by simp [Array.getD_eq_getD_getElem?, hi]
    simp only [runI, h1, List.map_cons, runO, h2]
    have : (fun fr' H' => runI P wr m0 W U L.toArray L l fr' H' K) = fun fr' H' => runO P wr m0 W U L.toArray (l.map fun i => (i, L.toArray.getD i default)) fr' H' K := by
      funext fr' H'
      exact runI_runO (fun i hi => h i (List.mem_cons_of_mem _ hi))
    rw [this]

/-- A guarded operation that is not quiet: with and without. -/
theorem stp_grd {P : Program} {wr : Bool} {m0 : Nat} {dr : Bool} {W Wq : List Nat} {ops : Array Oper} {o : Oper} {fr : Fr} {H : AH} {K : Fr → AH → Prop} {g : Nat × Bool} (ho : o.guard = some g) (hq : isQ o.op = false)
    (h : grdK ops fr g fun G => (G = true → eop P m0 dr W H fr o.op (fun s H' => K (put o.dst s fr) H')) ∧ (G = false → ∃ s, K (put o.dst (.gd false s) fr) H)) : stp P wr m0 dr W Wq ops o fr H K := by
  unfold stp
  rw [ho]
  simp only [hq, Bool.false_eq_true, ↓reduceIte]
  exact h

/-- A test that is known, as a fact. -/
theorem grd_split {a : Bool} {p q : Prop} (h1 : a = true → p) (h2 : a = false → q) : (a = true → p) ∧ (a = false → q) := ⟨h1, h2⟩

theorem runL_cons {P : Program} {wr : Bool} {m0 : Nat} {ops : Array Oper} {o : Oper} {l : List Oper} {fr : Fr} {H : AH} {K : Fr → AH → Prop} (h : stp P wr m0 false [] [] ops o fr H (fun fr' H' => runL P wr m0 ops l fr' H' K)) : runL P wr m0 ops (o :: l) fr H K := h
theorem runL_nil {P : Program} {wr : Bool} {m0 : Nat} {ops : Array Oper} {fr : Fr} {H : AH} {K : Fr → AH → Prop} (h : K fr H) : runL P wr m0 ops [] fr H K := h
theorem runI_cons {P : Program} {wr : Bool} {m0 : Nat} {W U : List (List Nat)} {ops : Array Oper} {L : List Oper} {i : Nat} {l : List Nat} {fr : Fr} {H : AH} {K : Fr → AH → Prop} (o : Oper) (w1 w2 : List Nat) (hi : L[i]? = some o) (hw1 : W.getD i [] = w1) (hw2 : U.getD i [] = w2) (h : stp P wr m0 true w1 w2 ops o fr H (fun fr' H' => runI P wr m0 W U ops L l fr' H' K)) : runI P wr m0 W U ops L (i :: l) fr H K := by
  subst hw1 hw2; simp only [runI, hi]; exact h
theorem runI_nil {P : Program} {wr : Bool} {m0 : Nat} {W U : List (List Nat)} {ops : Array Oper} {L : List Oper} {fr : Fr} {H : AH} {K : Fr → AH → Prop} (h : K fr H) : runI P wr m0 W U ops L [] fr H K := h

theorem Cs.regDraw {id : Nat} {ops : List Oper} (keep ord : List Nat) (A W U : List (List Nat)) (hm : X.P.follows .mixedOrders = true)
    (hd : dstOk X.n ops = true) (hlen : ord.length = ops.length) (hlt : ord.all (fun i => decide (i < ops.length)) = true) (hns : Region.noSelect ops.toArray = true) (hA : afterOk ops.toArray A = true) (hE : effOk ops.toArray A W U = true) (hWn : W.all (fun l => l.all fun i => decide (i < H.nxt)) = true)
    (hs : sched ops.toArray (ord.map fun i => (i, ops.toArray.getD i default)) (Array.replicate ops.length false) false = true)
    (h : ∀ K : Fr → AH → Prop, (∀ fr H, Cs X l Q fr H → K fr H) → runI X.P X.wrap X.m0 W U ops.toArray ops ord fr H (fun fr H => K (prune keep fr) H)) : Cs X (.region id ops.toArray true :: l) Q fr H :=
  Cw.regDraw keep ord A W U _ hm hd hlen hlt hns hA hE hWn rfl hs (by
    rw [← runI_runO (fun i hi => by simpa using List.all_eq_true.1 hlt i hi)]
    exact h _ fun _ _ h => h)

theorem Cs.block {id : Nat} {c : Code} (h : ∀ Q' : Exit → Fr → AH → Prop, (∀ fr H, Cs X l Q fr H → Q' .normal fr H) → (∀ fr H, Cs X l Q fr H → Q' (.exit id) fr H) → (∀ fr H, Q .ret fr H → Q' .ret fr H) → (∀ i fr H, i ≠ id → Q (.exit i) fr H → Q' (.exit i) fr H) → Cs X [c] Q' fr H) : Cs X (.block id c :: l) Q fr H := by
  refine Cw.block (Cs.one (h _ (fun _ _ h => h) (fun _ _ h => ?_) (fun _ _ h => h) fun i _ _ hi h => ?_))
  · simp only [inBlk, ↓reduceIte]; exact h
  · simp only [inBlk, if_neg hi]; exact h

theorem Cs.loop {σ : Type} {c : Code} (I : σ → Prop) (μ : σ → Nat) (F : σ → Fr) (G : σ → AH) (s0 : σ) (h0 : I s0) {ρ : Nat → Nat} (hg : Gives X ρ fr H (F s0) (G s0))
    (round : ∀ s, I s → ∀ Q' : Exit → Fr → AH → Prop, (∀ fr' H', (∃ s', (I s' ∧ μ s' < μ s) ∧ ∃ ρ, Gives X ρ fr' H' (F s') (G s')) → Q' .normal fr' H') → (∀ fr H, Q .ret fr H → Q' .ret fr H) → (∀ i fr H, Q (.exit i) fr H → Q' (.exit i) fr H) → Cs X [c] Q' (F s) (G s)) : Cs X (.loop c :: l) Q fr H :=
  Cw.loop I μ F G s0 h0 hg fun s hs => Cs.one (round s hs _ (fun _ _ ⟨s', ⟨h1, h2⟩, h3⟩ => ⟨s', h1, h2, h3⟩) (fun _ _ h => h) fun _ _ _ h => h)


end

section
variable {X : Cx} {Q : Exit → Fr → AH → Prop} {fr : Fr} {H : AH} {l : List Code}

def noGo (Q : Exit → Fr → AH → Prop) : Exit → Fr → AH → Prop
  | .goto _, _, _ => False
  | e, fr, H => Q e fr H

theorem Cw.scope {c : Code} (h : Cw X c (noGo Q) fr H) : Cw X (.scope c) Q fr H := fun β a w hF hS =>
  wp_scope_straight (Code.wp_mono (fun e a w hh => by
    cases e with
    | goto l =>
      obtain ⟨_, _, _, h1, _⟩ := hh
      exact h1.elim
    | _ => exact hh) (h β a w hF hS))

theorem Cs.scope {c : Code} (h : ∀ Q' : Exit → Fr → AH → Prop, (∀ fr H, Cs X l Q fr H → Q' .normal fr H) → (∀ fr H, Q .ret fr H → Q' .ret fr H) → (∀ i fr H, Q (.exit i) fr H → Q' (.exit i) fr H) → Cs X [c] Q' fr H) : Cs X (.scope c :: l) Q fr H :=
  Cw.scope (Cs.one (h _ (fun _ _ h => h) (fun _ _ h => h) fun _ _ _ h => h))

theorem Cs.label {i : Nat} (h : Cs X l Q fr H) : Cs X (.label i :: l) Q fr H := fun β _ _ hF hS => wp_label ⟨β, fr, H, h, hF, hS⟩

/-- What is known is told anew. -/
theorem Cs.give {c : Code} {fr' : Fr} {H' : AH} (ρ : Nat → Nat) (hg : Gives X ρ fr H fr' H') (h : Cs X (c :: l) Q fr' H') : Cs X (c :: l) Q fr H := Cw.weaken hg h

/-- A nil slice is an empty one of the call's own. -/
theorem Cs.nilO {c : Code} (t : Nat) (e : TypeId) (sz : Nat) (f : Nat → List SV) (hn : get fr t = some .nils) (h : Cs X (c :: l) Q ((t, .slc true H.nxt 0 0 0) :: fr) ⟨H.nxt + 1, (H.nxt, Sk.one (.row ⟨true, false, e, sz, 0, f⟩)) :: H.os⟩) : Cs X (c :: l) Q fr H := fun β a w hF hS => by
  have hag := Env.agree_set β H.nxt (fun _ => none)
  refine h (β.set H.nxt fun _ => none) a w ?_ ?_
  · have hF' := hF.agree (Nat.le_succ H.nxt) hag
    refine ⟨hF.defers, hF.size, fun u s hs => ?_⟩
    simp only [get] at hs
    split at hs
    · rename_i he
      subst he
      cases hs
      obtain ⟨_, v, h1, h2⟩ := hF.get _ _ hn
      simp only [den] at h2
      refine ⟨Nat.lt_succ_self _, v, h1, ?_⟩
      simp only [den, slcDen, ↓reduceIte]
      exact .inl ⟨by unfold Env.set; rw [if_pos rfl], trivial, trivial, h2⟩
    · exact hF'.get u s hs
  · refine St.new' hS (fun k L _ hq => by cases hq) (fun k k' L L' _ _ hq _ _ => by cases hq) (fun k _ => ?_) (fun k _ => ?_)
    · exact .inl ⟨rfl, rfl⟩
    · exact Obj.lt_row.2 fun i hi => absurd hi (Nat.not_lt_zero _)

/-- A test whose branches meet again, in one of the states that are told. -/
theorem Cs.meet {σ : Type} {t : Tmp} {x y c : Code} (I : σ → Prop) (F : σ → Fr) (G : σ → AH) (b : Bool) (hb : get fr t = some (.bool b))
    (h1 : b = true → ∀ Q' : Exit → Fr → AH → Prop, (∀ fr' H', (∃ s, I s ∧ ∃ ρ, Gives X ρ fr' H' (F s) (G s)) → Q' .normal fr' H') → (∀ fr H, Q .ret fr H → Q' .ret fr H) → (∀ i fr H, Q (.exit i) fr H → Q' (.exit i) fr H) → Cs X [x] Q' fr H)
    (h2 : b = false → ∀ Q' : Exit → Fr → AH → Prop, (∀ fr' H', (∃ s, I s ∧ ∃ ρ, Gives X ρ fr' H' (F s) (G s)) → Q' .normal fr' H') → (∀ fr H, Q .ret fr H → Q' .ret fr H) → (∀ i fr H, Q (.exit i) fr H → Q' (.exit i) fr H) → Cs X [y] Q' fr H)
    (h3 : ∀ s, I s → Cs X (c :: l) Q (F s) (G s)) : Cs X (.cond (.tmp t) x y :: c :: l) Q fr H := by
  have key : ∀ fr' H', (∃ s, I s ∧ ∃ ρ, Gives X ρ fr' H' (F s) (G s)) → Cs X (c :: l) Q fr' H' := fun fr' H' ⟨s, hs, ρ, hg⟩ => Cs.give ρ hg (h3 s hs)
  exact Cw.cond hb (fun e => Cs.one (h1 e _ key (fun _ _ h => h) fun _ _ _ h => h)) (fun e => Cs.one (h2 e _ key (fun _ _ h => h) fun _ _ _ h => h))

/-- Arguments may be known better than the callee asks. -/
def SV.wk : SV → SV → Prop
  | .slc true id k o n, .slc false id' k' o' n' => id = id' ∧ k = k' ∧ o = o' ∧ n = n'
  | .nils, .slc false _ _ _ n => n = 0
  | a, b => a = b
def SV.wkL : List SV → List SV → Prop
  | [], [] => True
  | a :: l, b :: r => SV.wk a b ∧ SV.wkL l r
  | _, _ => False

theorem SV.wk_den {β : Env} {a b : SV} {v : Value} (h : SV.wk a b) (hd : den β a v) : den β b v := by
  unfold SV.wk at h
  split at h
  · obtain ⟨rfl, rfl, rfl, rfl⟩ := h
    simp only [den, slcDen, ↓reduceIte, Bool.false_eq_true] at hd ⊢
    rcases hd with ⟨h1, h2, h3, h4⟩ | ⟨L, h1, h2, h3, h4, h5⟩
    · exact ⟨none, 0, by rw [h4, h2], by omega, fun h => by omega⟩
    · exact ⟨_, _, h5, h4, fun _ => ⟨L, h1, by rw [h2, h3]; simp⟩⟩
  · subst h
    simp only [den, slcDen, ↓reduceIte, Bool.false_eq_true] at hd ⊢
    exact ⟨none, 0, hd, Nat.le_refl _, fun h => by omega⟩
  · subst h; exact hd

theorem SV.wkL_den {β : Env} : ∀ {l r : List SV} {vs : List Value}, SV.wkL l r → denL β l vs → denL β r vs
  | [], [], _, _, h => h
  | a :: l, b :: r, vs, h, hd => by
    simp only [denL] at hd ⊢
    obtain ⟨v, vs', h1, h2, h3⟩ := hd
    exact ⟨v, vs', SV.wk_den h.1 h1, SV.wkL_den h.2 h2, h3⟩
  | [], _ :: _, _, h, _ => h.elim
  | _ :: _, [], _, h, _ => h.elim

/-- A call, by what its function does. -/
theorem callK_of {P : Program} {f : FuncId} {args args0 : List SV} {H0 H : AH} {R : SV → AH → Prop} {dr : Bool} {W : List Nat} {k : SV → AH → Prop} (hF : FSpec P f args0 H0 R) (ρ : Nat → Nat)
    (hw : SV.wkL args (SV.renL ρ args0)) (hl1 : SV.ltL H.nxt (SV.renL ρ args0)) (hl0 : SV.ltL H0.nxt args0) (hρ : (List.range H0.nxt).all (fun id => decide (ρ id < H.nxt)) = true) (hg : HGives ρ H0.nxt H.os H0.os) (hinj : injB ρ H0.os = true) (hu : ownU H0.os)
    (hnd : (H0.os.map (·.1)).Nodup) (hcnt : ∀ x ∈ H0.os, (x.2.2 0).own = true → (find H.os (ρ x.1)).map (·.1) = some x.2.1)
    (hW : dr = true → (ownIds ρ H0.os).all (fun id => W.contains id) = true)
    (hk : ∀ s0 H', R s0 H' → ∀ s1 H1, s1 = s0.ren (cren H0.nxt H.nxt ρ) → H1 = after H0.nxt ρ H0 H H' → k s1 H1) : callK P f args H dr W k := by
  refine ⟨_, _, ⟨hF.1, fun X β w vs hP hS hd hlt => (FSpec.call hF ρ hl0 hρ hg hinj hu hnd hcnt).2 X β w vs hP hS (SV.wkL_den hw hd) hl1⟩, fun h id hid => by simpa using List.all_eq_true.1 (hW h) id hid, ?_⟩
  rintro s H'' ⟨s0, H', h1, rfl, rfl⟩
  exact hk s0 H' h1 _ _ rfl rfl

end

theorem opdK_mono {fr : Fr} {G : Bool} {x : Operand} {k k' : SV → Prop} (h : ∀ s, k s → k' s) (hh : opdK fr G x k) : opdK fr G x k' := by
  unfold opdK at *
  split at hh
  · split at hh
    · exact ⟨hh.1, h _ hh.2⟩
    · exact h _ hh
    · exact hh
  all_goals exact h _ hh

theorem loadK_mono {P : Program} {H : AH} {W : List Nat} {G : Bool} {t : TypeId} {s : SV} {k k' : SV → Prop} (h : ∀ s, k s → k' s) (hh : loadK P H W G t s k) : loadK P H W G t s k' := by
  unfold loadK at *
  split at hh
  · split at hh
    · split at hh
      · refine ⟨hh.1, ?_⟩
        have h2 := hh.2
        split at h2
        · exact ⟨h2.1, h _ h2.2⟩
        · split at h2
          · exact h _ h2
          · exact h2
      · exact hh
    · exact hh
  · exact hh

theorem resK_mono {P : Program} {H : AH} {fr : Fr} : ∀ {rs : List ResultVar} {k k' : List SV → Prop}, (∀ l, k l → k' l) → resK P H fr rs k → resK P H fr rs k'
  | [], _, _, h, hh => h _ hh
  | .tmp t :: l, k, k', h, hh => by
    simp only [resK] at hh ⊢
    exact opdK_mono (fun s hh => resK_mono (fun r hr => h _ hr) hh) hh
  | .cell t ty :: l, k, k', h, hh => by
    simp only [resK] at hh ⊢
    exact opdK_mono (fun s hh => loadK_mono (fun s hh => resK_mono (fun r hr => h _ hr) hh) hh) hh

/-- The end of a walk, where the names are the caller's. -/
theorem PostF.mk {X : Cx} {H0 : AH} {R : SV → AH → Prop} {rs : List ResultVar} {fr : Fr} {H H' : AH} {e : Exit} (he : e = .ret ∨ e = .normal) (h : resK X.P H fr rs fun ss => (resV ss).lt H'.nxt ∧ Gives X id [] H [] H' ∧ OwnAll H0 H'.os ∧ R (resV ss) H') : PostF X H0 rs R e fr H := by
  have : resK X.P H fr rs fun ss => ∃ ρ s H', resV ss = s.ren ρ ∧ s.lt H'.nxt ∧ Gives X ρ [] H [] H' ∧ OwnAll H0 H'.os ∧ R s H' :=
    resK_mono (fun ss h => ⟨id, _, _, (ren_id _).symm, h⟩) h
  rcases he with rfl | rfl <;> exact this

/-- The end of a walk, where the names are told. -/
theorem PostF.mkR {X : Cx} {H0 : AH} {R : SV → AH → Prop} {rs : List ResultVar} {fr : Fr} {H : AH} {e : Exit} (ρ : Nat → Nat) (s : SV) (H' : AH) (he : e = .ret ∨ e = .normal) (h : resK X.P H fr rs fun ss => resV ss = s.ren ρ ∧ s.lt H'.nxt ∧ Gives X ρ [] H [] H' ∧ OwnAll H0 H'.os ∧ R s H') : PostF X H0 rs R e fr H := by
  have : resK X.P H fr rs fun ss => ∃ ρ s H', resV ss = s.ren ρ ∧ s.lt H'.nxt ∧ Gives X ρ [] H [] H' ∧ OwnAll H0 H'.os ∧ R s H' :=
    resK_mono (fun ss h => ⟨ρ, s, H', h⟩) h
  rcases he with rfl | rfl <;> exact this

/-- What a function does, from a walk of its body; the numbers written out. -/
theorem FSpec.ofC {P : Program} {f : FuncId} {fn : Func} {c : Code} {args : List SV} {H0 : AH} {R : SV → AH → Prop} (wr : Bool) (n : Nat) (rs : List ResultVar) (hf : P.funcs[f]? = some fn) (hb : fn.body = some c) (hn : (fn.name == "runtime.NumGoroutine") = false) (hnt : fn.ntmps = n) (hrs : fn.results = rs.toArray) (ha : Nat.ble args.length n = true)
    (h : ∀ w0 own0 β0, ∀ Q : Exit → Fr → AH → Prop, (∀ fr H, PostF ⟨P, n, w0, own0, H0.nxt, β0, wr⟩ H0 rs R .ret fr H → Q .ret fr H) → Cs ⟨P, n, w0, own0, H0.nxt, β0, wr⟩ [c] Q (argFr 0 args) H0) : FSpec P f args H0 R :=
  FSpec.ofN wr n rs hf hb hn hnt hrs ha fun w0 own0 β0 => Cs.one (h w0 own0 β0 _ fun _ _ h => h)

end Go.Sk
