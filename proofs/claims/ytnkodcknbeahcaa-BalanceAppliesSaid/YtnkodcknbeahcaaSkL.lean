/-
  A frame for walks, twelfth part: a region whose order Go leaves open, walked in one order.
  Conditions: none; definitions and lemmas over any program.
-/
import Derived.Test.YtnkodcknbeahcaaSkK
set_option linter.unusedSimpArgs false
set_option linter.unusedVariables false
namespace Go.Sk
open Go.RowKit

theorem getD_down {listed : Array Bool} {i : Nat} (h : listed.getD i true = false) : listed.getD i false = false := by
  rcases Nat.lt_or_ge i listed.size with h' | h'
  · simp [h'] at h ⊢; exact h
  · simp [Array.getElem?_eq_none h'] at h

section
variable {P : Program} {ops : Array Oper} {Q : Exit → Act → World → Prop}

/-- What has come up is closed under what must come before. -/
def Closed (ops : Array Oper) (listed : Array Bool) : Prop :=
  ∀ (j : Nat) (oj : Oper), ops[j]? = some oj → listed.getD j false = true → ∀ e ∈ oj.after, Region.binds .any e = true → listed.getD e.on false = true

theorem Closed.set {listed : Array Bool} (h : Closed ops listed) {i : Nat} (hi : i ∈ Region.ready .any ops listed) : Closed ops (listed.setIfInBounds i true) := by
  obtain ⟨_, oi, hoi, hall⟩ := mem_ready.1 hi
  intro j oj hj hl e he hb
  by_cases hij : i = j
  · subst hij
    have : oj = oi := Option.some.inj (hj.symm.trans hoi)
    subst this
    exact getD_set_true (hall e he hb)
  · rw [getD_set_ne false hij] at hl
    exact getD_set_true (h j oj hj hl e he hb)

/-- A certificate: A[j] holds operations that must come before j. -/
def afterOk (ops : Array Oper) (A : List (List Nat)) : Bool :=
  (List.range ops.size).all fun j =>
    match ops[j]? with
    | some o => (A.getD j []).all fun i => o.after.any fun e => Region.binds .any e && decide (e.on < j) && (e.on == i || (A.getD e.on []).contains i)
    | none => true

theorem afterOk_listed {A : List (List Nat)} (hA : afterOk ops A = true) {listed : Array Bool} (hc : Closed ops listed) :
    ∀ (n j : Nat), j < n → ∀ o, ops[j]? = some o → (∀ e ∈ o.after, Region.binds .any e = true → listed.getD e.on false = true) → ∀ i, i ∈ A.getD j [] → listed.getD i false = true
  | 0, _, h, _, _, _, _, _ => by omega
  | n + 1, j, hj, o, ho, hall, i, hi => by
    have hjs : j < ops.size := (Array.getElem?_eq_some_iff.1 ho).1
    have h1 := List.all_eq_true.1 hA j (List.mem_range.2 hjs)
    simp only [ho] at h1
    have h2 := List.all_eq_true.1 h1 i hi
    obtain ⟨e, he, hb⟩ := Array.any_eq_true'.1 h2
    simp only [Bool.and_eq_true, Bool.or_eq_true, decide_eq_true_eq, beq_iff_eq] at hb
    obtain ⟨⟨hb1, hlt⟩, h3⟩ := hb
    have hl := hall e he hb1
    rcases h3 with h3 | h3
    · rw [← h3]; exact hl
    · have hes : e.on < ops.size := by omega
      have hoe : ops[e.on]? = some ops[e.on] := Array.getElem?_eq_getElem hes
      exact afterOk_listed hA hc n e.on (by omega) _ hoe (fun e' he' hb' => hc _ _ hoe hl e' he' hb') i (by simpa using h3)

/-- Whatever order is picked from here on: behind each operation S holds, and behind a quiet one the world is as it was. -/
def wpAnyG (P : Program) (ops : Array Oper) (Q : Exit → Act → World → Prop) (S : Nat → World → World → Prop) (isq : Nat → Bool) : Nat → Array Bool → Act → World → Prop
  | 0, listed, a, w => Region.ready .any ops listed = [] ∧ Q .normal a w
  | fuel + 1, listed, a, w =>
    (Region.ready .any ops listed = [] → Q .normal a w) ∧
    ∀ i ∈ Region.ready .any ops listed, wpOp P ops Q i (fun a' w' => ((isq i = true → w' = w) ∧ S i w w') ∧ wpAnyG P ops Q S isq fuel (listed.setIfInBounds i true) a' w') a w

theorem wpAny_of_G {S : Nat → World → World → Prop} {isq : Nat → Bool} : ∀ (fuel : Nat) (listed : Array Bool) (a : Act) (w : World), wpAnyG P ops Q S isq fuel listed a w → wpAny P .any ops Q fuel listed a w
  | 0, _, _, _, h => h
  | fuel + 1, _, _, _, h => ⟨h.1, fun i hi => wpOp_mono (fun a' w' h' => wpAny_of_G fuel _ a' w' h'.2) (h.2 i hi)⟩

theorem wpAnyG_first {S : Nat → World → World → Prop} {T : World → Prop} {isq : Nat → Bool} {i : Nat} {oi : Oper} {v : Value} (hi : ops[i]? = some oi) (hq : isq i = true) (hsel : ∀ (j : Nat) (o : Oper) cs b, ops[j]? = some o → o.op ≠ .select cs b)
    (hQ : ∀ c a w, Q (.panic c) (a.put oi.dst v) w → Q (.panic c) a w)
    (hkeep : ∀ listed, Closed ops listed → listed.getD i true = false → ∀ j ∈ Region.ready .any ops listed, j ≠ i → ∀ w1 w2, T w1 → (isq j = true → w2 = w1) → S j w1 w2 → T w2) (hS : ∀ w, S i w w) :
    ∀ (fuel : Nat) (listed : Array Bool) (a : Act) (w : World), Closed ops listed →
      (∀ (j : Nat) (oj : Oper), ops[j]? = some oj → j ≠ i → listed.getD j true = false → (∀ e ∈ oj.after, Region.binds .any e = true → e.on ≠ i) → oi.apart ops oj = true) →
      i ∈ Region.ready .any ops listed → YieldsIf P ops T oi v a → T w →
      wpAnyG P ops Q S isq fuel (listed.setIfInBounds i true) (a.put oi.dst v) w → wpAnyG P ops Q S isq (fuel + 1) listed a w := by
  intro fuel
  induction fuel with
  | zero =>
    intro listed a w _ _ hr hy hT H
    refine ⟨fun h => (by rw [h] at hr; cases hr), fun j hj => ?_⟩
    by_cases hji : j = i
    · subst hji
      exact hy.wpOp hi hT ⟨⟨fun _ => rfl, hS w⟩, H⟩
    · have := ready_mono hj hji
      rw [H.1] at this
      cases this
  | succ fuel ih =>
    intro listed a w hcl hfree hr hy hT H
    refine ⟨fun h => (by rw [h] at hr; cases hr), fun j hj => ?_⟩
    by_cases hji : j = i
    · subst hji
      exact hy.wpOp hi hT ⟨⟨fun _ => rfl, hS w⟩, H⟩
    · have h1 := H.2 j (ready_mono hj hji)
      obtain ⟨hjun, oj, hoj, hall⟩ := mem_ready.1 hj
      have hiun := (mem_ready.1 hr).1
      have hnot : ∀ e ∈ oj.after, Region.binds .any e = true → e.on ≠ i := fun e he hb heq => by
        have h2 := hall e he hb
        rw [heq] at h2
        rcases Nat.lt_or_ge i listed.size with h' | h'
        · simp [h'] at hiun h2; rw [hiun] at h2; cases h2
        · simp [Array.getElem?_eq_none h'] at h2
      have h2 := wpOp_putIf hoj (hfree j oj hoj hji hjun hnot) (fun cs b => hsel i oi cs b hi) (fun cs b => hsel j oj cs b hoj) hQ hy h1
      have hfree' : ∀ (k : Nat) (ok : Oper), ops[k]? = some ok → k ≠ i → (listed.setIfInBounds j true).getD k true = false →
          (∀ e ∈ ok.after, Region.binds .any e = true → e.on ≠ i) → oi.apart ops ok = true := fun k ok hk hki hun hno => by
        refine hfree k ok hk hki ?_ hno
        by_cases hjk : j = k
        · subst hjk; exact hjun
        · rw [getD_set_ne true hjk] at hun; exact hun
      refine wpOp_mono (fun a' w' h3 => ⟨h3.2.1, ih (listed.setIfInBounds j true) a' w' (hcl.set hj) hfree' (ready_mono hr (Ne.symm hji)) h3.1 (hkeep listed hcl hiun j hj hji w w' hT h3.2.1.1 h3.2.1.2) ?_⟩) h2
      rw [Array.setIfInBounds_comm _ _ hji]
      exact h3.2.2

end

/-- The region in a chosen order: Wf: the objects that each operation may write; Uq: for each load, what is written by operations that are not bound to come after it. -/
def runO (P : Program) (wr : Bool) (m0 : Nat) (Wf Uq : List (List Nat)) (ops : Array Oper) : List (Nat × Oper) → Fr → AH → (Fr → AH → Prop) → Prop
  | [], fr, H, K => K fr H
  | (i, o) :: l, fr, H, K => stp P wr m0 true (Wf.getD i []) (Uq.getD i []) ops o fr H (fun fr' H' => runO P wr m0 Wf Uq ops l fr' H' K)

def isLoad : Op → Bool
  | .load .. => true
  | _ => false

/-- The order is one that the edges allow; quiet operations may be taken first; all others are forced. -/
def sched (ops : Array Oper) : List (Nat × Oper) → Array Bool → Bool → Bool
  | [], listed, _ => (Region.ready .any ops listed).isEmpty
  | (i, o) :: l, listed, dirty =>
    (if isQ o.op then
      if dirty && isLoad o.op then Region.ready .any ops listed == [i]
      else (Region.ready .any ops listed).contains i && Region.free .any ops listed i
    else Region.ready .any ops listed == [i]) && sched ops l (listed.setIfInBounds i true) (dirty || !isQ o.op)

/-- What an operation that changes the world writes is told at each load that is not bound to come before it. -/
def effOk (ops : Array Oper) (A Wf Uq : List (List Nat)) : Bool :=
  (List.range ops.size).all fun j => match ops[j]? with
    | some o => isQ o.op || (List.range ops.size).all fun i => (A.getD j []).contains i || (Wf.getD j []).all fun id => (Uq.getD i []).contains id
    | none => true

def isqAt (ops : Array Oper) (j : Nat) : Bool := match ops[j]? with | some o => isQ o.op | none => false

theorem grd_wanted {X : Cx} {β : Env} {m : Nat} {fr : Fr} {a : Act} (hF : FrOk X β m fr a) {ops : Array Oper} {o : Oper} {k : Bool → Prop} (h : match o.guard with | none => k true | some g => grdK ops fr g k) :
    ∃ G, k G ∧ Region.wanted o (yielded ops a.tmps) = G := by
  cases hg : o.guard with
  | none => rw [hg] at h; exact ⟨true, h, by simp [Region.wanted, hg]⟩
  | some g =>
    rw [hg] at h
    obtain ⟨G, h1, h2⟩ := grdK_ok hF h
    exact ⟨G, h1, h2 o hg⟩

/-- The quiet case of a step, in a class of worlds. -/
theorem stp_quiet {X : Cx} {β : Env} {H : AH} {w : World} (hS : St X β H w) {W Wq : List Nat} {dr : Bool} {fr : Fr} {a : Act} (hF : FrOk X β H.nxt fr a) {ops : Array Oper} {o : Oper} (hd : ∀ t, o.dst = some t → t < X.n) {K : Fr → AH → Prop} (hq : isQ o.op = true)
    {C : World → Prop} (hC : ∀ t x, o.op = .load t x → ∀ w', C w' → Kp w (inW β H Wq) w') (h : stp X.P X.wrap X.m0 dr W Wq ops o fr H K) :
    ∃ v fr', YieldsIf X.P ops C o v a ∧ K fr' H ∧ FrOk X β H.nxt fr' (a.put o.dst v) := by
  unfold stp at h
  split at h
  · rename_i hg
    rw [if_pos hq] at h
    obtain ⟨s, hk, hs⟩ := qop_ok hS hF hC h
    obtain ⟨h1, v, h2, h3⟩ := hs rfl
    exact ⟨v, _, .inl ⟨by simp [Region.wanted, hg], h3⟩, hk, hF.put hd h1 h2⟩
  · rename_i g hg
    obtain ⟨G, hG, hw⟩ := grdK_ok hF h
    have hwo := hw o hg
    rw [if_pos hq] at hG
    obtain ⟨s, hk, hs⟩ := qop_ok hS hF hC hG
    cases G with
    | true =>
      obtain ⟨h1, v, h2, h3⟩ := hs rfl
      exact ⟨v, _, .inl ⟨hwo, h3⟩, hk, hF.put hd (by simp only [SV.lt]; exact fun _ => h1) (by simp only [den]; exact ⟨fun _ => h2, fun hh => by cases hh⟩)⟩
    | false =>
      exact ⟨undef, _, .inr ⟨hwo, rfl⟩, hk, hF.put hd (by simp only [SV.lt]; exact fun hh => by cases hh) (by simp [den])⟩

/-- The effect case of a step. -/
theorem stp_eff {X : Cx} {β : Env} {H : AH} {w : World} (hS : St X β H w) {W Wq : List Nat} {dr : Bool} {fr : Fr} {a : Act} (hF : FrOk X β H.nxt fr a) {ops : Array Oper} {o : Oper} (hd : ∀ t, o.dst = some t → t < X.n) {K : Fr → AH → Prop} (hq : isQ o.op = false)
    (h : stp X.P X.wrap X.m0 dr W Wq ops o fr H K) {Q : Exit → Act → World → Prop} :
    if Region.wanted o (yielded ops a.tmps) then o.wp X.P a w (fun a' w' => ∃ β' fr' H', K fr' H' ∧ FrOk X β' H'.nxt fr' a' ∧ St X β' H' w' ∧ Env.agree H.nxt β β' ∧ H.nxt ≤ H'.nxt ∧ Sub H H' ∧ (dr = true → Kp w (inW β H W) w')) Q
    else ∃ fr', K fr' H ∧ FrOk X β H.nxt fr' (a.put o.dst undef) := by
  have eff : ∀ (k : SV → AH → Prop), (∀ s H', k s H' → K (put o.dst s fr) H') → eop X.P X.m0 dr W H fr o.op k → o.wp X.P a w (fun a' w' => ∃ β' fr' H', K fr' H' ∧ FrOk X β' H'.nxt fr' a' ∧ St X β' H' w' ∧ Env.agree H.nxt β β' ∧ H.nxt ≤ H'.nxt ∧ Sub H H' ∧ (dr = true → Kp w (inW β H W) w')) Q := fun k hk he => by
    refine Oper.wp_mono (fun a' w' hp => ?_) (eop_ok (Q := Q) hS hF he)
    obtain ⟨v, rfl, ⟨β', s, H', h1, h2, h3, h4, h5, h6, h7⟩, h8⟩ := hp
    exact ⟨β', _, H', hk _ _ h1, (hF.agree h6 h5).put hd h3 h2, h4, h5, h6, h7, h8⟩
  unfold stp at h
  split at h
  · rename_i hg
    rw [if_pos (by simp [Region.wanted, hg])]
    rw [if_neg (by rw [hq]; exact Bool.false_ne_true)] at h
    exact eff _ (fun s H' hk => hk) h
  · rename_i g hg
    obtain ⟨G, hG, hw⟩ := grdK_ok hF h
    have hwo := hw o hg
    rw [if_neg (by rw [hq]; exact Bool.false_ne_true)] at hG
    cases G with
    | true =>
      rw [if_pos hwo]
      exact eff _ (fun s H' hk => hk) (hG.1 rfl)
    | false =>
      rw [if_neg (by rw [hwo]; exact Bool.false_ne_true)]
      obtain ⟨s, hs⟩ := hG.2 rfl
      exact ⟨_, hs, hF.put hd (by simp only [SV.lt]; exact fun hh => by cases hh) (by simp [den])⟩

theorem Kp.trans {a b c : World} {B : Nat → Prop} (h : Kp a B b) (h' : Kp b B c) : Kp a B c :=
  ⟨Nat.le_trans h.1 h'.1, fun k hk hn => (h'.2 k (Nat.lt_of_lt_of_le hk h.1) hn).trans (h.2 k hk hn)⟩

theorem runO_ok {X : Cx} {ops : Array Oper} {K : Fr → AH → Prop} {Q : Exit → Act → World → Prop} (hQ : ∀ a w, At X K a w → Q .normal a w) (hQp : ∀ c a w, ¬ Q (.panic c) a w) {A Wf Uq : List (List Nat)}
    (hns : Region.noSelect ops = true) (hA : afterOk ops A = true) (hE : effOk ops A Wf Uq = true) {w1 : World} {β1 : Env} {H1 : AH} (hWn : ∀ j, ∀ id ∈ Wf.getD j [], id < H1.nxt) :
    ∀ (l : List (Nat × Oper)) (listed : Array Bool) (dirty : Bool) {β : Env} {H : AH} {w : World} {fr : Fr} {a : Act}, (∀ x ∈ l, ops[x.1]? = some x.2) → dstOk X.n (l.map (·.2)) = true → sched ops l listed dirty = true → Closed ops listed →
      St X β H w → FrOk X β H.nxt fr a → (dirty = false → w = w1 ∧ β = β1 ∧ H = H1) → Env.agree H1.nxt β1 β → H1.nxt ≤ H.nxt → Sub H1 H →
      runO X.P X.wrap X.m0 Wf Uq ops l fr H K → wpAnyG X.P ops Q (fun j w w' => Kp w (inW β1 H1 (Wf.getD j [])) w') (isqAt ops) l.length listed a w
  | [], listed, dirty, β, H, w, fr, a, _, _, hs, _, hS, hF, _, _, _, _, h => ⟨by simpa [sched] using hs, hQ _ _ ⟨β, fr, H, h, hF, hS⟩⟩
  | (i, o) :: l, listed, dirty, β, H, w, fr, a, hl, hdst, hs, hcl, hS, hF, hnd, hag, hle, hsub, h => by
    have hio : ops[i]? = some o := hl _ (List.mem_cons_self ..)
    have hl' : ∀ x ∈ l, ops[x.1]? = some x.2 := fun x hx => hl x (List.mem_cons_of_mem _ hx)
    have hdst' : dstOk X.n (l.map (·.2)) = true := by simp only [List.map_cons, dstOk, List.all_cons, Bool.and_eq_true] at hdst ⊢; exact hdst.2
    have hdo : ∀ t, o.dst = some t → t < X.n := dstOk_spec hdst (by simp)
    simp only [sched, Bool.and_eq_true] at hs
    obtain ⟨hs1, hs2⟩ := hs
    simp only [runO] at h
    cases hq : isQ o.op with
    | true =>
      rw [hq] at hs1 hs2
      simp only [if_true, Bool.not_true, Bool.or_false] at hs1 hs2
      have hisq : isqAt ops i = true := by unfold isqAt; rw [hio]; exact hq
      -- the rest, once the operation has yielded
      have rest : ∀ v fr', i ∈ Region.ready .any ops listed → runO X.P X.wrap X.m0 Wf Uq ops l fr' H K → FrOk X β H.nxt fr' (a.put o.dst v) → wpAnyG X.P ops Q (fun j w w' => Kp w (inW β1 H1 (Wf.getD j [])) w') (isqAt ops) l.length (listed.setIfInBounds i true) (a.put o.dst v) w :=
        fun v fr' hr hk hF' => runO_ok (w1 := w1) hQ hQp hns hA hE hWn l _ dirty hl' hdst' hs2 (hcl.set hr) hS hF' hnd hag hle hsub hk
      by_cases hforced : dirty = true ∧ isLoad o.op = true
      · rw [if_pos hforced] at hs1
        have hrd : Region.ready .any ops listed = [i] := by simpa using hs1
        obtain ⟨v, fr', hy, hk, hF'⟩ := stp_quiet (C := fun w' => w' = w) hS hF hdo hq (fun _ _ _ w' hw' => by rw [hw']; exact Kp.refl _ _) h
        refine ⟨fun h0 => (by rw [hrd] at h0; cases h0), fun j hj => ?_⟩
        rw [hrd] at hj
        have hji : j = i := by simpa using hj
        subst hji
        exact hy.wpOp hio rfl ⟨⟨fun _ => rfl, Kp.refl _ _⟩, rest v fr' (by rw [hrd]; simp) hk hF'⟩
      · rw [if_neg hforced] at hs1
        simp only [Bool.and_eq_true] at hs1
        obtain ⟨hr, hfree⟩ := hs1
        have hr' : i ∈ Region.ready .any ops listed := by simpa using hr
        have hiun := (mem_ready.1 hr').1
        by_cases hld : isLoad o.op = true
        · -- a load, before all effects
          have hdf : dirty = false := by
            cases dirty with
            | false => rfl
            | true => simp [hld] at hforced
          obtain ⟨rfl, rfl, rfl⟩ := hnd hdf
          obtain ⟨v, fr', hy, hk, hF'⟩ := stp_quiet (C := Kp w (inW β H (Uq.getD i []))) hS hF hdo hq (fun _ _ _ w' hw' => hw') h
          refine wpAnyG_first (T := Kp w (inW β H (Uq.getD i []))) hio hisq (Region.noSelect_spec hns) (fun c a w hh => absurd hh (hQp c _ w)) ?_ (fun _ => Kp.refl _ _) l.length listed a w hcl (Region.free_spec hio hfree) hr' hy (Kp.refl _ _) (rest v fr' hr' hk hF')
          intro listed' hcl' hun j hj hji w2 w3 hT hjq hSw
          by_cases hjq1 : isqAt ops j = true
          · rw [hjq hjq1]
            exact hT
          · -- what changes the world here writes what the load does not read
            obtain ⟨_, oj, hoj, hall⟩ := mem_ready.1 hj
            have hjs : j < ops.size := (Array.getElem?_eq_some_iff.1 hoj).1
            have his : i < ops.size := (Array.getElem?_eq_some_iff.1 hio).1
            have h1 := List.all_eq_true.1 hE j (List.mem_range.2 hjs)
            simp only [hoj, Bool.or_eq_true] at h1
            rcases h1 with h1 | h1
            · exact absurd (by unfold isqAt; rw [hoj]; exact h1) hjq1
            · have h2 := List.all_eq_true.1 h1 i (List.mem_range.2 his)
              simp only [Bool.or_eq_true] at h2
              rcases h2 with h2 | h2
              · exfalso
                have h3 := afterOk_listed hA hcl' (j + 1) j (Nat.lt_succ_self _) oj hoj hall i (by simpa using h2)
                rw [getD_down hun] at h3
                cases h3
              · exact hT.trans (hSw.mono fun b hb => hb.mono fun id hid => by simpa using List.all_eq_true.1 h2 id hid)
        · -- no load: it yields in every world
          obtain ⟨v, fr', hy, hk, hF'⟩ := stp_quiet (C := fun _ => True) hS hF hdo hq (fun t x he => by rw [he] at hld; exact absurd rfl hld) h
          exact wpAnyG_first (T := fun _ => True) hio hisq (Region.noSelect_spec hns) (fun c a w hh => absurd hh (hQp c _ w)) (fun _ _ _ _ _ _ _ _ _ _ _ => trivial) (fun _ => Kp.refl _ _) l.length listed a w hcl (Region.free_spec hio hfree) hr' hy trivial (rest v fr' hr' hk hF')
    | false =>
      rw [hq] at hs1 hs2
      simp only [Bool.false_eq_true, if_false, Bool.not_false, Bool.or_true] at hs1 hs2
      have hrd : Region.ready .any ops listed = [i] := by simpa using hs1
      have hisq : isqAt ops i = false := by unfold isqAt; rw [hio]; exact hq
      have hcl2 := hcl.set (i := i) (by rw [hrd]; simp)
      refine ⟨fun h0 => (by rw [hrd] at h0; cases h0), fun j hj => ?_⟩
      rw [hrd] at hj
      have hji : j = i := by simpa using hj
      subst hji
      have he := stp_eff (Q := Q) hS hF hdo hq h
      unfold wpOp
      rw [hio]
      simp only
      split at he
      · rename_i hw
        rw [if_pos hw]
        refine .inl (Oper.wp_mono (fun a' w' hp => ?_) he)
        obtain ⟨β', fr', H', hk, hF', hS', hag', hle', hsub', hkp'⟩ := hp
        have hkp2 : Kp w (inW β1 H1 (Wf.getD j [])) w' := (hkp' rfl).mono fun b hin => by
          obtain ⟨id, k, o', L, hm, hlk, how, hbb, hblk⟩ := hin
          obtain ⟨o0, q1, q2⟩ := hsub id k o' (hWn j id hm) hlk how
          exact ⟨id, k, o0, L, hm, q1, q2, by rw [← hag id k (hWn j id hm)]; exact hbb, hblk⟩
        exact ⟨⟨fun hh => (by rw [hisq] at hh; cases hh), hkp2⟩, runO_ok (w1 := w1) hQ hQp hns hA hE hWn l _ true hl' hdst' hs2 hcl2 hS' hF' (fun hh => by cases hh) (hag.trans hag' hle) (Nat.le_trans hle hle') (hsub.trans hsub' hle) hk⟩
      · rename_i hw
        rw [if_neg hw]
        obtain ⟨fr', hk, hF'⟩ := he
        exact ⟨⟨fun hh => (by rw [hisq] at hh; cases hh), Kp.refl _ _⟩, runO_ok (w1 := w1) hQ hQp hns hA hE hWn l _ true hl' hdst' hs2 hcl2 hS hF' (fun hh => by cases hh) hag hle hsub hk⟩

end Go.Sk
