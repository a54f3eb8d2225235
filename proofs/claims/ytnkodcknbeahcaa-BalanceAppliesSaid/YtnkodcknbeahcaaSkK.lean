/-
  A frame for walks, eleventh part: calls; all operations that change the world; a region in the order of its text.
  Conditions: none; definitions and lemmas over any program.
-/
import Derived.Test.YtnkodcknbeahcaaSkJ
set_option linter.unusedSimpArgs false
set_option linter.unusedVariables false
namespace Go.Sk
open Go.RowKit

/-- The function has a body: a call enters it. -/
def Ent (P : Program) (f : FuncId) : Prop := ∀ as w, (callFunc f as).run P w = .ok (.enter f as) w

/-- What a call of a function does, where H is known: R of its value and of what is known behind it; of the objects in H it writes those in Wc alone. -/
def ASpec (P : Program) (f : FuncId) (args : List SV) (H : AH) (Wc : List Nat) (R : SV → AH → Prop) : Prop :=
  Ent P f ∧ ∀ (X : Cx) (β : Env) (w : World) (vs : List Value), X.P = P → St X β H w → denL β args vs → SV.ltL H.nxt args →
    Calls P f vs.toArray w fun e w' => ∃ v, e = .returned v ∧ Aft X β H w R v w' ∧ Kp w (inW β H Wc) w'

def callK (P : Program) (f : FuncId) (args : List SV) (H : AH) (dr : Bool) (W : List Nat) (k : SV → AH → Prop) : Prop :=
  ∃ Wc R, ASpec P f args H Wc R ∧ (dr = true → ∀ id, id ∈ Wc → id ∈ W) ∧ ∀ s H', R s H' → k s H'

theorem Kp.mono {w w' : World} {B B' : Nat → Prop} (h : Kp w B w') (hb : ∀ b, B b → B' b) : Kp w B' w' := ⟨h.1, fun b hl hn => h.2 b hl fun hB => hn (hb b hB)⟩
theorem Kp.of_below {w w' : World} {B : Nat → Prop} (h : Below w.heap.size w w') : Kp w B w' := ⟨h.size, fun b hl _ => h.block b hl⟩
theorem inW.mono {β : Env} {H : AH} {W W' : List Nat} (h : ∀ id, id ∈ W → id ∈ W') {b : Nat} (hb : inW β H W b) : inW β H W' b := by
  obtain ⟨id, k, o, L, h1, h2⟩ := hb
  exact ⟨id, k, o, L, h _ h1, h2⟩

def eop (P : Program) (m0 : Nat) (dr : Bool) (W : List Nat) (H : AH) (fr : Fr) (op : Op) (k : SV → AH → Prop) : Prop :=
  match op with
  | .alloc e => allocK P H e k
  | .box e x => opdK fr true x fun s => boxK H e s k
  | .buildSlice t len ps => partsK fr true ps.toList fun ss => bsliceK P H t len ss k
  | .store t x y => opdK fr true x fun sa => opdK fr true y fun sv => storeK P H dr W t sa sv k
  | .makeSlice t l c => opdK fr true l fun sl => opdK fr true c fun sc => mkK P H t sl sc k
  | .call c =>
    match c.callee, c.args, c.argTypes with
    | .builtin .append, ⟨[x, y]⟩, ⟨[t, t']⟩ => opdK fr true x fun sx => opdK fr true y fun sy => appendK P m0 dr W H t t' sx sy k
    | .value f, args, _ => opdK fr true f fun sf => opdsK fr true args.toList fun as =>
      match sf with
      | .fn fid cap => callK P fid (as ++ cap) H dr W k
      | _ => False
    | _, _, _ => False
  | _ => False

/-- What holds behind an operation. -/
def EPost (X : Cx) (β : Env) (H : AH) (w : World) (W : List Nat) (dr : Bool) (d : Option Tmp) (a : Act) (k : SV → AH → Prop) (a' : Act) (w' : World) : Prop :=
  ∃ v, a' = a.put d v ∧ Aft X β H w k v w' ∧ (dr = true → Kp w (inW β H W) w')

theorem eop_ok {X : Cx} {β : Env} {H : AH} {w : World} (hS : St X β H w) {W : List Nat} {dr : Bool} {fr : Fr} {a : Act} (hF : FrOk X β H.nxt fr a) {o : Oper} {k : SV → AH → Prop} (h : eop X.P X.m0 dr W H fr o.op k) {Q : Exit → Act → World → Prop} :
    o.wp X.P a w (EPost X β H w W dr o.dst a k) Q := by
  have val : ∀ (e : Sem Value) (v : Value) (w' : World), execOp a.eval o = (do pure (.value (← e))) → e.run X.P w = .ok v w' → Aft X β H w k v w' → (dr = true → Kp w (inW β H W) w') → o.wp X.P a w (EPost X β H w W dr o.dst a k) Q := fun e v w' he hr hA hK => by
    unfold Oper.wp
    rw [he]
    simp only [Sem.run_bind, hr, Result.andThen_ok, Sem.run_pure, Oper.upon]
    exact ⟨v, rfl, hA, hK⟩
  unfold eop at h
  split at h
  · rename_i e hop
    obtain ⟨v, w', hr, hA, hB⟩ := allocK_ok hS h
    exact val _ v w' (by simp only [execOp, hop]) hr hA fun _ => .of_below hB
  · rename_i e x hop
    obtain ⟨s, h1, hx⟩ := opdK_ok hF h
    obtain ⟨v, w', hr, hA, hB⟩ := boxK_ok hS h1 (hx rfl).1 (hx rfl).2
    exact val _ v w' (by simp only [execOp, hop]) hr hA fun _ => .of_below hB
  · rename_i t len ps hop
    obtain ⟨ss, h1, he, hs⟩ := partsK_ok hF h
    obtain ⟨v, w', hr, hA, hB⟩ := bsliceK_ok (pv := (ps.toList.map fun p => (p.1, a.eval p.2))) hS h1 (by rw [he, List.map_map]; rfl) (by rw [List.map_map]; exact (hs rfl).1) (hs rfl).2
    refine val _ v w' ?_ hr hA fun _ => .of_below hB
    simp only [execOp, hop]
    have : (ps.map fun x => (x.1, a.eval x.2)) = (ps.toList.map fun p => (p.1, a.eval p.2)).toArray := by
      rw [← List.map_toArray]
    rw [← this]
  · rename_i t x y hop
    obtain ⟨sa, h1, hx⟩ := opdK_ok hF h
    obtain ⟨sv, h2, hy⟩ := opdK_ok hF h1
    obtain ⟨w', hr, hA, hK⟩ := storeK_ok hS h2 (hx rfl).1 (hy rfl).1 (hy rfl).2
    unfold Oper.wp
    simp only [execOp, hop, Sem.run_bind, hr, Result.andThen_ok, Sem.run_pure, Oper.upon]
    exact ⟨undef, rfl, hA, hK⟩
  · rename_i t l c hop
    obtain ⟨sl, h1, hl⟩ := opdK_ok hF h
    obtain ⟨sc, h2, hc⟩ := opdK_ok hF h1
    obtain ⟨v, w', hr, hA, hB⟩ := mkK_ok hS h2 (hl rfl).1 (hc rfl).1
    exact val _ v w' (by simp only [execOp, hop]) hr hA fun _ => .of_below hB
  · rename_i c hop
    split at h
    · rename_i x y t t' hc1 hc2 hc3
      obtain ⟨sx, h1, hx⟩ := opdK_ok hF h
      obtain ⟨sy, h2, hy⟩ := opdK_ok hF h1
      obtain ⟨v, w', hr, hA, hK⟩ := appendK_ok (ty := o.type) hS h2 (hx rfl).1 (hy rfl).1
      unfold Oper.wp
      simp only [execOp, hop, resolve, hc1, hc2, hc3, Sem.run_bind, Sem.run_pure, Result.andThen_ok, invoke, builtin, List.map_toArray, List.map_cons, List.map_nil, hr, Oper.upon]
      exact ⟨v, rfl, hA, hK⟩
    · rename_i f args hc1
      obtain ⟨sf, h1, hf⟩ := opdK_ok hF h
      obtain ⟨as, h2, ha⟩ := opdsK_ok hF h1
      split at h2
      · rename_i fid cap
        obtain ⟨Wc, R, ⟨hent, hsp⟩, hW, hR⟩ := h2
        have hfd := (hf rfl).1
        have hfl := (hf rfl).2
        simp only [den, SV.lt] at hfd hfl
        obtain ⟨cvs, hcv, hfe⟩ := hfd
        have hargs : c.args.map a.eval ++ cvs.toArray = ((c.args.toList.map a.eval) ++ cvs).toArray := by
          apply Array.ext'; simp
        have hC := hsp X β w ((c.args.toList.map a.eval) ++ cvs) rfl hS (denL_append (ha rfl).1 hcv) (SV.ltL_of_get fun j s hs => by
          rcases List.mem_append.1 (List.mem_of_getElem? hs) with hm | hm
          · obtain ⟨q, hq⟩ := List.getElem?_of_mem hm
            exact SV.ltL_get (ha rfl).2 q s hq
          · obtain ⟨q, hq⟩ := List.getElem?_of_mem hm
            exact SV.ltL_get hfl q s hq)
        unfold Oper.wp
        have hrun : (execOp a.eval o).run X.P w = .ok (.enter fid ((c.args.toList.map a.eval) ++ cvs).toArray) w := by
          simp only [execOp, hop, resolve, hc1, Sem.run_bind, hfe, Deferred.ofValue, Sem.run_pure, Result.andThen_ok, invoke, Array.empty_append]
          rw [hargs]
          exact hent _ _
        rw [hrun]
        simp only [Oper.upon]
        refine hC.mono fun e w' ⟨v, he, hA, hK⟩ => ?_
        subst he
        obtain ⟨β', s, H', hr, q⟩ := hA
        exact ⟨v, rfl, ⟨β', s, H', hR _ _ hr, q⟩, fun hdr => hK.mono fun b hb => hb.mono (hW hdr)⟩
      · exact h2.elim
    · exact h.elim
  · exact h.elim

/-! ### A region in the order of its text -/
/-- Does the operation leave the world alone? -/
def isQ : Op → Bool
  | .move _ | .assign _ | .pick .. | .load .. | .nilCheck _ | .binOp .. | .unOp .. | .convert .. | .fieldAddr .. | .field .. | .indexAddr .. | .index .. | .slice .. | .extract .. | .makeFunc .. | .build .. => true
  | .call { callee := .builtin .len, .. } | .call { callee := .builtin .max, .. } | .call { callee := .builtin .min, .. } => true
  | _ => false

/-- The condition of a guarded operation. -/
def grdK (ops : Array Oper) (fr : Fr) (g : Nat × Bool) (k : Bool → Prop) : Prop :=
  match ops[g.1]? with
  | some o =>
    match o.dst with
    | some t =>
      match get fr t with
      | some (.bool b) => k (b == g.2)
      | some (.gd g' (.bool b)) => k (g' && (b == g.2))
      | _ => False
    | none => False
  | none => False

/-- One operation. -/
def stp (P : Program) (wr : Bool) (m0 : Nat) (dr : Bool) (W Wq : List Nat) (ops : Array Oper) (o : Oper) (fr : Fr) (H : AH) (K : Fr → AH → Prop) : Prop :=
  match o.guard with
  | none => if isQ o.op then qop P wr H Wq fr true o.op (fun s => K (put o.dst s fr) H) else eop P m0 dr W H fr o.op (fun s H' => K (put o.dst s fr) H')
  | some g => grdK ops fr g fun G =>
    if isQ o.op then qop P wr H Wq fr G o.op (fun s => K (put o.dst (.gd G s) fr) H)
    else (G = true → eop P m0 dr W H fr o.op (fun s H' => K (put o.dst s fr) H')) ∧ (G = false → ∃ s, K (put o.dst (.gd false s) fr) H)

def runL (P : Program) (wr : Bool) (m0 : Nat) (ops : Array Oper) : List Oper → Fr → AH → (Fr → AH → Prop) → Prop
  | [], fr, H, K => K fr H
  | o :: l, fr, H, K => stp P wr m0 false [] [] ops o fr H (fun fr' H' => runL P wr m0 ops l fr' H' K)

/-- What is known at a point. -/
def At (X : Cx) (K : Fr → AH → Prop) (a : Act) (w : World) : Prop := ∃ β fr H, K fr H ∧ FrOk X β H.nxt fr a ∧ St X β H w

theorem grdK_ok {X : Cx} {β : Env} {m : Nat} {fr : Fr} {a : Act} (hF : FrOk X β m fr a) {ops : Array Oper} {g : Nat × Bool} {k : Bool → Prop} (h : grdK ops fr g k) :
    ∃ G, k G ∧ ∀ o : Oper, o.guard = some g → Region.wanted o (yielded ops a.tmps) = G := by
  obtain ⟨j, want⟩ := g
  unfold grdK at h
  split at h
  · rename_i oj hoj
    split at h
    · rename_i t ht
      split at h
      · rename_i b hg
        refine ⟨_, h, fun o ho => ?_⟩
        obtain ⟨_, v, hv, hd⟩ := hF.get _ _ hg
        simp only [den] at hd
        subst hd
        simp only [Region.wanted, ho, yielded, hoj, Option.bind_some, ht, hv]
        cases b <;> cases want <;> rfl
      · rename_i g' b hg
        refine ⟨_, h, fun o ho => ?_⟩
        obtain ⟨_, v, hv, hd⟩ := hF.get _ _ hg
        simp only [den] at hd
        cases g' with
        | true =>
          have := hd.1 rfl
          subst this
          simp only [Region.wanted, ho, yielded, hoj, Option.bind_some, ht, hv]
          cases b <;> cases want <;> rfl
        | false =>
          have := hd.2 rfl
          subst this
          simp only [Region.wanted, ho, yielded, hoj, Option.bind_some, ht, hv, undef]
          rfl
      · exact h.elim
    · exact h.elim
  · exact h.elim

theorem stp_ok {X : Cx} {β : Env} {H : AH} {w : World} (hS : St X β H w) {W : List Nat} {dr : Bool} {fr : Fr} {a : Act} (hF : FrOk X β H.nxt fr a) {ops : Array Oper} {o : Oper} (hd : ∀ t, o.dst = some t → t < X.n) {K : Fr → AH → Prop}
    (h : stp X.P X.wrap X.m0 dr W [] ops o fr H K) {Q : Exit → Act → World → Prop} :
    if Region.wanted o (yielded ops a.tmps) then o.wp X.P a w (At X K) Q else At X K (a.put o.dst undef) w := by
  have quiet : ∀ (G : Bool) (k : SV → Prop), qop X.P X.wrap H [] fr G o.op k → ∃ s, k s ∧ (G = true → s.lt H.nxt ∧ ∃ v, den β s v ∧ (execOp a.eval o).run X.P w = .ok (.value v) w) := fun G k hq => by
    obtain ⟨s, hk, hg⟩ := qop_ok (C := fun w' => w' = w) hS hF (fun _ _ _ w' hw' => by rw [hw']; exact Kp.refl _ _) hq
    exact ⟨s, hk, fun hG => by
      obtain ⟨h1, v, h2, h3⟩ := hg hG
      exact ⟨h1, v, h2, h3 w rfl⟩⟩
  have eff : ∀ (k : SV → AH → Prop), (∀ s H', k s H' → K (put o.dst s fr) H') → eop X.P X.m0 dr W H fr o.op k → o.wp X.P a w (At X K) Q := fun k hk he => by
    refine Oper.wp_mono (fun a' w' hp => ?_) (eop_ok (Q := Q) hS hF he)
    obtain ⟨v, rfl, ⟨β', s, H', h1, h2, h3, h4, h5, h6, _⟩, _⟩ := hp
    exact ⟨β', _, H', hk _ _ h1, (hF.agree h6 h5).put hd h3 h2, h4⟩
  unfold stp at h
  split at h
  · rename_i hg
    rw [if_pos (by simp [Region.wanted, hg])]
    split at h
    · obtain ⟨s, hk, hs⟩ := quiet _ _ h
      obtain ⟨h1, v, h2, h3⟩ := hs rfl
      unfold Oper.wp
      rw [h3]
      exact ⟨β, _, H, hk, hF.put hd h1 h2, hS⟩
    · exact eff _ (fun s H' hk => hk) h
  · rename_i g hg
    obtain ⟨G, hG, hw⟩ := grdK_ok hF h
    have hwo := hw o hg
    split at hG
    · obtain ⟨s, hk, hs⟩ := quiet _ _ hG
      cases G with
      | true =>
        rw [if_pos hwo]
        obtain ⟨h1, v, h2, h3⟩ := hs rfl
        unfold Oper.wp
        rw [h3]
        exact ⟨β, _, H, hk, hF.put hd (by simp only [SV.lt]; exact fun _ => h1) (by simp only [den]; exact ⟨fun _ => h2, fun hh => by cases hh⟩), hS⟩
      | false =>
        rw [if_neg (by rw [hwo]; exact Bool.false_ne_true)]
        exact ⟨β, _, H, hk, hF.put hd (by simp only [SV.lt]; exact fun hh => by cases hh) (by simp [den]), hS⟩
    · cases G with
      | true =>
        rw [if_pos hwo]
        exact eff _ (fun s H' hk => hk) (hG.1 rfl)
      | false =>
        rw [if_neg (by rw [hwo]; exact Bool.false_ne_true)]
        obtain ⟨s, hs⟩ := hG.2 rfl
        exact ⟨β, _, H, hs, hF.put hd (by simp only [SV.lt]; exact fun hh => by cases hh) (by simp [den]), hS⟩

/-- The slots that a region writes are there. -/
def dstOk (n : Nat) (l : List Oper) : Bool := l.all fun o => match o.dst with | some t => decide (t < n) | none => true

theorem dstOk_spec {n : Nat} {l : List Oper} (h : dstOk n l = true) {o : Oper} (ho : o ∈ l) : ∀ t, o.dst = some t → t < n := fun t ht => by
  have := List.all_eq_true.1 h o ho
  simp only [ht, decide_eq_true_eq] at this
  exact this

theorem runL_ok {X : Cx} {ops : Array Oper} {K : Fr → AH → Prop} {Q : Exit → Act → World → Prop} (hQ : ∀ a w, At X K a w → Q .normal a w) : ∀ (l : List Oper), dstOk X.n l = true → ∀ {β : Env} {H : AH} {w : World} {fr : Fr} {a : Act}, St X β H w → FrOk X β H.nxt fr a → runL X.P X.wrap X.m0 ops l fr H K → wpList X.P ops Q l a w
  | [], _, β, H, w, fr, a, hS, hF, h => wpList_nil (hQ _ _ ⟨β, fr, H, h, hF, hS⟩)
  | o :: l, hd, β, H, w, fr, a, hS, hF, h => by
    have hd' : dstOk X.n l = true := by simp only [dstOk, List.all_cons, Bool.and_eq_true] at hd ⊢; exact hd.2
    refine wpList_step fun K' hK' => ?_
    have := stp_ok (Q := Q) hS hF (dstOk_spec hd (List.mem_cons_self ..)) h
    have next : ∀ a w, At X (fun fr' H' => runL X.P X.wrap X.m0 ops l fr' H' K) a w → K' a w := fun a w ⟨β', fr', H', hr, hF', hS'⟩ => hK' _ _ (runL_ok hQ l hd' hS' hF' hr)
    split at this
    · rename_i hw
      rw [if_pos hw]
      exact Oper.wp_mono next this
    · rename_i hw
      rw [if_neg hw]
      exact next _ _ this

end Go.Sk
