/-
  A frame for walks, thirteenth part: rules for code; what a function does.
  Conditions: none; definitions and lemmas over any program.
-/
import Derived.Test.YtnkodcknbeahcaaSkL
set_option linter.unusedSimpArgs false
set_option linter.unusedVariables false
namespace Go.Sk
open Go.RowKit

/-- What holds where a piece of code is left, in terms of what is known. -/
def lift (X : Cx) (Q : Exit → Fr → AH → Prop) : Exit → Act → World → Prop
  | .panic _, _, _ => False
  | .outgrown, _, _ => False
  | e, a, w => At X (Q e) a w

/-- A piece of code, begun where (fr, H) is known. -/
def Cw (X : Cx) (c : Code) (Q : Exit → Fr → AH → Prop) (fr : Fr) (H : AH) : Prop :=
  ∀ β a w, FrOk X β H.nxt fr a → St X β H w → c.wp X.P (lift X Q) a w

def thenK (K : Fr → AH → Prop) (Q : Exit → Fr → AH → Prop) : Exit → Fr → AH → Prop
  | .normal, fr, H => K fr H
  | e, fr, H => Q e fr H

def inBlk (id : Nat) (Q : Exit → Fr → AH → Prop) : Exit → Fr → AH → Prop
  | .exit id', fr, H => if id' = id then Q .normal fr H else Q (.exit id') fr H
  | e, fr, H => Q e fr H

section
variable {X : Cx} {Q : Exit → Fr → AH → Prop} {fr : Fr} {H : AH}

theorem Cw.mono {c : Code} {Q' : Exit → Fr → AH → Prop} (h : Cw X c Q fr H) (hq : ∀ e fr H, Q e fr H → Q' e fr H) : Cw X c Q' fr H := fun β a w hF hS =>
  Code.wp_mono (fun e a w h => by
    cases e <;> first | exact h | (obtain ⟨β, fr, H, h1, h2⟩ := h; exact ⟨β, fr, H, hq _ _ _ h1, h2⟩)) (h β a w hF hS)

theorem Cw.seq {x y : Code} (h : ∀ K : Fr → AH → Prop, (∀ fr H, Cw X y Q fr H → K fr H) → Cw X x (thenK K Q) fr H) : Cw X (.seq x y) Q fr H := fun β a w hF hS => by
  refine wp_seq (Code.wp_mono (fun e a w hh => ?_) (h (fun fr H => Cw X y Q fr H) (fun _ _ h => h) β a w hF hS))
  cases e with
  | normal =>
    obtain ⟨β', fr', H', h1, h2, h3⟩ := hh
    exact h1 β' a w h2 h3
  | _ => exact hh

theorem Cw.skip (h : Q .normal fr H) : Cw X .skip Q fr H := fun β _ _ hF hS => wp_skip ⟨β, fr, H, h, hF, hS⟩
theorem Cw.exit {id : Nat} (h : Q (.exit id) fr H) : Cw X (.exit id) Q fr H := fun β _ _ hF hS => wp_exit ⟨β, fr, H, h, hF, hS⟩
theorem Cw.ret (h : Q .ret fr H) : Cw X .ret Q fr H := fun β _ _ hF hS => wp_ret ⟨β, fr, H, h, hF, hS⟩

theorem Cw.block {id : Nat} {c : Code} (h : Cw X c (inBlk id Q) fr H) : Cw X (.block id c) Q fr H := fun β a w hF hS => by
  refine wp_block (Code.wp_mono (fun e a w hh => ?_) (h β a w hF hS))
  cases e with
  | exit id' =>
    obtain ⟨β', fr', H', h1, h2⟩ := hh
    simp only [inBlk] at h1
    simp only [Exit.inBlock]
    split at h1
    · rename_i he
      rw [if_pos he]
      exact ⟨β', fr', H', h1, h2⟩
    · rename_i he
      rw [if_neg he]
      exact ⟨β', fr', H', h1, h2⟩
  | _ => exact hh

/-- A test, on a slot that holds the Bool b. -/
theorem Cw.cond {t : Tmp} {x y : Code} {b : Bool} (hb : get fr t = some (.bool b)) (h1 : b = true → Cw X x Q fr H) (h2 : b = false → Cw X y Q fr H) : Cw X (.cond (.tmp t) x y) Q fr H := fun β a w hF hS => by
  obtain ⟨_, v, hv, hd⟩ := hF.get _ _ hb
  simp only [den] at hd
  have he : a.eval (.tmp t) = .bool b := by simp [Act.eval, Array.getD_eq_getD_getElem?, hv, hd]
  exact wp_cond_split he (fun h => h1 h β a w hF hS) (fun h => h2 h β a w hF hS)

theorem At.wpl {K : Fr → AH → Prop} {a : Act} {w : World} (h : At X K a w) : lift X (fun _ => K) .normal a w := h

/-- A region in the order of its text. -/
theorem Cw.region {id : Nat} {ops : Array Oper} (hd : dstOk X.n ops.toList = true) (h : runL X.P X.wrap X.m0 ops ops.toList fr H (Q .normal)) : Cw X (.region id ops false) Q fr H := fun _ _ _ hF hS =>
  wp_region_list (runL_ok (K := Q .normal) (fun _ _ h => h) _ hd hS hF h)

theorem St.drew {β : Env} {w : World} (hS : St X β H w) : St X β H w.drew := hS.ext Below.drew'

/-- A region that draws its order, walked in the order 'ord'. -/
theorem Cw.regionDraw {id : Nat} {ops : Array Oper} (ord : List Nat) (A Wf Uq : List (List Nat)) (hm : X.P.follows .mixedOrders = true)
    (hd : dstOk X.n ops.toList = true) (hlen : ord.length = ops.size) (hlt : ord.all (fun i => decide (i < ops.size)) = true) (hns : Region.noSelect ops = true) (hA : afterOk ops A = true) (hE : effOk ops A Wf Uq = true) (hWn : Wf.all (fun l => l.all fun i => decide (i < H.nxt)) = true)
    (hs : sched ops (ord.map fun i => (i, ops.getD i default)) (Array.replicate ops.size false) false = true)
    (h : runO X.P X.wrap X.m0 Wf Uq ops (ord.map fun i => (i, ops.getD i default)) fr H (Q .normal)) : Cw X (.region id ops true) Q fr H := fun β a w hF hS => by
  refine wp_region_any hm (wpAny_of_G (S := fun j w w' => Kp w (inW β H (Wf.getD j [])) w') (isq := isqAt ops) _ _ _ _ ?_)
  have hall : ∀ i ∈ ord, i < ops.size := fun i hi => by simpa using List.all_eq_true.1 hlt i hi
  have hget : ∀ i ∈ ord, ops[i]? = some (ops.getD i default) := fun i hi => by
    have := hall i hi
    simp [Array.getD, this]
  have := runO_ok (X := X) (ops := ops) (K := Q .normal) (Q := lift X Q) (fun _ _ h => h) (fun _ _ _ h => h) hns hA hE (w1 := w.drew) (β1 := β) (H1 := H) (fun j id hid => by
      rcases Nat.lt_or_ge j Wf.length with hj | hj
      · rw [List.getD, List.getElem?_eq_getElem hj] at hid
        simpa using List.all_eq_true.1 (List.all_eq_true.1 hWn _ (List.getElem_mem hj)) id hid
      · rw [List.getD, List.getElem?_eq_none hj] at hid
        cases hid)
    (ord.map fun i => (i, ops.getD i default)) (Array.replicate ops.size false) false (a := a) (fun x hx => by
      obtain ⟨i, hi, rfl⟩ := List.mem_map.1 hx
      exact hget i hi) (by
      refine List.all_eq_true.2 fun o ho => ?_
      obtain ⟨x, hx, rfl⟩ := List.mem_map.1 ho
      obtain ⟨i, hi, rfl⟩ := List.mem_map.1 hx
      have h0 := hget i hi
      have h1 : (ops.getD i default) ∈ ops.toList := by
        have := Array.mem_of_getElem? h0
        simpa using this
      exact List.all_eq_true.1 hd _ h1) hs (fun j oj _ hl => by
      exfalso
      rcases Nat.lt_or_ge j ops.size with h' | h'
      · simp [h'] at hl
      · simp [h'] at hl) hS.drew hF (fun _ => ⟨rfl, rfl, rfl⟩) (Env.agree.refl _ _) (Nat.le_refl _) (Sub.refl _) h
  rw [List.length_map, hlen] at this
  exact this

end

end Go.Sk
