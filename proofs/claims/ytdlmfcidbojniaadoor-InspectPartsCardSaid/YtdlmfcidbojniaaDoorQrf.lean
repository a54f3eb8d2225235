/-
  Walks and plain facts, joined: part 6 of 6.
  Conditions: those that each statement names.
-/
import Derived.Test.YtdlmfcidbojniaaDoorQre
set_option linter.unusedSimpArgs false
set_option linter.unusedVariables false
set_option maxRecDepth 4000
namespace Go.Proofs
open Go.Sk
def LB (n c : Nat) (l : List Lk) : Prop := l.length + c ≤ n + 20 ∧ ∀ i, (lk l i).lv.length + c ≤ 60
theorem LB.mono {n c c' : Nat} {l : List Lk} (h : LB n c l) (hc : c' ≤ c) : LB n c' l := ⟨by have := h.1; omega, fun i => by have := h.2 i; omega⟩
theorem LB.ok {n c : Nat} {l : List Lk} (h : LB n c l) : lvOk l := fun i _ => by have := h.2 i; omega
theorem lkR_renS (ρ : Nat → Nat) (g : Bool) (f : Nat) (ν : Nat → Nat) (l : List Lk) (i : Nat) : SV.renPL (shP ρ f (up ν)) (lkR g f l i) = [.int .i64 (lk l i).id, .slc g (ρ f) (ν i + 1) 0 (lk l i).lv.length] := by
 simp [lkR, SV.renPL, SV.renP, shP, up]
theorem lkF_givesI (π : Pn) (l l' : List Lk) (i j : Nat) (e : lk l' i = lk l j) : z24 π (lkF true l j) (lkF true l' i) := ⟨fun h2 => ⟨h2, rfl⟩, rfl, by rw [e]; exact Nat.le_refl _, fun q _ => by rw [e]; exact (lvs_renP π _ q).symm⟩
theorem lkF_givesL (π : Pn) (l l' : List Lk) (i j : Nat) (e : (lk l' i).lv.length ≤ (lk l j).lv.length) (h : ∀ q, q < (lk l' i).lv.length → pI (lk l' i).lv q = pI (lk l j).lv q) : z24 π (lkF true l j) (lkF true l' i) := ⟨fun h2 => ⟨h2, rfl⟩, rfl, e, fun q hq => by rw [lvs_renP]; show lvs (lk l j).lv q = lvs (lk l' i).lv q; rw [lvs, lvs, h q hq]⟩
theorem lkF_takeP (π : Pn) (l : List Lk) (k u i : Nat) (hk : k < l.length) : z24 π (lkF true l i) (lkF true (l.set k ⟨(lk l k).id, (lk l k).lv.take u⟩) i) := by
 refine lkF_givesL _ _ _ _ _ ?_ fun q hq => ?_
 ·rw [lk_set' _ _ _ _ hk]
  split
  ·rename_i e; subst e; simp; omega
  ·exact Nat.le_refl _
 ·rw [lk_set' _ _ _ _ hk] at hq ⊢
  split
  ·rename_i e; subst e;rw [if_pos rfl] at hq;simp at hq;dsimp only;rw [pI_lt (by simp; omega), pI_lt (by omega)]; simp
  ·rfl
theorem lk_erase {l : List Lk} {k i : Nat} (hi : i < l.length - 1) : lk (l.eraseIdx k) i = lk l (if i < k then i else i + 1) := by
 rw [lk, lk, List.getD_eq_getElem?_getD, List.getD_eq_getElem?_getD, List.getElem?_eraseIdx]
 split <;> rfl
theorem lb_set {n c : Nat} {l : List Lk} (h : LB n (c + 1) l) {k : Nat} (hk : k < l.length) {x : Lk} (hx : x.lv.length ≤ (lk l k).lv.length + 1) : LB n c (l.set k x) := by
 refine ⟨by rw [List.length_set]; have := h.1; omega, fun i => ?_⟩;rw [lk_set' _ _ _ _ hk]
 split
 ·have := h.2 k; omega
 ·have := h.2 i; omega
theorem rowsOf_lv1 (a b : Int) : z5t 2 1 [SV.int .i64 a, SV.int .i64 b] = lvs [(a, b)] := rowsOf_lv a b
theorem z6x {P : Program} {f : FuncId} {args args0 : List SV} {H0 H : AH} {R : SV → AH → Prop} {dr : Bool} {W : List Nat} {k : SV → AH → Prop} (hF : z1e P f args0 H0 R) (ρ : Nat → Nat)
  (hk : ∀ s0 H1, R s0 H1 → ∀ s1 H2, s1 = s0.ren (z4s H0.nxt H.nxt ρ) → H2 = after H0.nxt ρ H0 H H1 → k s1 H2)
  (a1 : SV.wkL args (SV.renL ρ args0) := by simp [SV.wkL, SV.wk, SV.renL, SV.ren, zk, zc, z9, ze, nds, Nd.sv, zb, za, zt, zu, zh, zj, zz, zg, zn, zi, zo, zp, z17, z12, z1l, ints]) (a2 : SV.ltL H.nxt (SV.renL ρ args0) := by simp [SV.renL, SV.ren, SV.ltL, SV.lt, zk, zc, z9, ze, nds, Nd.sv, zb, za, zt, zu, zh, zj, zz, zg, zn, zi, zo, zp, z17, z12, z1l, ints]) (a3 : SV.ltL H0.nxt args0 := by simp [SV.ltL, SV.lt, zk, zc, z9, ze, nds, Nd.sv, zb, za, zt, zu, zh, zj, zz, zg, zn, zi, zo, zp, z17, z12, z1l, ints])
  (a4 : (List.range H0.nxt).all (fun id => decide (ρ id < H.nxt)) = true := by exact rfl) (a5 : z18 ρ H0.nxt H.os H0.os := by simp [z18, Sk.find, Sk.one, zf.eq_1, zf.eq_2, zf.eq_3, z1d, z1x, SV.renL, SV.ren, Obj.lt_row, SV.ltL, SV.lt, zk, zc, z9, ze, nds, Nd.sv, zb, za, zt, zu, zh, zj, zz, zg, zn, zi, zo, zp, z17, z12, z1l, ints]) (a6 : z4y ρ H0.os = true := by exact rfl) (a7 : z1v H0.os := by simp [z1v, Sk.one, Obj.own.eq_1, Obj.own.eq_2, Obj.own.eq_3, Obj.own.eq_4, zk, zc, z9, ze, nds, Nd.sv, zb, za, zt, zu, zh, zj, zz, zg, zn, zi, zo, zp, z17, z12, z1l, ints])
  (a8 : (H0.os.map (·.1)).Nodup := by simp) (a9 : ∀ x ∈ H0.os, (x.2.2 0).own = true → (Sk.find H.os (ρ x.1)).map (·.1) = some x.2.1 := by simp [Sk.one, Obj.own.eq_1, Obj.own.eq_2, Obj.own.eq_3, Obj.own.eq_4, Sk.find, zk, zc, z9, ze, nds, Nd.sv, zb, za, zt, zu, zh, zj, zz, zg, zn, zi, zo, zp, z17, z12, z1l, ints]) (a10 : dr = true → (z1g ρ H0.os).all (fun id => W.contains id) = true := by simp [z1g, Sk.one, Obj.own.eq_1, Obj.own.eq_2, Obj.own.eq_3, Obj.own.eq_4, zk, zc, z9, ze, nds, Nd.sv, zb, za, zt, zu, zh, zj, zz, zg, zn, zi, zo, zp, z17, z12, z1l, ints]) : callK P f args H dr W k :=
 z41 hF ρ a1 a2 a3 a4 a5 a6 a7 a8 a9 a10 hk
theorem z6w {s e e1 : SV} {H g g1 : AH} (h1 : s = e) (h2 : H = g) (a1 : e = e1 := by simp only [z1s, after, z4s, id, z2e, reduceCtorEq, Nat.reduceEqDiff, Nat.one_ne_zero, Nat.zero_ne_one, z38, z1z, z1g, Sk.one, Obj.own.eq_1, Obj.own.eq_2, Obj.own.eq_3, Obj.own.eq_4, Obj.ren.eq_1, Obj.ren.eq_2, Obj.ren_blk, Row.ren, SV.ren, SV.renL, List.map_cons, List.map_nil, List.nil_append, List.cons_append, ↓reduceIte, Nat.reduceLT, Nat.reduceAdd, Nat.reduceSub, Nat.reduceEqDiff, Nat.add_zero, Bool.false_eq_true, Tryd.tyInt, Tryd.szInt, Tryd.tyStr, Tryd.tyU32, Tryd.tyNode, Tryd.szNode, Tryd.zNode, Tryd.tyNodes, Tryd.szNodes, zk, zc, nds, Nd.sv, Tryd.tyLink, Tryd.szLink, Tryd.zLink, Tryd.tyLinks, Tryd.szLinks, Tryd.tyLinked, Tryd.szLinked, Tryd.tyLinkeds, Tryd.szLinkeds, Tryd.zLinked, z4t, Tryd.tyErr, z12, z1l, z26, z27, z3i, z53, z4d, z4w, z5m, z12, z1l]; exact rfl) (a2 : g = g1 := by simp only [z1s, after, z4s, id, z2e, reduceCtorEq, Nat.reduceEqDiff, Nat.one_ne_zero, Nat.zero_ne_one, z38, z1z, z1g, Sk.one, Obj.own.eq_1, Obj.own.eq_2, Obj.own.eq_3, Obj.own.eq_4, Obj.ren.eq_1, Obj.ren.eq_2, Obj.ren_blk, Row.ren, SV.ren, SV.renL, List.map_cons, List.map_nil, List.nil_append, List.cons_append, ↓reduceIte, Nat.reduceLT, Nat.reduceAdd, Nat.reduceSub, Nat.reduceEqDiff, Nat.add_zero, Bool.false_eq_true, Tryd.tyInt, Tryd.szInt, Tryd.tyStr, Tryd.tyU32, Tryd.tyNode, Tryd.szNode, Tryd.zNode, Tryd.tyNodes, Tryd.szNodes, zk, zc, nds, Nd.sv, Tryd.tyLink, Tryd.szLink, Tryd.zLink, Tryd.tyLinks, Tryd.szLinks, Tryd.tyLinked, Tryd.szLinked, Tryd.tyLinkeds, Tryd.szLinkeds, Tryd.zLinked, z4t, Tryd.tyErr, z12, z1l, z26, z27, z3i, z53, z4d, z4w, z5m, z12, z1l]; exact rfl) : s = e1 ∧ H = g1 := ⟨h1.trans a1, h2.trans a2⟩
theorem IoFm.g1 {X : Cx} {fr : Fr} {H : AH} {fr1 : Fr} {H1 : AH} (ρ : Nat → Nat) (a1 : z1b ρ H1.nxt fr fr1 := by simp [z1b, Sk.get, SV.ren, SV.renL, SV.lt, SV.ltL, zk, zc, z9, ze, nds, Nd.sv, zb, za, zt, zu, zh, zj, zz, zg, zn, zi, zo, zp, z17, z12, z1l, ints]) (a2 : z18 ρ H1.nxt H.os H1.os := by simp [z18, Sk.find, Sk.one, zf.eq_1, zf.eq_2, zf.eq_3, z1d, SV.renL, SV.ren, Obj.lt_row, SV.ltL, SV.lt, zk, zc, z9, ze, nds, Nd.sv, zb, za, zt, zu, zh, zj, zz, zg, zn, zi, zo, zp, z17, z12, z1l, ints]) (a3 : z4y ρ H1.os = true := by exact rfl)
  (a4 : z1v H1.os := by simp [z1v, Sk.one, zk, zc, z9, ze, nds, Nd.sv, zb, za, zt, zu, zh, zj, zz, zg, zn, zi, zo, zp, z17, z12, z1l, ints]) (a5 : (List.range X.m0).all (fun id => ρ id == id) = true := by exact rfl) (a6 : X.m0 ≤ H1.nxt := by exact Nat.le_of_ble_eq_true rfl) (a7 : z1v H.os := by simp [z1v, Sk.one, Obj.own.eq_1, Obj.own.eq_2, Obj.own.eq_3, Obj.own.eq_4, zk, zc, z9, ze, nds, Nd.sv, zb, za, zt, zu, zh, zj, zz, zg, zn, zi, zo, zp, z17, z12, z1l, ints])
  (a8 : z22 X.m0 H.os H1.os := by simp [z22, Sk.one, Obj.own.eq_1, Obj.own.eq_2, Obj.own.eq_3, Obj.own.eq_4, Sk.find, zk, zc, z9, ze, nds, Nd.sv, zb, za, zt, zu, zh, zj, zz, zg, zn, zi, zo, zp, z17, z12, z1l, ints]) (a9 : z6u X.m0 ρ H1.os = true := by exact rfl) : z21 X ρ fr H fr1 H1 := z21.mk' ρ a1 a2 a3 a4 a5 a6 a7 a8 a9
theorem IoFm.r3 {a : Prop} (h : a := by simp [z49, Sk.one, Obj.own.eq_1, Obj.own.eq_2, Obj.own.eq_3, Obj.own.eq_4, zk, zc, z9, ze, nds, Nd.sv, zb, za, zt, zu, zh, zj, zz, zg, zn, zi, zo, zp, z17, z12, z1l, ints]) : a := h
theorem IoFm.gp {X : Cx} {fr : Fr} {H : AH} {fr1 : Fr} {H1 : AH} (ρ : Nat → Nat) (f j a : Nat) (a2 : z1t ρ f j a H1.nxt H.os H1.os) (a1 : z4q (mvP ρ f j a) H1.nxt fr fr1 := by simp [z4q, Sk.get, SV.renP, SV.renPL, mvP, SV.lt, SV.ltL, zk, zc, z9, ze, nds, Nd.sv, zb, za, zt, zu, zh, zj, zz, zg, zn, zi, zo, zp, z17, z12, z1l, ints]) (a3 : z4y ρ H1.os = true := by exact rfl)
  (a4 : z1v H1.os := by simp [z1v, Sk.one, zk, zc, z9, ze, nds, Nd.sv, zb, za, zt, zu, zh, zj, zz, zg, zn, zi, zo, zp, z17, z12, z1l, ints]) (a4a : (H1.os.all fun x => !(ρ x.1 == a)) = true := by exact rfl) (a5 : (List.range X.m0).all (fun id => ρ id == id) = true := by exact rfl) (a6 : X.m0 ≤ H1.nxt := by exact Nat.le_of_ble_eq_true rfl) (a6f : X.m0 ≤ f := by exact Nat.le_of_ble_eq_true rfl) (a6a : X.m0 ≤ a := by exact Nat.le_of_ble_eq_true rfl)
  (a7 : ∀ x ∈ H.os, x.1 < X.m0 → ∀ k, (x.2.2 k).own = (x.2.2 0).own := by simp [Sk.one, Obj.own.eq_1, Obj.own.eq_2, Obj.own.eq_3, Obj.own.eq_4, zk, zc, z9, ze, nds, Nd.sv, zb, za, zt, zu, zh, zj, zz, zg, zn, zi, zo, zp, z17, z12, z1l, ints]) (a8 : z22 X.m0 H.os H1.os := by simp [z22, Sk.one, Obj.own.eq_1, Obj.own.eq_2, Obj.own.eq_3, Obj.own.eq_4, Sk.find, zk, zc, z9, ze, nds, Nd.sv, zb, za, zt, zu, zh, zj, zz, zg, zn, zi, zo, zp, z17, z12, z1l, ints]) (a9 : z6u X.m0 ρ H1.os = true := by exact rfl) : z5v X (mvP ρ f j a) fr H fr1 H1 := z5v.mk' ρ f j a a1 a2 a3 a4 a4a a5 a6 a6f a6a a7 a8 a9
theorem IoFm.gs {X : Cx} {fr : Fr} {H : AH} {fr1 : Fr} {H1 : AH} (ρ : Nat → Nat) (f : Nat) (μ : Nat → Nat) (hμ : ∀ a b, μ a = μ b → a = b) (a2 : z4g ρ f μ H1.nxt H.os H1.os) (a1 : z4q (shP ρ f μ) H1.nxt fr fr1 := by simp [z4q, Sk.get, SV.renP, SV.renPL, shP, SV.lt, SV.ltL, zk, zc, z9, ze, nds, Nd.sv, zb, za, zt, zu, zh, zj, zz, zg, zn, zi, zo, zp, z17, z12, z1l, ints]) (a3 : z4y ρ H1.os = true := by exact rfl)
  (a4 : z1v H1.os := by simp [z1v, Sk.one, zk, zc, z9, ze, nds, Nd.sv, zb, za, zt, zu, zh, zj, zz, zg, zn, zi, zo, zp, z17, z12, z1l, ints]) (a5 : (List.range X.m0).all (fun id => ρ id == id) = true := by exact rfl) (a6 : X.m0 ≤ H1.nxt := by exact Nat.le_of_ble_eq_true rfl) (a6f : X.m0 ≤ f := by exact Nat.le_of_ble_eq_true rfl)
  (a7 : ∀ x ∈ H.os, x.1 < X.m0 → ∀ k, (x.2.2 k).own = (x.2.2 0).own := by simp [Sk.one, Obj.own.eq_1, Obj.own.eq_2, Obj.own.eq_3, Obj.own.eq_4, zk, zc, z9, ze, nds, Nd.sv, zb, za, zt, zu, zh, zj, zz, zg, zn, zi, zo, zp, z17, z12, z1l, ints]) (a8 : z22 X.m0 H.os H1.os := by simp [z22, Sk.one, Obj.own.eq_1, Obj.own.eq_2, Obj.own.eq_3, Obj.own.eq_4, Sk.find, zk, zc, z9, ze, nds, Nd.sv, zb, za, zt, zu, zh, zj, zz, zg, zn, zi, zo, zp, z17, z12, z1l, ints]) (a9 : z6u X.m0 ρ H1.os = true := by exact rfl) : z5v X (shP ρ f μ) fr H fr1 H1 := z5v.mkS ρ f μ hμ a1 a2 a3 a4 a5 a6 a6f a7 a8 a9
theorem z2f {a b c : Prop} (r : a → c) (h : b) (e : a = b := by simp only [stp, isQ, z4u, Sk.get, Sk.put, z2u, z1p, ↓reduceIte, reduceCtorEq, Nat.reduceEqDiff, true_and, and_true, true_implies, implies_true, forall_const, imp_self, Bool.false_eq_true, false_implies, false_and, and_false, Bool.false_and, Bool.and_false, qop, grdK, List.getElem?_toArray, List.getElem?_cons_zero, List.getElem?_cons_succ, beq_true, beq_false, beq_self_eq_true, Bool.and_true, Bool.true_and, Bool.not_true, Bool.not_false, Bool.not_not, Bool.and_eq_true, Bool.not_eq_true', Bool.not_eq_false', z23, Bool.cond_true_left, Bool.cond_false_left, Bool.cond_true_right, Bool.cond_false_right, cond_true, cond_false, and_imp, z4m, Sk.find, Sk.one, z2q, z2r, Kd.agg, List.contains_nil, List.contains_cons, Nat.reduceBEq, Bool.or_false, Bool.true_or, Bool.or_true, Bool.false_or, ite_self, Nat.lt_one_iff, Nat.zero_add, Nat.add_zero, Nat.reduceAdd, Nat.reduceMul, Nat.reduceSub, Nat.reduceLT, Nat.reduceLeDiff, Nat.le_refl, Nat.zero_le, ne_eq, Nat.one_ne_zero, not_false_eq_true, not_true_eq_false, Int.toNat_natCast, Int.reduceToNat, List.length_cons, List.length_nil, and_self, Kd.slice.injEq, exists_eq', Option.map_some, Option.some.injEq, List.drop_zero, List.drop_succ_cons, List.take_succ_cons, List.take_zero, List.take_nil, List.drop_nil, List.nil_append, List.cons_append, List.append_nil, List.append_eq, List.all_cons, List.all_nil, spl, z31, SV.cells, SV.scalar, binK, z5k, z5j, intK, z3e, strK, z3p, z5i, z46, unK, z5e, z3v, z3w, z5c, z3x, z3y, optK, z40, bndK, Option.isSome_some, Option.isSome_none, Nat.sub_zero, or_true, true_or, z3n, z3u, z56, z43, lenK, z25.len, z1o.n, z54, mmK, z2s, eop, z5u, srcK, z2d, setO, z44, capK, z6m, z34, z2e, z3k, boxK, z35, z3r, z3l, updF, mkK, z59, z25.ofKd, z1o.ofKd, z5a, z25.add, z25.okKd, z1o.put, z1o.okKd, z1o.okP, z3z, z25.has, z1o.get, z1o.z, Tryd.tyInt, Tryd.szInt, Tryd.tyStr, Tryd.tyU32, Tryd.tyNode, Tryd.szNode, Tryd.zNode, Tryd.tyNodes, Tryd.szNodes, zk, zc, nds, Nd.sv, Tryd.tyLink, Tryd.szLink, Tryd.zLink, Tryd.tyLinks, Tryd.szLinks, Tryd.tyLinked, Tryd.szLinked, Tryd.tyLinkeds, Tryd.szLinkeds, Tryd.zLinked, lkR_ap, lkF_ap, z4t, Tryd.tyErr, z12, z1l, ints]; exact rfl) : c := r (Eq.mpr e h)
theorem IoFm.g0 {X : Cx} {fr : Fr} {H : AH} {fr1 : Fr} {H1 : AH} (ρ : Nat → Nat) (a1 : z1b ρ H1.nxt fr fr1 := by simp [z1b, Sk.get, zo, SV.lt, SV.ltL, zk, zc, z9, ze, nds, Nd.sv, zb, za, zt, zu, zh, zj, zz, zg, zn, zi, zo, zp, z17, z12, z1l, ints]) (a2 : z18 ρ H1.nxt H.os H1.os := by simp [z18, Sk.find, Sk.one, zf.eq_1, zf.eq_2, zf.eq_3, z1d, z1x, Obj.lt_row, SV.ltL, SV.lt, zk, zc, z9, ze, nds, Nd.sv, zb, za, zt, zu, zh, zj, zz, zg, zn, zi, zo, zp, z17, z12, z1l, ints]) (a3 : z4y ρ H1.os = true := by exact rfl)
  (a4 : z1v H1.os := by simp [z1v, Sk.one, zk, zc, z9, ze, nds, Nd.sv, zb, za, zt, zu, zh, zj, zz, zg, zn, zi, zo, zp, z17, z12, z1l, ints]) (a5 : (List.range X.m0).all (fun id => ρ id == id) = true := by exact rfl) (a6 : X.m0 ≤ H1.nxt := by exact Nat.le_of_ble_eq_true rfl) (a7 : z1v H.os := by simp [z1v, Sk.one, Obj.own.eq_1, Obj.own.eq_2, Obj.own.eq_3, Obj.own.eq_4, zk, zc, z9, ze, nds, Nd.sv, zb, za, zt, zu, zh, zj, zz, zg, zn, zi, zo, zp, z17, z12, z1l, ints])
  (a8 : z22 X.m0 H.os H1.os := by simp [z22, Sk.one, Obj.own.eq_1, Obj.own.eq_2, Obj.own.eq_3, Obj.own.eq_4, Sk.find, zk, zc, z9, ze, nds, Nd.sv, zb, za, zt, zu, zh, zj, zz, zg, zn, zi, zo, zp, z17, z12, z1l, ints]) (a9 : z6u X.m0 ρ H1.os = true := by exact rfl) : z21 X ρ fr H fr1 H1 := z21.mk' ρ a1 a2 a3 a4 a5 a6 a7 a8 a9
set_option maxHeartbeats 4000000 in
theorem links_spec (ls : List Int) (m at_ : Nat) (hx : ls.length ≤ 9223372036854775807) (hm : m ≤ ls.length) (ha : at_ ≤ m) (xs : List Nd) (n : Nat) (hn : xs.length = n) (hnx : n ≤ 1000) (h c : Int) (hc : 0 ≤ c ∧ c ≤ 10) :
  z1e Tryd.prog 15 [.ptr 0 0 0 0, .slc false 2 0 0 n, .int .i64 h, .int .i64 c] ⟨3, [(0, z12 1 m at_), (1, z1l ls), (2, Sk.one (.row ⟨false, false, 55, 3, n, nds xs⟩))]⟩
   (fun s H1 => ∃ (l : List Lk) (at' : Nat), at' ≤ m ∧ LB n 0 l ∧ s = .slc true 3 0 0 l.length ∧ H1 = ⟨5, [(3, Sk.one (.row ⟨true, false, 42, 2, l.length, lkR true 4 l⟩)), (4, (l.length + 1, fam true 45 2 (lkF true l))), (0, z12 1 m at')]⟩) := by
 subst hn;refine z1e.ofC false 141 [.tmp 8] Tryd.func15 rfl rfl Tryd.ntmps15 Tryd.results15 rfl ?_;intro w0 own0 β0 Q hQ hQn;simp only [z2t];refine Cs.seq ?_;refine Cs.reg [0, 1, 2, 3] rfl ?_;intro K hK;(refine z2f z6 ?_; repeat (with_reducible apply ai;exact z5));refine z8 (z7 (hK _ _ ?_)); clear hK K;refine Cs.seq ?_;refine Cs.reg [0, 1, 3, 9] rfl ?_;intro K hK;iterate 2 (refine z2f z6 ?_; repeat (with_reducible apply ai;exact z5))
 refine z2f z6 ?_;repeat (with_reducible apply ai;exact z5)
 refine z6x (refBuild_spec xs xs.length rfl h (by omega)) (fun q => q + 2) ?_;rintro s0 H0 ⟨rfl, rfl⟩ s1 H1 hs1 hH1;obtain ⟨hs2, hH2⟩ := z6w hs1 hH1;clear hs1 hH1;subst hs2 hH2;repeat (with_reducible apply ai;exact z5)
 iterate 5 (refine z2f z6 ?_; repeat (with_reducible apply ai;exact z5))
 refine z8 (z7 (hK _ _ ?_)); clear hK K;refine Cs.seq ?_;refine Cs.seq ?_;refine Cs.reg [0, 1, 9, 11] rfl ?_;intro K hK;iterate 3 (refine z2f z6 ?_; repeat (with_reducible apply ai;exact z5))
 refine z2f z6 ?_;repeat (with_reducible apply ai;exact z5)
 refine z6x (z42 ls m at_ (c + 1) hx hm ha (by omega)) (id) ?_;rintro s0 H0 ⟨v, at1, h1, h2, h3, h4, rfl, rfl⟩ s1 H1 hs1 hH1;obtain ⟨hs2, hH2⟩ := z6w hs1 hH1;clear hs1 hH1;subst hs2 hH2;repeat (with_reducible apply ai;exact z5)
 (refine z2f z6 ?_; repeat (with_reducible apply ai;exact z5));refine z8 (z7 (hK _ _ ?_)); clear hK K;have hv := h3 (by omega);obtain ⟨v, rfl⟩ := Int.eq_ofNat_of_zero_le h2;have hb := bldR_facts xs h
 have hL0 : LB xs.length v (z6l xs h) := by
  refine ⟨by omega, fun i => ?_⟩
  have : (lk (z6l xs h) i).lv.length ≤ 17 := by
   by_cases g : i < (z6l xs h).length
   ·by_cases e : bldE xs h = 0
    ·have e' := e;rw [z6l, if_pos e] at g ⊢;rw [bldN_len] at g;rw [lk_bldN _ g]
     have : h ≤ 16 ∧ 0 ≤ h := by
      rw [bldE] at e'
      split at e'
      ·exact absurd e' (by decide)
      ·split at e'
       ·exact absurd e' (by decide)
       ·omega
     simp; omega
    ·rw [z6l, if_neg e] at g; simp at g
   ·rw [lk_ge (by omega)]; exact Nat.zero_le _
  omega
 refine Cs.block ?_;intro Q0 hN0 hX0 hR0 hE0;refine Cs.loop (σ := List Lk × Nat × Nat) (fun σ => LB xs.length σ.2.1 σ.1 ∧ σ.2.2 ≤ m ∧ σ.2.1 ≤ 11) (fun σ => σ.2.1) (fun σ => [(0, .ptr 0 0 0 0), (1, .slc false 2 0 0 xs.length), (9, .slc true 3 0 0 σ.1.length), (11, .int .i64 σ.2.1)]) (fun σ => ⟨5, [(0, z12 1 m σ.2.2), (3, Sk.one (.row ⟨true, false, 42, 2, σ.1.length, lkR true 4 σ.1⟩)), (4, (σ.1.length + 1, fam true 45 2 (lkF true σ.1))), (1, z1l ls), (2, Sk.one (.row ⟨false, false, 55, 3, xs.length, nds xs⟩))]⟩) (z6l xs h, v, at1) ⟨hL0, h1, by dsimp only; omega⟩ (ρ := id) (IoFm.g0 id) ?_;rintro ⟨l, c1, at2⟩ hi QL1 hL1 hRL1 hEL1;refine Cs.seq ?_;refine Cs.seq ?_;refine Cs.reg [0, 1, 9, 11, 31] rfl ?_;intro K hK;iterate 7 (refine z2f z6 ?_; repeat (with_reducible apply ai;exact z5))
 refine z8 (z7 (hK _ _ ?_)); clear hK K;refine Cs.cond _ rfl ?_ ?_
 ·intro h31;obtain ⟨hi1, hi2, hi3⟩ := hi;dsimp only at hi1 hi2 hi3;have h31' : 0 < c1 ∧ 0 < l.length := by simpa using h31
  have hl1 := hi1.1;have hl2 := hi1.2;refine Cs.skip ?_;refine Cs.seq ?_;refine Cs.block ?_;intro Q1 hN1 hX1 hR1 hE1;refine Cs.seq ?_;refine Cs.reg [0, 1, 9, 11, 12] rfl ?_;intro K hK;iterate 3 (refine z2f z6 ?_; repeat (with_reducible apply ai;exact z5))
  refine z2f z6 ?_;repeat (with_reducible apply ai;exact z5)
  refine z6x (z42 ls m at2 l.length hx hm hi2 (by omega)) (id) ?_;rintro s0 H0 ⟨k, at3, p1, p2, p3, p4, rfl, rfl⟩ s1 H1 hs1 hH1;obtain ⟨hs2, hH2⟩ := z6w hs1 hH1;clear hs1 hH1;subst hs2 hH2;repeat (with_reducible apply ai;exact z5)
  have hk := p3 (by omega);obtain ⟨k, rfl⟩ := Int.eq_ofNat_of_zero_le p2;have hl2k := hl2 k;(refine z2f z6 ?_; repeat (with_reducible apply ai;exact z5));refine z8 (z7 (hK _ _ ?_)); clear hK K;refine Cs.seq ?_;refine Cs.reg [0, 1, 9, 11, 12, 39] rfl ?_;intro K hK;(refine z2f z6 ?_; repeat (with_reducible apply ai;exact z5));refine z2f z6 ?_;repeat (with_reducible apply ai;exact z5)
  refine z6x (z42 ls m at3 7 hx hm p1 (by omega)) (id) ?_;rintro s0 H0 ⟨w, at4, q1, q2, q3, q4, rfl, rfl⟩ s1 H1 hs1 hH1;obtain ⟨hs2, hH2⟩ := z6w hs1 hH1;clear hs1 hH1;subst hs2 hH2;repeat (with_reducible apply ai;exact z5)
  refine z8 (z7 (hK _ _ ?_)); clear hK K;refine Cs.block ?_;intro Q2 hN2 hX2 hR2 hE2;refine Cs.seq ?_;refine Cs.reg [0, 1, 9, 11, 12, 39, 71] rfl ?_;intro K hK;iterate 2 (refine z2f z6 ?_; repeat (with_reducible apply ai;exact z5))
  refine z8 (z7 (hK _ _ ?_)); clear hK K;refine Cs.cond _ rfl ?_ ?_
  ·intro h71
   try replace h71 := zd h71
   refine Cs.regDraw [0, 1, 9, 11] [0, 1, 2, 3, 4, 5, 6, 7, 8, 9] [[], [], [], [0, 1, 2], [], [], [5], [4, 5, 6], [0, 1, 2, 3, 4, 5, 6, 7], [0, 1, 2, 3, 4, 5, 6, 7, 8]] [[], [], [], [], [], [], [], [], [3], []] [[], [], [], [], [], [], [], [], [3], [3]] Tryd.mo rfl rfl rfl (by kernel_rfl) (by kernel_rfl) (by kernel_rfl) rfl (by kernel_rfl) ?_;intro K hK;iterate 8 (refine z2f (z1a _ [] [] rfl rfl rfl) ?_; repeat (with_reducible apply ai;exact z5))
   (refine z2f (z1a _ [3] [3] rfl rfl rfl) ?_; repeat (with_reducible apply ai;exact z5));(refine z2f (z1a _ [] [3] rfl rfl rfl) ?_; repeat (with_reducible apply ai;exact z5));refine z3o (z7 (hK _ _ ?_)); clear hK K;refine Cs.nil ?_;refine hN2 _ _ ?_;refine Cs.nil ?_;refine hN1 _ _ ?_;have hel : (l.eraseIdx k).length = l.length - 1 := by rw [List.length_eraseIdx, if_pos (by omega)]
   have hk1 : ((k : Int) + 1).toNat = k + 1 := by omega
   rw [hk1, show k + (l.length - (k + 1)) = l.length - 1 from by omega]
   have hout : ∀ q, q < l.length - 1 → app (lkR true 4 l) k (srcF (lkR true 4 l) (k + 1)) q = SV.renPL (shP (fun q => if q = 3 then 5 else q) 4 (up fun i => if i < k then i else i + 1)) (lkR true 4 (l.eraseIdx k) q) := fun q hq => by
    rw [lkR_renS, lk_erase hq, app]
    split
    ·rename_i e; rfl
    ·rename_i e;rw [srcF, show k + 1 + (q - k) = q + 1 by omega]; rfl
   refine Cs.giveP (fr' := [(0, .ptr 0 0 0 0), (1, .slc false 2 0 0 xs.length), (9, .slc true 3 0 0 (l.length - 1)), (11, .int .i64 c1)]) (H' := ⟨5, [(0, z12 1 m at4), (3, Sk.one (.row ⟨true, false, 42, 2, (l.length - 1), lkR true 4 (l.eraseIdx k)⟩)), (4, ((l.length - 1) + 1, fam true 45 2 (lkF true (l.eraseIdx k)))), (1, z1l ls), (2, Sk.one (.row ⟨false, false, 55, 3, xs.length, nds xs⟩))]⟩) _ (IoFm.gs (fun q => if q = 3 then 5 else q) (4) (up fun i => if i < k then i else i + 1) (up_inj (fun a b e => by split at e <;> split at e <;> omega)) (z4g.cons1 rfl Nat.zero_lt_one (by decide) (z1w.of (fun _ => ⟨rfl, rfl⟩) rfl (Nat.le_refl _) (fun _ _ => rfl)) (Obj.lt_row.2 fun q _ => by simp [SV.ltL, SV.lt]) (Nat.le_of_ble_eq_true rfl) (z4g.cons1 rfl Nat.zero_lt_one (by decide) (z1w.of (fun _ => ⟨rfl, rfl⟩) rfl (Nat.le_refl _) (hout)) (Obj.lt_row.2 fun q _ => (zz _ _ _ _ q).2 (Nat.le_of_ble_eq_true rfl)) (Nat.le_of_ble_eq_true rfl) (z4g.consF rfl ⟨fun _ => ⟨rfl, rfl⟩, rfl⟩ (fun i hi => ⟨by split <;> omega, lkF_givesI _ _ _ _ _ (lk_erase (by omega)), zn _ _ _ _⟩) (Nat.le_of_ble_eq_true rfl) (z4g.cons1 rfl Nat.zero_lt_one (by decide) (z1w.of (fun h => (by cases h)) rfl (Nat.le_refl _) (fun q _ => (ints_renP _ _ q).symm)) (Obj.lt_row.2 fun q _ => zr _ _ q) (Nat.le_of_ble_eq_true rfl) (z4g.cons1 rfl Nat.zero_lt_one (by decide) (z1w.of (fun h => (by cases h)) rfl (Nat.le_refl _) (fun q _ => (z5s _ _ q).symm)) (Obj.lt_row.2 fun q _ => ze _ _ q) (Nat.le_of_ble_eq_true rfl) trivial)))))) ?_
   refine Cs.reg [0, 1, 9, 11] rfl ?_;intro K hK;iterate 3 (refine z2f z6 ?_; repeat (with_reducible apply ai;exact z5))
   refine z8 (z7 (hK _ _ ?_)); clear hK K;refine Cs.nil ?_;refine hL1 _ _ ?_;rw [show (c1 : Int) - 1 = ((c1 - 1 : Nat) : Int) from by omega];refine ⟨(l.eraseIdx k, c1 - 1, at4), ⟨⟨⟨by dsimp only; rw [hel]; omega, fun i => ?_⟩, q1, by dsimp only; omega⟩, by dsimp only; omega⟩, id, ?_⟩
   ·dsimp only
    by_cases g : i < l.length - 1
    ·rw [lk_erase g]; have := hl2 (if i < k then i else i + 1); omega
    ·rw [lk_ge (by omega)];have := hl2 l.length;rw [lk_ge (Nat.le_refl _)] at this;omega
   ·simp only [hel];exact (IoFm.g0 id)
  ·intro h71
   try replace h71 := zd h71
   refine Cs.seq ?_;refine Cs.reg [0, 1, 9, 11, 12, 39, 82] rfl ?_;intro K hK;iterate 2 (refine z2f z6 ?_; repeat (with_reducible apply ai;exact z5))
   refine z8 (z7 (hK _ _ ?_)); clear hK K;refine Cs.cond _ rfl ?_ ?_
   ·intro h82
    try replace h82 := zd h82
    refine Cs.reg [0, 1, 9, 11] rfl ?_;intro K hK;iterate 3 (refine z2f z6 ?_; repeat (with_reducible apply ai;exact z5))
    refine z2f z6 ?_;repeat (with_reducible apply ai;exact z5)
    refine z6x (id_spec ls m at4 hx hm q1 xs xs.length rfl (by omega)) (id) ?_;rintro s0 H0 ⟨v1, at5, r1, rfl, rfl⟩ s1 H1 hs1 hH1;obtain ⟨hs2, hH2⟩ := z6w hs1 hH1;clear hs1 hH1;subst hs2 hH2;repeat (with_reducible apply ai;exact z5)
    iterate 2 (refine z2f z6 ?_; repeat (with_reducible apply ai;exact z5))
    refine z2f z6 ?_;repeat (with_reducible apply ai;exact z5)
    refine z6x (id_spec ls m at5 hx hm r1 xs xs.length rfl (by omega)) (id) ?_;rintro s0 H0 ⟨v2, at6, r2, rfl, rfl⟩ s1 H1 hs1 hH1;obtain ⟨hs2, hH2⟩ := z6w hs1 hH1;clear hs1 hH1;subst hs2 hH2;repeat (with_reducible apply ai;exact z5)
    iterate 2 (refine z2f z6 ?_; repeat (with_reducible apply ai;exact z5))
    refine z2f z6 ?_;repeat (with_reducible apply ai;exact z5)
    refine z6x (id_spec ls m at6 hx hm r2 xs xs.length rfl (by omega)) (id) ?_;rintro s0 H0 ⟨v3, at7, r3, rfl, rfl⟩ s1 H1 hs1 hH1;obtain ⟨hs2, hH2⟩ := z6w hs1 hH1;clear hs1 hH1;subst hs2 hH2;repeat (with_reducible apply ai;exact z5)
    iterate 6 (refine z2f z6 ?_; repeat (with_reducible apply ai;exact z5))
    refine z8 (z7 (hK _ _ ?_)); clear hK K;refine Cs.nil ?_;refine hN2 _ _ ?_;refine Cs.nil ?_;refine hN1 _ _ ?_
    have hout : ∀ q, q < l.length + 1 → app (lkR true 4 l) l.length (z5t 2 1 [SV.int .i64 v1, SV.slc true 5 0 0 1]) q = SV.renPL (mvP (fun q => if q = 3 then 7 else q) 4 l.length 5) (lkR true 4 (l ++ [⟨v1, [(v2, v3)]⟩]) q) := fun q hq => by
     rw [lkR_renP]
     split
     ·rename_i e; subst e;rw [app, if_neg (by omega), Nat.sub_self, lk_last]; rfl
     ·rw [lk_append (by omega), app, if_pos (by omega)]; rfl
    refine Cs.giveP (fr' := [(0, .ptr 0 0 0 0), (1, .slc false 2 0 0 xs.length), (9, .slc true 3 0 0 (l.length + 1)), (11, .int .i64 c1)]) (H' := ⟨5, [(0, z12 1 m at7), (3, Sk.one (.row ⟨true, false, 42, 2, (l.length + 1), lkR true 4 (l ++ [⟨v1, [(v2, v3)]⟩])⟩)), (4, ((l.length + 1) + 1, fam true 45 2 (lkF true (l ++ [⟨v1, [(v2, v3)]⟩])))), (1, z1l ls), (2, Sk.one (.row ⟨false, false, 55, 3, xs.length, nds xs⟩))]⟩) _ (IoFm.gp (fun q => if q = 3 then 7 else q) (4) (l.length) (5) (z1t.cons1 rfl Nat.zero_lt_one (by decide) (z1w.of (fun _ => ⟨rfl, rfl⟩) rfl (Nat.le_refl _) (fun _ _ => rfl)) (Obj.lt_row.2 fun q _ => by simp [SV.ltL, SV.lt]) (Nat.le_of_ble_eq_true rfl) (z1t.cons1 rfl Nat.zero_lt_one (by decide) (z1w.of (fun _ => ⟨rfl, rfl⟩) rfl (Nat.le_refl _) (hout)) (Obj.lt_row.2 fun q _ => (zz _ _ _ _ q).2 (Nat.le_of_ble_eq_true rfl)) (Nat.le_of_ble_eq_true rfl) (z1t.consF rfl rfl Nat.zero_lt_one ⟨fun _ => ⟨rfl, rfl⟩, rfl⟩ (Nat.succ_pos _) (fun q hq hne => ⟨by omega, z6r _ _ _ _ _ _ id (lk_append (by omega)), zn _ _ _ _⟩) (lkF_newP _ _ _ _ _ (by rw [lk_last]; rfl) (fun q _ => by rw [lk_last, rowsOf_lv1])) (zn _ _ _ _) (Nat.le_of_ble_eq_true rfl) (z1t.cons1 rfl Nat.zero_lt_one (by decide) (z1w.of (fun h => (by cases h)) rfl (Nat.le_refl _) (fun q _ => (ints_renP _ _ q).symm)) (Obj.lt_row.2 fun q _ => zr _ _ q) (Nat.le_of_ble_eq_true rfl) (z1t.cons1 rfl Nat.zero_lt_one (by decide) (z1w.of (fun h => (by cases h)) rfl (Nat.le_refl _) (fun q _ => (z5s _ _ q).symm)) (Obj.lt_row.2 fun q _ => ze _ _ q) (Nat.le_of_ble_eq_true rfl) trivial)))))) ?_
    refine Cs.reg [0, 1, 9, 11] rfl ?_;intro K hK;iterate 3 (refine z2f z6 ?_; repeat (with_reducible apply ai;exact z5))
    refine z8 (z7 (hK _ _ ?_)); clear hK K;refine Cs.nil ?_;refine hL1 _ _ ?_;rw [show (c1 : Int) - 1 = ((c1 - 1 : Nat) : Int) from by omega];refine ⟨(l ++ [⟨v1, [(v2, v3)]⟩], c1 - 1, at7), ⟨⟨⟨by simp; omega, fun i => ?_⟩, r3, by dsimp only; omega⟩, by dsimp only; omega⟩, id, ?_⟩
    ·dsimp only;have h0 := hl2 l.length;rw [lk_ge (Nat.le_refl _)] at h0;rcases Nat.lt_trichotomy i l.length with g | g | g
     ·rw [lk_append g]; have := hl2 i; omega
     ·subst g; rw [lk_last]; simp; simp [noLk] at h0; omega
     ·rw [lk_ge (by simp; omega)]; omega
    ·simp only [List.length_append, List.length_singleton];exact (IoFm.g0 id)
   ·intro h82
    try replace h82 := zd h82
    refine Cs.seq ?_;refine Cs.reg [0, 1, 9, 11, 12, 39, 99] rfl ?_;intro K hK;iterate 2 (refine z2f z6 ?_; repeat (with_reducible apply ai;exact z5))
    refine z8 (z7 (hK _ _ ?_)); clear hK K;refine Cs.cond _ rfl ?_ ?_
    ·intro h99
     try replace h99 := zd h99
     refine Cs.regDraw [0, 1, 9, 11] [0, 1, 2, 3, 4, 5, 6, 7, 8, 9, 10, 11, 12, 13, 14, 15, 16, 17, 18, 19] [[], [], [], [], [2, 3], [2, 3, 4], [2, 3, 4, 5], [], [], [], [8, 9], [8, 9, 10], [8, 9, 10, 11], [8, 9, 10, 11, 12], [8, 9, 10, 11, 12, 13], [7, 8, 9, 10, 11, 12, 13, 14], [2, 3, 4, 5, 6, 7, 8, 9, 10, 11, 12, 13, 14, 15], [0, 1, 2, 3, 4, 5, 6, 7, 8, 9, 10, 11, 12, 13, 14, 15, 16], [0, 1, 2, 3, 4, 5, 6, 7, 8, 9, 10, 11, 12, 13, 14, 15, 16, 17], [0, 1, 2, 3, 4, 5, 6, 7, 8, 9, 10, 11, 12, 13, 14, 15, 16, 17, 18]] [[], [], [], [], [], [], [], [], [], [], [], [], [], [], [], [0], [], [], [], [3]] [[0], [0], [0], [0], [0], [0], [0], [], [], [], [], [], [], [], [], [0], [0], [0], [0], [0, 3]] Tryd.mo rfl rfl rfl (by kernel_rfl) (by kernel_rfl) (by kernel_rfl) rfl (by kernel_rfl) ?_;intro K hK;iterate 7 (refine z2f (z1a _ [] [0] rfl rfl rfl) ?_; repeat (with_reducible apply ai;exact z5))
     iterate 8 (refine z2f (z1a _ [] [] rfl rfl rfl) ?_; repeat (with_reducible apply ai;exact z5))
     refine z2f (z1a _ [0] [0] rfl rfl rfl) ?_;repeat (with_reducible apply ai;exact z5)
     refine z6x (z42 ls m at4 ((lk l k).lv.length + 1) hx hm q1 (by omega)) (id) ?_;rintro s0 H0 ⟨u, at5, r1, r2, r3, r4, rfl, rfl⟩ s1 H1 hs1 hH1;obtain ⟨hs2, hH2⟩ := z6w hs1 hH1;clear hs1 hH1;subst hs2 hH2;repeat (with_reducible apply ai;exact z5)
     have hu := r3 (by omega);obtain ⟨u, rfl⟩ := Int.eq_ofNat_of_zero_le r2;iterate 3 (refine z2f (z1a _ [] [0] rfl rfl rfl) ?_; repeat (with_reducible apply ai;exact z5))
     (refine z2f (z1a _ [3] [0, 3] rfl rfl rfl) ?_; repeat (with_reducible apply ai;exact z5));refine z3o (z7 (hK _ _ ?_)); clear hK K;refine Cs.nil ?_;refine hN2 _ _ ?_;refine Cs.nil ?_;refine hN1 _ _ ?_
     have hout : ∀ q, q < l.length → (if q = k then [SV.int .i64 (lk l k).id, SV.slc true 4 (k + 1) 0 u] else [SV.int .i64 (lk l q).id, SV.slc true 4 (q + 1) 0 (lk l q).lv.length]) = SV.renPL (shP id 4 (up fun i => i)) (lkR true 4 (l.set k ⟨(lk l k).id, (lk l k).lv.take u⟩) q) := fun q hq => by
      rw [lkR_renS, lk_set' _ _ _ _ (by omega)]
      split
      ·rename_i e; subst e;simp; omega
      ·rfl
     refine Cs.giveP (fr' := [(0, .ptr 0 0 0 0), (1, .slc false 2 0 0 xs.length), (9, .slc true 3 0 0 (l.length)), (11, .int .i64 c1)]) (H' := ⟨5, [(0, z12 1 m at5), (3, Sk.one (.row ⟨true, false, 42, 2, l.length, lkR true 4 (l.set k ⟨(lk l k).id, (lk l k).lv.take u⟩)⟩)), (4, (l.length + 1, fam true 45 2 (lkF true (l.set k ⟨(lk l k).id, (lk l k).lv.take u⟩)))), (1, z1l ls), (2, Sk.one (.row ⟨false, false, 55, 3, xs.length, nds xs⟩))]⟩) _ (IoFm.gs (id) (4) (up fun i => i) (up_inj (fun a b e => e)) (z4g.cons1 rfl Nat.zero_lt_one (by decide) (z1w.of (fun _ => ⟨rfl, rfl⟩) rfl (Nat.le_refl _) (fun _ _ => rfl)) (Obj.lt_row.2 fun q _ => by simp [SV.ltL, SV.lt]) (Nat.le_of_ble_eq_true rfl) (z4g.cons1 rfl Nat.zero_lt_one (by decide) (z1w.of (fun _ => ⟨rfl, rfl⟩) rfl (Nat.le_refl _) (hout)) (Obj.lt_row.2 fun q _ => (zz _ _ _ _ q).2 (Nat.le_of_ble_eq_true rfl)) (Nat.le_of_ble_eq_true rfl) (z4g.consF rfl ⟨fun _ => ⟨rfl, rfl⟩, rfl⟩ (fun i hi => ⟨by omega, lkF_takeP _ _ _ _ _ (by omega), zn _ _ _ _⟩) (Nat.le_of_ble_eq_true rfl) (z4g.cons1 rfl Nat.zero_lt_one (by decide) (z1w.of (fun h => (by cases h)) rfl (Nat.le_refl _) (fun q _ => (ints_renP _ _ q).symm)) (Obj.lt_row.2 fun q _ => zr _ _ q) (Nat.le_of_ble_eq_true rfl) (z4g.cons1 rfl Nat.zero_lt_one (by decide) (z1w.of (fun h => (by cases h)) rfl (Nat.le_refl _) (fun q _ => (z5s _ _ q).symm)) (Obj.lt_row.2 fun q _ => ze _ _ q) (Nat.le_of_ble_eq_true rfl) trivial)))))) ?_
     refine Cs.reg [0, 1, 9, 11] rfl ?_;intro K hK;iterate 3 (refine z2f z6 ?_; repeat (with_reducible apply ai;exact z5))
     refine z8 (z7 (hK _ _ ?_)); clear hK K;refine Cs.nil ?_;refine hL1 _ _ ?_;rw [show (c1 : Int) - 1 = ((c1 - 1 : Nat) : Int) from by omega];refine ⟨(l.set k ⟨(lk l k).id, (lk l k).lv.take u⟩, c1 - 1, at5), ⟨⟨lb_set (by rw [Nat.sub_add_cancel (by omega)]; exact hi1) (by omega) (by simp; omega), r1, by dsimp only; omega⟩, by dsimp only; omega⟩, id, ?_⟩;simp only [List.length_set];exact (IoFm.g0 id)
    ·intro h99
     try replace h99 := zd h99
     refine Cs.seq ?_;refine Cs.reg [0, 1, 9, 11, 12, 120] rfl ?_;intro K hK;iterate 2 (refine z2f z6 ?_; repeat (with_reducible apply ai;exact z5))
     refine z8 (z7 (hK _ _ ?_)); clear hK K;refine Cs.cond _ rfl ?_ ?_
     ·intro h120
      try replace h120 := zd h120
      refine Cs.regDraw [0, 1, 9, 11] [0, 1, 2, 3, 4, 5, 6, 7, 8, 10, 11, 9, 12, 13, 14, 15, 16, 17, 18] [[], [], [], [], [2, 3], [2, 3, 4], [2, 3, 4, 5], [], [], [7, 8], [], [], [7, 8, 9, 10, 11], [7, 8, 9, 10, 11, 12], [7, 8, 9, 10, 11, 12, 13], [2, 3, 4, 5, 6, 7, 8, 9, 10, 11, 12, 13, 14], [0, 1, 2, 3, 4, 5, 6, 7, 8, 9, 10, 11, 12, 13, 14, 15], [0, 1, 2, 3, 4, 5, 6, 7, 8, 9, 10, 11, 12, 13, 14, 15, 16], [0, 1, 2, 3, 4, 5, 6, 7, 8, 9, 10, 11, 12, 13, 14, 15, 16, 17]] [[], [], [], [], [], [], [], [], [], [0], [], [], [0], [], [], [4], [], [], [3]] [[0, 4], [0, 4], [0], [0], [0], [0], [0], [], [], [0], [0], [0], [0], [0], [0], [0, 4], [0, 4], [0, 4], [0, 3, 4]] Tryd.mo rfl rfl rfl (by kernel_rfl) (by kernel_rfl) (by kernel_rfl) rfl (by kernel_rfl) ?_;intro K hK;iterate 2 (refine z2f (z1a _ [] [0, 4] rfl rfl rfl) ?_; repeat (with_reducible apply ai;exact z5))
      iterate 5 (refine z2f (z1a _ [] [0] rfl rfl rfl) ?_; repeat (with_reducible apply ai;exact z5))
      iterate 2 (refine z2f (z1a _ [] [] rfl rfl rfl) ?_; repeat (with_reducible apply ai;exact z5))
      iterate 2 (refine z2f (z1a _ [] [0] rfl rfl rfl) ?_; repeat (with_reducible apply ai;exact z5))
      refine z2f (z1a _ [0] [0] rfl rfl rfl) ?_;repeat (with_reducible apply ai;exact z5)
      refine z6x (id_spec ls m at4 hx hm q1 xs xs.length rfl (by omega)) (id) ?_;rintro s0 H0 ⟨v1, at5, r1, rfl, rfl⟩ s1 H1 hs1 hH1;obtain ⟨hs2, hH2⟩ := z6w hs1 hH1;clear hs1 hH1;subst hs2 hH2;repeat (with_reducible apply ai;exact z5)
      refine z2f (z1a _ [0] [0] rfl rfl rfl) ?_;repeat (with_reducible apply ai;exact z5)
      refine z6x (id_spec ls m at5 hx hm r1 xs xs.length rfl (by omega)) (id) ?_;rintro s0 H0 ⟨v2, at6, r2, rfl, rfl⟩ s1 H1 hs1 hH1;obtain ⟨hs2, hH2⟩ := z6w hs1 hH1;clear hs1 hH1;subst hs2 hH2;repeat (with_reducible apply ai;exact z5)
      iterate 2 (refine z2f (z1a _ [] [0] rfl rfl rfl) ?_; repeat (with_reducible apply ai;exact z5))
      (refine z2f (z1a _ [4] [0, 4] rfl rfl rfl) ?_; repeat (with_reducible apply ai;exact z5));iterate 2 (refine z2f (z1a _ [] [0, 4] rfl rfl rfl) ?_; repeat (with_reducible apply ai;exact z5))
      (refine z2f (z1a _ [3] [0, 3, 4] rfl rfl rfl) ?_; repeat (with_reducible apply ai;exact z5));refine z3o (z7 (hK _ _ ?_)); clear hK K;refine Cs.nil ?_;refine hN2 _ _ ?_;refine Cs.nil ?_;refine hN1 _ _ ?_
      have hout : ∀ q, q < l.length → (if q = k then [SV.int .i64 (lk l k).id, SV.slc true 6 0 0 ((lk l k).lv.length + 1)] else lkR true 4 l q) = SV.renPL (mvP id 4 k 6) (lkR true 4 (l.set k ⟨(lk l k).id, (lk l k).lv ++ [(v1, v2)]⟩) q) := fun q hq => by
       rw [lkR_renP, lk_set' _ _ _ _ (by omega)]
       split
       ·rename_i e; subst e; simp
       ·rfl
      refine Cs.giveP (fr' := [(0, .ptr 0 0 0 0), (1, .slc false 2 0 0 xs.length), (9, .slc true 3 0 0 (l.length)), (11, .int .i64 c1)]) (H' := ⟨5, [(0, z12 1 m at6), (3, Sk.one (.row ⟨true, false, 42, 2, l.length, lkR true 4 (l.set k ⟨(lk l k).id, (lk l k).lv ++ [(v1, v2)]⟩)⟩)), (4, (l.length + 1, fam true 45 2 (lkF true (l.set k ⟨(lk l k).id, (lk l k).lv ++ [(v1, v2)]⟩)))), (1, z1l ls), (2, Sk.one (.row ⟨false, false, 55, 3, xs.length, nds xs⟩))]⟩) _ (IoFm.gp (id) (4) (k) (6) (z1t.cons1 rfl Nat.zero_lt_one (by decide) (z1w.of (fun _ => ⟨rfl, rfl⟩) rfl (Nat.le_refl _) (fun _ _ => rfl)) (Obj.lt_row.2 fun q _ => by simp [SV.ltL, SV.lt]) (Nat.le_of_ble_eq_true rfl) (z1t.cons1 rfl Nat.zero_lt_one (by decide) (z1w.of (fun _ => ⟨rfl, rfl⟩) rfl (Nat.le_refl _) (hout)) (Obj.lt_row.2 fun q _ => (zz _ _ _ _ q).2 (Nat.le_of_ble_eq_true rfl)) (Nat.le_of_ble_eq_true rfl) (z1t.consF rfl rfl Nat.zero_lt_one ⟨fun _ => ⟨rfl, rfl⟩, rfl⟩ (Nat.succ_pos _) (fun q hq hne => ⟨by omega, by rw [if_neg hne]; exact z6r _ _ _ _ _ _ id (by rw [lk_set' _ _ _ _ (by omega), if_neg hne]), zn _ _ _ _⟩) (lkF_newP _ _ _ _ _ (by rw [lk_set' _ _ _ _ (by omega), if_pos rfl]; simp) (fun q _ => by rw [lk_set' _ _ _ _ (by omega), if_pos rfl, rowsOf_lv1, app_lvs])) (zn _ _ _ _) (Nat.le_of_ble_eq_true rfl) (z1t.cons1 rfl Nat.zero_lt_one (by decide) (z1w.of (fun h => (by cases h)) rfl (Nat.le_refl _) (fun q _ => (ints_renP _ _ q).symm)) (Obj.lt_row.2 fun q _ => zr _ _ q) (Nat.le_of_ble_eq_true rfl) (z1t.cons1 rfl Nat.zero_lt_one (by decide) (z1w.of (fun h => (by cases h)) rfl (Nat.le_refl _) (fun q _ => (z5s _ _ q).symm)) (Obj.lt_row.2 fun q _ => ze _ _ q) (Nat.le_of_ble_eq_true rfl) trivial)))))) ?_
      refine Cs.reg [0, 1, 9, 11] rfl ?_;intro K hK;iterate 3 (refine z2f z6 ?_; repeat (with_reducible apply ai;exact z5))
      refine z8 (z7 (hK _ _ ?_)); clear hK K;refine Cs.nil ?_;refine hL1 _ _ ?_;rw [show (c1 : Int) - 1 = ((c1 - 1 : Nat) : Int) from by omega];refine ⟨(l.set k ⟨(lk l k).id, (lk l k).lv ++ [(v1, v2)]⟩, c1 - 1, at6), ⟨⟨lb_set (by rw [Nat.sub_add_cancel (by omega)]; exact hi1) (by omega) (by simp), r2, by dsimp only; omega⟩, by dsimp only; omega⟩, id, ?_⟩;simp only [List.length_set];exact (IoFm.g0 id)
     ·intro h120
      try replace h120 := zd h120
      refine Cs.seq ?_;refine Cs.reg [0, 1, 9, 11, 12, 13] rfl ?_;intro K hK;iterate 7 (refine z2f z6 ?_; repeat (with_reducible apply ai;exact z5))
      refine z8 (z7 (hK _ _ ?_)); clear hK K;refine Cs.seq ?_;refine Cs.reg [0, 1, 9, 11, 12, 13, 47] rfl ?_;intro K hK;iterate 2 (refine z2f z6 ?_; repeat (with_reducible apply ai;exact z5))
      refine z8 (z7 (hK _ _ ?_)); clear hK K;refine Cs.cond _ rfl ?_ ?_
      ·intro h47;replace h47 := zd h47;refine Cs.seq ?_;refine Cs.regDraw [0, 1, 9, 11, 14] [0, 1, 2, 3, 4, 5, 6, 7, 8, 9] [[], [], [0, 1], [0, 1, 2], [0, 1, 2, 3], [], [], [5, 6], [0, 1, 2, 3, 4, 5, 6, 7], [0, 1, 2, 3, 4, 5, 6, 7, 8]] [[], [], [], [], [], [], [], [0], [], []] [[0], [0], [0], [0], [0], [], [], [0], [0], [0]] Tryd.mo rfl rfl rfl (by kernel_rfl) (by kernel_rfl) (by kernel_rfl) rfl (by kernel_rfl) ?_;intro K hK;iterate 5 (refine z2f (z1a _ [] [0] rfl rfl rfl) ?_; repeat (with_reducible apply ai;exact z5))
       iterate 2 (refine z2f (z1a _ [] [] rfl rfl rfl) ?_; repeat (with_reducible apply ai;exact z5))
       refine z2f (z1a _ [0] [0] rfl rfl rfl) ?_;repeat (with_reducible apply ai;exact z5)
       refine z6x (z42 ls m at4 (lk l k).lv.length hx hm q1 (by omega)) (id) ?_;rintro s0 H0 ⟨u, at5, r1, r2, r3, r4, rfl, rfl⟩ s1 H1 hs1 hH1;obtain ⟨hs2, hH2⟩ := z6w hs1 hH1;clear hs1 hH1;subst hs2 hH2;repeat (with_reducible apply ai;exact z5)
       have hu := r3 (by omega);obtain ⟨u, rfl⟩ := Int.eq_ofNat_of_zero_le r2;iterate 2 (refine z2f (z1a _ [] [0] rfl rfl rfl) ?_; repeat (with_reducible apply ai;exact z5))
       refine z3o (z7 (hK _ _ ?_)); clear hK K;refine Cs.seq ?_;refine Cs.reg [0, 1, 9, 11, 14, 58] rfl ?_;intro K hK;(refine z2f z6 ?_; repeat (with_reducible apply ai;exact z5));refine z2f z6 ?_;repeat (with_reducible apply ai;exact z5)
       refine z6x (bool_spec ls m at5 2 hx hm r1 (by omega) (by omega)) (id) ?_;rintro s0 H0 ⟨b, at6, s1, rfl, rfl⟩ s1 H1 hs1 hH1;obtain ⟨hs2, hH2⟩ := z6w hs1 hH1;clear hs1 hH1;subst hs2 hH2;repeat (with_reducible apply ai;exact z5)
       refine z8 (z7 (hK _ _ ?_)); clear hK K;refine Cs.cond _ rfl ?_ ?_
       ·intro h58
        try replace h58 := zd h58
        refine Cs.reg [0, 1, 9, 11] rfl ?_;intro K hK;iterate 3 (refine z2f z6 ?_; repeat (with_reducible apply ai;exact z5))
        refine z2f z6 ?_;repeat (with_reducible apply ai;exact z5)
        refine z6x (id_spec ls m at6 hx hm s1 xs xs.length rfl (by omega)) (id) ?_;rintro s0 H0 ⟨v1, at7, t1, rfl, rfl⟩ s1 H1 hs1 hH1;obtain ⟨hs2, hH2⟩ := z6w hs1 hH1;clear hs1 hH1;subst hs2 hH2;repeat (with_reducible apply ai;exact z5)
        iterate 3 (refine z2f z6 ?_; repeat (with_reducible apply ai;exact z5))
        rw [lkF_setLk (by omega) (by omega)];repeat (with_reducible apply ai;exact z5)
        refine z8 (z7 (hK _ _ ?_)); clear hK K;refine Cs.nil ?_;refine hN2 _ _ ?_;refine Cs.nil ?_;refine hN1 _ _ ?_;refine Cs.reg [0, 1, 9, 11] rfl ?_;intro K hK;iterate 3 (refine z2f z6 ?_; repeat (with_reducible apply ai;exact z5))
        refine z8 (z7 (hK _ _ ?_)); clear hK K;refine Cs.nil ?_;refine hL1 _ _ ?_;have hsh := shp_setLk l k u v1;rw [show (c1 : Int) - 1 = ((c1 - 1 : Nat) : Int) from by omega];refine ⟨(setLk l k u v1, c1 - 1, at7), ⟨⟨lb_set (by rw [Nat.sub_add_cancel (by omega)]; exact hi1) (by omega) (by simp), t1, by dsimp only; omega⟩, by dsimp only; omega⟩, id, ?_⟩;simp only [hsh.len, lkR_shp hsh];exact (IoFm.g0 id)
       ·intro h58
        try replace h58 := zd h58
        refine Cs.reg [0, 1, 9, 11] rfl ?_;intro K hK;iterate 3 (refine z2f z6 ?_; repeat (with_reducible apply ai;exact z5))
        refine z2f z6 ?_;repeat (with_reducible apply ai;exact z5)
        refine z6x (id_spec ls m at6 hx hm s1 xs xs.length rfl (by omega)) (id) ?_;rintro s0 H0 ⟨v1, at7, t1, rfl, rfl⟩ s1 H1 hs1 hH1;obtain ⟨hs2, hH2⟩ := z6w hs1 hH1;clear hs1 hH1;subst hs2 hH2;repeat (with_reducible apply ai;exact z5)
        iterate 3 (refine z2f z6 ?_; repeat (with_reducible apply ai;exact z5))
        rw [lkF_setRk (by omega) (by omega)];repeat (with_reducible apply ai;exact z5)
        refine z8 (z7 (hK _ _ ?_)); clear hK K;refine Cs.nil ?_;refine hN2 _ _ ?_;refine Cs.nil ?_;refine hN1 _ _ ?_;refine Cs.reg [0, 1, 9, 11] rfl ?_;intro K hK;iterate 3 (refine z2f z6 ?_; repeat (with_reducible apply ai;exact z5))
        refine z8 (z7 (hK _ _ ?_)); clear hK K;refine Cs.nil ?_;refine hL1 _ _ ?_;have hsh := shp_setRk l k u v1;rw [show (c1 : Int) - 1 = ((c1 - 1 : Nat) : Int) from by omega];refine ⟨(setRk l k u v1, c1 - 1, at7), ⟨⟨lb_set (by rw [Nat.sub_add_cancel (by omega)]; exact hi1) (by omega) (by simp), t1, by dsimp only; omega⟩, by dsimp only; omega⟩, id, ?_⟩;simp only [hsh.len, lkR_shp hsh];exact (IoFm.g0 id)
      ·intro h47
       
       refine Cs.skip ?_;refine Cs.nil ?_;refine hN2 _ _ ?_;refine Cs.nil ?_;refine hN1 _ _ ?_;refine Cs.reg [0, 1, 9, 11] rfl ?_;intro K hK;iterate 3 (refine z2f z6 ?_; repeat (with_reducible apply ai;exact z5))
       refine z8 (z7 (hK _ _ ?_)); clear hK K;refine Cs.nil ?_;refine hL1 _ _ ?_;rw [show (c1 : Int) - 1 = ((c1 - 1 : Nat) : Int) from by omega];exact ⟨(l, c1 - 1, at4), ⟨⟨hi1.mono (by dsimp only; omega), q1, by dsimp only; omega⟩, by dsimp only; omega⟩, id, (IoFm.g0 id)⟩
 ·intro h31;obtain ⟨hi1, hi2, hi3⟩ := hi;dsimp only at hi1 hi2 hi3;refine Cs.exit ?_;refine hEL1 _ _ _ ?_;refine hX0 _ _ ?_;refine Cs.seq ?_;refine Cs.reg [8] rfl ?_;intro K hK;iterate 2 (refine z2f z6 ?_; repeat (with_reducible apply ai;exact z5))
  refine z8 (z7 (hK _ _ ?_)); clear hK K;refine Cs.ret ?_;refine hQ _ _ ?_;refine z1u.mkR (fun q => if q = 3 then 3 else if q = 4 then 4 else q) (.slc true 3 0 0 l.length) (⟨5, [(3, Sk.one (.row ⟨true, false, 42, 2, l.length, lkR true 4 l⟩)), (4, (l.length + 1, fam true 45 2 (lkF true l))), (0, z12 1 m at2)]⟩) (.inl rfl) ?_;refine z14 ?_;repeat (with_reducible apply ai;exact z5)
  refine ⟨z4p, z11, (IoFm.g1 (fun q => if q = 3 then 3 else if q = 4 then 4 else q)), IoFm.r3, ?_⟩;exact ⟨l, at2, hi2, hi1.mono (Nat.zero_le _), by trivial⟩
end Go.Proofs

namespace Go.Proofs
open Go.Sk
theorem prop_bldE {xs : List Nd} {h : Int} : propB xs h = true ↔ bldE xs h = 0 := by
 simp only [propB, Bool.and_eq_true, decide_eq_true_eq, beq_iff_eq, bldE]
 constructor
 ·rintro ⟨⟨h1, h2⟩, h3⟩; rw [if_neg (by omega), if_neg (by omega)]
 ·intro h1
  split at h1
  ·exact absurd h1 (by decide)
  ·split at h1
   ·exact absurd h1 (by decide)
   ·omega
theorem bldR_of {xs : List Nd} {h : Int} (hp : propB xs h = true) : z6l xs h = bldN (z5n xs) h.toNat := by rw [z6l, if_pos (prop_bldE.1 hp)]
theorem prop_mk {xs : List Nd} {h : Int} (h1 : z2c xs = 0) (h2 : 0 ≤ h) (h3 : h ≤ 16) : propB xs h = true := by
 simp [propB, h1, h2, h3]
theorem findL_ids {s : List Nd} (hg : z2c s = 0) {l : List Lk} (hl : l.length = s.length) (hid : ∀ i, i < s.length → (lk l i).id = (nd s i).id) {i : Nat} (hi : i < s.length) : findL l (nd s i).id = i :=
 idxB_at (p := fun q => decide ((lk l q).id = (nd s i).id)) (by simp [hid i hi]) (by omega) fun q hq => by
  rw [decide_eq_false_iff_not, hid q (by omega)];intro e;have := z72 hg q i (by omega) hi e;omega
theorem elem_ids {s : List Nd} (hg : z2c s = 0) {l : List Lk} (hl : l.length = s.length) (hid : ∀ i, i < s.length → (lk l i).id = (nd s i).id) {i : Nat} (hi : i < s.length) : z5l l (nd s i).id = (lk l i).lv := by
 rw [z5l, findL_ids hg hl hid hi, if_neg (by omega)]; rfl
theorem bld_shape {s : List Nd} {k i : Nat} (hi : i < s.length) : (lk (bldN s k) i).id = (nd s i).id ∧ (lk (bldN s k) i).lv.length = k + 1 := by
 rw [lk_bldN _ hi]; exact ⟨rfl, by simp⟩
theorem good_srt {xs : List Nd} (h : z2c xs = 0) : z2c (z5n xs) = 0 := good_perm (z3q xs) h
end Go.Proofs

namespace Go.Proofs
open Go.Sk
theorem nodup_le1 {l : List Nat} (hn : l.Nodup) (h : ∀ x ∈ l, x = 0) : l.length ≤ 1 := by
 match l, hn, h with
 |[], _, _ => simp
 |[a], _, _ => simp
 |a :: b :: t, hn, h =>
  have h1 := h a (by simp);have h2 := h b (by simp);rw [List.nodup_cons] at hn;exact absurd (by rw [h1, ← h2]; simp) hn.1
theorem prt_le1 (rp : Int → Int) (l : List Int) : (prtI rp l).length ≤ 1 ↔ ∀ u ∈ l, ∀ v ∈ l, rp u = rp v := by
 have hat : ∀ {u}, u ∈ l → ∃ i, i < l.length ∧ nth l i = u := fun hu => by
  obtain ⟨i, hi, e⟩ := List.getElem_of_mem hu;exact ⟨i, hi, by rw [nth_lt hi]; exact e⟩
 rw [prtI_eq, List.length_map]
 constructor
 ·intro h u hu v hv;obtain ⟨i, i1, i2⟩ := hat hu;obtain ⟨j, j1, j2⟩ := hat hv;obtain ⟨a, a1, a2, a3⟩ := hd_first rp l i;obtain ⟨b, b1, b2, b3⟩ := hd_first rp l j;have ha : a ∈ (List.range l.length).filter (hdB rp l) := List.mem_filter.2 ⟨List.mem_range.2 (by omega), a2⟩;have hb : b ∈ (List.range l.length).filter (hdB rp l) := List.mem_filter.2 ⟨List.mem_range.2 (by omega), b2⟩
  have hab : a = b := by
   match (List.range l.length).filter (hdB rp l), h, ha, hb with
   |[], _, ha, _ => cases ha
   |[x], _, ha, hb => rw [List.mem_singleton] at ha hb; rw [ha, hb]
   |x :: y :: t, h, _, _ => simp at h
  rw [← i2, ← j2, ← a3, ← b3, hab]
 ·intro h;refine nodup_le1 (List.filter_sublist.nodup List.nodup_range) fun i hi => ?_;rw [List.mem_filter, List.mem_range] at hi;apply Classical.byContradiction;intro hne;exact hdB_iff.1 hi.2 0 (by omega) (h _ (by rw [nth_lt (by omega)]; exact List.getElem_mem _) _ (by rw [nth_lt hi.1]; exact List.getElem_mem _))
def rpG (s : List Nd) (l : List Lk) (lo hi : Int) : Int → Int := lbV (idL s) (prN l lo hi s s.length)
theorem rpG_iff {s : List Nd} (hg : z2c s = 0) {l : List Lk} {lo hi : Int} (h0 : 0 ≤ lo) {i j : Nat} (hi' : i < s.length) (hj : j < s.length) : rpG s l lo hi (nd s i).id = rpG s l lo hi (nd s j).id ↔ Cn (EgX s l lo hi) (nd s i).id (nd s j).id := by
 have hd := idL_dst hg;rw [← nth_idL hi', ← nth_idL hj];rw [rpG, lbV_at hd _ (by rw [z58]; exact hi'), lbV_at hd _ (by rw [z58]; exact hj), lbV_eq hd _ (by rw [z58]; exact hi') (by rw [z58]; exact hj)]
 constructor
 ·exact fun g => g.sub fun a b e => .edge ((EdI_iff hg (fun _ => rfl) h0).1 e)
 ·exact fun g => g.sub fun a b e => .edge ((EdI_iff hg (fun _ => rfl) h0).2 e)
theorem mem_idL {s : List Nd} {v : Int} : v ∈ idL s ↔ ∃ i, i < s.length ∧ (nd s i).id = v := by
 rw [idL, List.mem_map]
 constructor
 ·rintro ⟨x, hx, e⟩;obtain ⟨i, hi, hxe⟩ := List.getElem_of_mem hx;exact ⟨i, hi, by rw [z61 hi, hxe]; exact e⟩
 ·rintro ⟨i, hi, e⟩;exact ⟨nd s i, nd_mem hi, e⟩
theorem cmp_le1 {s : List Nd} (hg : z2c s = 0) {l : List Lk} {lo hi : Int} (h0 : 0 ≤ lo) : (cmpG s l lo hi).length ≤ 1 ↔ ∀ i j, i < s.length → j < s.length → Cn (EgX s l lo hi) (nd s i).id (nd s j).id := by
 rw [cmpG, cmpX, prt_le1]
 constructor
 ·intro h i j hi' hj;exact (rpG_iff hg h0 hi' hj).1 (h _ (mem_idL.2 ⟨i, hi', rfl⟩) _ (mem_idL.2 ⟨j, hj, rfl⟩))
 ·intro h u hu v hv;obtain ⟨i, i1, i2⟩ := mem_idL.1 hu;obtain ⟨j, j1, j2⟩ := mem_idL.1 hv;rw [← i2, ← j2];exact (rpG_iff hg h0 i1 j1).2 (h i j i1 j1)
theorem EgX.mono {s : List Nd} {l l' : List Lk} {lo hi lo' hi' : Int} (h1 : lo' ≤ lo) (h2 : hi ≤ hi') (h3 : ∀ v q, q < (z5l l v).length → q < (z5l l' v).length ∧ pI (z5l l' v) q = pI (z5l l v) q) {u v : Int} (h : EgX s l lo hi u v) : EgX s l' lo' hi' u v := by
 obtain ⟨a, b, q, q1, q2, q3, q4⟩ := h;obtain ⟨g1, g2⟩ := h3 u q q3;exact ⟨a, b, q, by omega, by omega, g1, by rw [g2]; exact q4⟩
theorem insI_perm (rp : Int → Int) (v : Int) : ∀ cs : List (List Int), (insI rp v cs).flatten.Perm (cs.flatten ++ [v])
 |[] => by simp [insI]
 |c :: cs => by
  rw [insI]
  split
  ·rw [List.flatten_cons, List.flatten_cons, List.append_assoc, List.append_assoc];exact List.Perm.append_left _ List.perm_append_comm
  ·rw [List.flatten_cons, List.flatten_cons, List.append_assoc];exact List.Perm.append_left _ (insI_perm rp v cs)
theorem prt_perm (rp : Int → Int) (l : List Int) : (prtI rp l).flatten.Perm l := by
 refine snoc_ind (p := fun l => (prtI rp l).flatten.Perm l) (by simp [prtI]) (fun l v ih => ?_) l;rw [prtI_snoc];exact (insI_perm rp v _).trans (ih.append_right _)
theorem ind_ge {cs : List (List Int)} {i : Nat} (h : cs.length ≤ i) : ind cs i = [] := by simp [ind, List.getD, h]
theorem prt_pos (rp : Int → Int) (l : List Int) : ∀ i x, x ∈ ind (prtI rp l) i → posI rp (rp x) (prtI rp l) = i := by
 refine snoc_ind (p := fun l => ∀ i x, x ∈ ind (prtI rp l) i → posI rp (rp x) (prtI rp l) = i) (fun i x hx => by simp [prtI, ind, List.getD] at hx) (fun l v ih => ?_) l;have hne := prtI_ne rp l;rw [prtI_snoc]
 generalize prtI rp l = cs at ih hne
 intro i x hx
 by_cases h : posI rp (rp v) cs < cs.length
 ·rw [insI_old h] at hx ⊢;rw [posI_old _ _ _ hne]
  by_cases hi : i < cs.length
  ·have hs : ind (cs.set (posI rp (rp v) cs) (ind cs (posI rp (rp v) cs) ++ [v])) i = if i = posI rp (rp v) cs then ind cs (posI rp (rp v) cs) ++ [v] else ind cs i := by
    by_cases e : i = posI rp (rp v) cs
    ·subst e; rw [if_pos rfl, ind_lt (by simpa using h)]; simp
    ·rw [if_neg e]
     show (cs.set _ _).getD i [] = cs.getD i []
     simp only [List.getD_eq_getElem?_getD];rw [List.getElem?_set_ne (by omega)]
   rw [hs] at hx
   split at hx
   ·rename_i e;rcases List.mem_append.1 hx with hx | hx
    ·rw [e]; exact ih _ _ hx
    ·rw [List.mem_singleton] at hx; rw [hx, e]
   ·exact ih _ _ hx
  ·rw [ind_ge (by simpa using hi)] at hx; cases hx
 ·rw [insI_new h] at hx ⊢;rw [posI_new]
  by_cases hi : i < cs.length
  ·rw [ind_append hi] at hx;have := ih i x hx;rw [if_pos (by omega)]; exact this
  ·by_cases e : i = cs.length
   ·subst e;rw [ind_last, List.mem_singleton] at hx;subst hx;rw [if_neg h, if_pos rfl]
   ·rw [ind_ge (by simp; omega)] at hx; cases hx
theorem flat_take {cs : List (List Int)} {i : Nat} (h : i < cs.length) : (cs.take (i + 1)).flatten = (cs.take i).flatten ++ ind cs i := by
 rw [take_ind h, List.flatten_append]; simp
def pdL (cs : List (List Int)) (i j : Nat) : List Int := (cs.take i).flatten ++ (ind cs i).take j
theorem pdL_step {cs : List (List Int)} {i j : Nat} (h : j < (ind cs i).length) : pdL cs i (j + 1) = pdL cs i j ++ [nth (ind cs i) j] := by
 rw [pdL, pdL, List.take_succ_eq_append_getElem h, List.append_assoc, nth_lt h]
theorem pdL_next {cs : List (List Int)} {i : Nat} (h : i < cs.length) : pdL cs i (ind cs i).length = pdL cs (i + 1) 0 := by
 rw [pdL, pdL, List.take_length, List.take_zero, List.append_nil, flat_take h]
theorem pdL_sub {cs : List (List Int)} {i j : Nat} (h : i < cs.length) : (pdL cs i j).Sublist cs.flatten := by
 have h1 : cs.flatten = (cs.take i).flatten ++ (ind cs i ++ (cs.drop (i + 1)).flatten) := by
  conv => lhs; rw [← List.take_append_drop (i + 1) cs]
  rw [List.flatten_append, flat_take h, List.append_assoc]
 rw [h1, pdL];exact List.Sublist.append_left ((List.take_sublist _ _).trans (List.sublist_append_left _ _)) _
theorem idL_nodup {s : List Nd} (hg : z2c s = 0) : (idL s).Nodup := by
 rw [List.nodup_iff_pairwise_ne, List.pairwise_iff_getElem];intro i j hi hj hij e;have := idL_dst hg i j hi hj (by rw [nth_lt hi, nth_lt hj]; exact e);omega
theorem pdL_new {cs : List (List Int)} (hn : cs.flatten.Nodup) {i j : Nat} (hi : i < cs.length) (h : j < (ind cs i).length) : nth (ind cs i) j ∉ pdL cs i j := by
 have h1 := (pdL_sub (j := j + 1) hi).nodup hn;rw [pdL_step h, List.nodup_append] at h1;intro hm;exact h1.2.2 _ hm _ (List.mem_singleton.2 rfl) rfl
def labN (rp : Int → Int) (cs : List (List Int)) (done : List Int) (v : Int) : Int := if v ∈ done then posI rp (rp v) cs + 1 else 0
theorem prt_cls {rp : Int → Int} {s : List Nd} {lv : Int} (h : ∀ x ∈ s, ∀ y ∈ s, (rp x.id = rp y.id ↔ z4i x.word y.word lv = true)) : ∀ l : List Nd, (∀ x ∈ l, x ∈ s) → prtI rp (idL l) = (clsG lv l []).map fun c => c.map (·.id) := by
 have hins : ∀ (cs : List (List Nd)) (x : Nd), x ∈ s → (∀ c ∈ cs, c ≠ [] ∧ ∀ y ∈ c, y ∈ s) → insI rp x.id (cs.map fun c => c.map (·.id)) = (insC lv x cs).map fun c => c.map (·.id) := by
  intro cs
  induction cs with
  |nil => intro x _ _; rfl
  |cons c cs ih =>
   intro x hx hc;obtain ⟨h1, h2⟩ := hc c (List.mem_cons_self ..)
   have hh : nth (c.map (·.id)) 0 = (hdN c).id := by
    cases c with
    |nil => exact absurd rfl h1
    |cons a t => rfl
   rw [List.map_cons, insI, insC, hh];have hiff := h (hdN c) (h2 _ (hdN_mem h1)) x hx
   by_cases e : z4i (hdN c).word x.word lv = true
   ·rw [if_pos (hiff.2 e), if_pos e, List.map_cons, List.map_append]; rfl
   ·rw [if_neg (fun g => e (hiff.1 g)), if_neg e, ih x hx (fun d hd => hc d (List.mem_cons_of_mem _ hd)), List.map_cons]
 have hmem : ∀ (l : List Nd) , (∀ x ∈ l, x ∈ s) → ∀ c ∈ clsG lv l [], c ≠ [] ∧ ∀ y ∈ c, y ∈ s := by
  intro l;refine snoc_ind (p := fun l => (∀ x ∈ l, x ∈ s) → ∀ c ∈ clsG lv l [], c ≠ [] ∧ ∀ y ∈ c, y ∈ s) (fun _ c hc => by simp [clsG] at hc) (fun l x ih hl => ?_) l;have ih' := ih fun y hy => hl y (List.mem_append_left _ hy);have hx := hl x (List.mem_append_right _ (List.mem_singleton.2 rfl));rw [clsG_snoc]
  generalize clsG lv l [] = cs at ih'
  clear ih
  induction cs with
  |nil => intro c hc; rw [insC, List.mem_singleton] at hc; subst hc; exact ⟨by simp, fun y hy => by rw [List.mem_singleton] at hy; subst hy; exact hx⟩
  |cons d cs ih2 =>
   intro c hc;rw [insC] at hc
   split at hc
   ·rcases List.mem_cons.1 hc with rfl | hc
    ·refine ⟨by simp, fun y hy => ?_⟩;rcases List.mem_append.1 hy with hy | hy
     ·exact (ih' d (List.mem_cons_self ..)).2 y hy
     ·rw [List.mem_singleton] at hy; subst hy; exact hx
    ·exact ih' c (List.mem_cons_of_mem _ hc)
   ·rcases List.mem_cons.1 hc with rfl | hc
    ·exact ih' _ (List.mem_cons_self ..)
    ·exact ih2 (fun c hc => ih' c (List.mem_cons_of_mem _ hc)) c hc
 intro l;refine snoc_ind (p := fun l => (∀ x ∈ l, x ∈ s) → prtI rp (idL l) = (clsG lv l []).map fun c => c.map (·.id)) (fun _ => rfl) (fun l x ih hl => ?_) l;have e : idL (l ++ [x]) = idL l ++ [x.id] := by simp [idL]
 rw [e, prtI_snoc, ih fun y hy => hl y (List.mem_append_left _ hy), clsG_snoc];exact hins _ x (hl x (List.mem_append_right _ (List.mem_singleton.2 rfl))) (hmem l fun y hy => hl y (List.mem_append_left _ hy))
theorem grp_sub (s : List Nd) (lv w : Int) : (grpW s lv w).Sublist s := List.filter_sublist
theorem grp_good {s : List Nd} (hg : z2c s = 0) (lv w : Int) : z2c (grpW s lv w) = 0 := good_sub (grp_sub s lv w) hg
theorem mem_grp {s : List Nd} {lv w : Int} {x : Nd} : x ∈ grpW s lv w ↔ x ∈ s ∧ z4i x.word w lv = true := List.mem_filter
theorem nd_of_mem {s : List Nd} {x : Nd} (h : x ∈ s) : ∃ i, i < s.length ∧ nd s i = x := by
 obtain ⟨i, hi, e⟩ := List.getElem_of_mem h;exact ⟨i, hi, by rw [z61 hi]; exact e⟩
theorem grp_same {s : List Nd} {lv : Int} {x y : Nd} (h : z4i x.word y.word lv = true) : grpW s lv x.word = grpW s lv y.word := by
 apply List.filter_congr;intro z _;rw [sameW_comm z.word, sameW_comm z.word];exact sameW_congr h
theorem edge_iff {s : List Nd} (hg : z2c s = 0) {k : Nat} (hk : k ≤ 16) {i j : Nat} (hi : i < s.length) (hj : j < s.length) : Cn (EgX s (bldN s k) k k) (nd s i).id (nd s j).id ↔ z4i (nd s i).word (nd s j).word k = true := by
 have hel : ∀ {i}, i < s.length → z5l (bldN s k) (nd s i).id = (List.range (k + 1)).map fun (l : Nat) => nbN s (nd s i) l := fun hi => by
  rw [elem_ids hg (bldN_len _ _) (fun i hi => (bld_shape hi).1) hi, lk_bldN _ hi]
 have hpk : ∀ {i}, i < s.length → pI (z5l (bldN s k) (nd s i).id) k = nbN s (nd s i) k := fun hi => by
  rw [hel hi, pI_lt (by simp)]; simp
 constructor
 ·have key : ∀ u v, Cn (EgX s (bldN s k) k k) u v → ∀ i j, i < s.length → j < s.length → (nd s i).id = u → (nd s j).id = v → z4i (nd s i).word (nd s j).word k = true := by
   intro u v h;have hinn : ∀ a b, EgX s (bldN s k) k k a b → atB s s.length a = true ∧ atB s s.length b = true := fun a b e => ⟨e.1, e.2.1⟩
   induction h with
   |refl v => intro i j hi hj h1 h2; rw [z72 hg i j hi hj (h1.trans h2.symm)]; exact sameW_refl (by omega) _
   |@edge u v e =>
    intro i j hi hj h1 h2;obtain ⟨_, _, q, q1, q2, q3, q4⟩ := e;have hqk : q = k := by omega
    subst hqk;rw [← h1, hpk hi, nbN, adjN] at q4;have hjp := (id_pos hg hj).1
    have fin : ∀ p, p < (grpW s q (nd s i).word).length → v = (nd (grpW s q (nd s i).word) p).id → z4i (nd s i).word (nd s j).word q = true := fun p hp hv => by
     have hm := nd_mem hp;obtain ⟨m1, m2⟩ := mem_grp.1 hm;obtain ⟨j', j1, j2⟩ := nd_of_mem m1;have : j' = j := z72 hg _ _ j1 hj (by rw [j2, h2]; exact hv.symm);subst this;rw [← j2] at m2;exact z69 m2
    have hidl : idN (grpW s q (nd s i).word) (nd s i).id < (grpW s q (nd s i).word).length := by
     have hm : nd s i ∈ grpW s q (nd s i).word := mem_grp.2 ⟨nd_mem hi, sameW_refl (by omega) _⟩;obtain ⟨p, p1, p2⟩ := nd_of_mem hm;rw [← p2];have := idN_at (z72 (grp_good hg q (nd s i).word)) p1;rw [p2] at this ⊢;rw [this]; exact p1
    rcases q4 with q4 | q4
    ·dsimp only at q4
     split at q4
     ·exact fin _ (by omega) q4
     ·rw [h2] at hjp; omega
    ·dsimp only at q4
     split at q4
     ·exact fin _ (by omega) q4
     ·rw [h2] at hjp; omega
   |symm _ ih => intro i j hi hj h1 h2; exact z69 (ih j i hj hi h2 h1)
   |@trans a b c h1' h2' i1 i2 =>
    intro i j hi hj h1 h2;rcases h1'.inn hinn with e | ⟨_, hb⟩
    ·exact i2 i j hi hj (h1.trans e) h2
    ·obtain ⟨m, m1, m2⟩ := z6k.1 hb;exact sameW_trans (i1 i m hi m1 h1 m2) (i2 m j m1 hj m2 h2)
  exact fun h => key _ _ h i j hi hj rfl rfl
 ·intro h;have hgg := grp_good hg k (nd s i).word;have hdd := z72 hgg;obtain ⟨g, hge⟩ : ∃ g, grpW s k (nd s i).word = g := ⟨_, rfl⟩;rw [hge] at hgg hdd
  have hin : ∀ p, p < g.length → ∃ m, m < s.length ∧ nd s m = nd g p ∧ grpW s k (nd s m).word = g := fun p hp => by
   have hm := nd_mem hp;rw [← hge] at hm;obtain ⟨m1, m2⟩ := mem_grp.1 hm;rw [hge] at m1 m2;obtain ⟨m, n1, n2⟩ := nd_of_mem m1;exact ⟨m, n1, n2, by rw [n2, grp_same m2, hge]⟩
  have hstep : ∀ p, p + 1 < g.length → Cn (EgX s (bldN s k) k k) (nd g p).id (nd g (p + 1)).id := fun p hp => by
   obtain ⟨m, m1, m2, m3⟩ := hin p (by omega);obtain ⟨m', m1', m2', _⟩ := hin (p + 1) hp;refine .edge ⟨z6k.2 ⟨m, m1, by rw [m2]⟩, z6k.2 ⟨m', m1', by rw [m2']⟩, k, by omega, by omega, ?_, .inr ?_⟩
   ·rw [← m2, hel m1]; simp
   ·rw [← m2, hpk m1, nbN, m3, adjN];have : idN g (nd s m).id = p := by rw [m2]; exact idN_at hdd (by omega)
    dsimp only;rw [this, if_pos hp]
  have hchain : ∀ d p, p + d < g.length → Cn (EgX s (bldN s k) k k) (nd g p).id (nd g (p + d)).id := by
   intro d
   induction d with
   |zero => intro p _; exact .refl _
   |succ d ih => intro p hp; exact (ih p (by omega)).trans (hstep (p + d) (by omega))
  have hi' : nd s i ∈ g := by rw [← hge]; exact mem_grp.2 ⟨nd_mem hi, sameW_refl (by omega) _⟩
  have hj' : nd s j ∈ g := by rw [← hge]; exact mem_grp.2 ⟨nd_mem hj, z69 h⟩
  obtain ⟨p, p1, p2⟩ := nd_of_mem hi';obtain ⟨p', p1', p2'⟩ := nd_of_mem hj';rw [← p2, ← p2'];rcases Nat.le_total p p' with hle | hle
  ·have := hchain (p' - p) p (by omega);rw [show p + (p' - p) = p' by omega] at this;exact this
  ·have := hchain (p - p') p' (by omega);rw [show p' + (p - p') = p by omega] at this;exact this.symm
theorem cmp_bld {s : List Nd} (hg : z2c s = 0) {k : Nat} (hk : k ≤ 16) : cmpG s (bldN s k) k k = lstG s k := by
 rw [cmpG, cmpX, lstG, clsN, if_neg (by omega)];refine prt_cls (s := s) (fun x hx y hy => ?_) s fun _ h => h;obtain ⟨i, i1, rfl⟩ := nd_of_mem hx;obtain ⟨j, j1, rfl⟩ := nd_of_mem hy;exact (rpG_iff hg (by omega) i1 j1).trans (edge_iff hg hk i1 j1)
theorem con_bld {s : List Nd} (hg : z2c s = 0) (k : Nat) : (cmpG s (bldN s k) 0 16).length ≤ 1 := by
 rw [cmp_le1 hg (by omega)];intro i j hi hj;have h0 : Cn (EgX s (bldN s 0) (0 : Nat) (0 : Nat)) (nd s i).id (nd s j).id := (edge_iff hg (by omega) hi hj).2 (z6e.2 ⟨by omega, fun q hq => by omega⟩);refine h0.sub fun a b e => .edge ?_;obtain ⟨e1, e2, q, q1, q2, q3, q4⟩ := e;have hq0 : q = 0 := by omega
 subst hq0;obtain ⟨m, m1, m2⟩ := z6k.1 e1
 have hel : ∀ k', z5l (bldN s k') (nd s m).id = (List.range (k' + 1)).map fun (l : Nat) => nbN s (nd s m) l := fun k' => by
  rw [elem_ids hg (bldN_len _ _) (fun i hi => (bld_shape hi).1) m1, lk_bldN _ m1]
 have hp0 : ∀ k', pI (z5l (bldN s k') (nd s m).id) 0 = nbN s (nd s m) (0 : Nat) := fun k' => by
  rw [hel, pI_lt (by simp)]; simp
 refine ⟨e1, e2, 0, by omega, by omega, ?_, ?_⟩
 ·rw [← m2, hel]; simp
 ·rw [← m2, hp0] at q4 ⊢; exact q4
end Go.Proofs
