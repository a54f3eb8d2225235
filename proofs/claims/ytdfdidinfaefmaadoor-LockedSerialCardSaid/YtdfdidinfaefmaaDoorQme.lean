/-
  Walks and plain facts, joined: part 5 of 5.
  Conditions: those that each statement names.
-/
import Derived.Test.YtdfdidinfaefmaaDoorQmd
set_option linter.unusedSimpArgs false
set_option linter.unusedVariables false
set_option maxRecDepth 4000
namespace Go.Proofs
open Go.Sk
theorem Rch.start0 {r : List Cl × List Pr} {cs : List Cl} {ps : List Pr} (q k c : Int) (h : Rch r (cs, ps)) (he : (z4b cs ps q k c == 0) = true) : Rch r (z2r cs ps q k c) := .start q k c h (by simpa using he)
noncomputable def plS (b : Bool) (n m k : Nat) : SV := .tup [.agg (if b then [.slc true 2 0 0 n, .slc true 3 0 0 m] else [.slc true 4 0 0 n, .slc true 5 0 0 m]), .int .i64 k]
noncomputable def plH (b : Bool) (cs : List Cl) (ps : List Pr) (r : List Cl × List Pr) (t : Nat × (Nat → Sk.Obj)) : AH := if b then ⟨4, [(0, t), (3, zi ps), (2, zg cs)]⟩ else ⟨6, [(0, t), (5, zi r.2), (4, zg r.1), (3, zi ps), (2, zg cs)]⟩
/-- What is known in the loop of play. -/
noncomputable def plG (cs0 : List Cl) (ps0 : List Pr) (m : Nat) (ls : List Int) (σ : Bool × (List Cl × List Pr) × Nat × Nat × Nat) : AH :=
 if σ.1 then ⟨6, [(0, zq 1 m σ.2.2.1), (4, zl 2 σ.2.1.1.length 3 σ.2.1.2.length), (5, one (.row ⟨true, true, 35, 2, 1, fun _ => [.nils, .nils]⟩)), (3, zi σ.2.1.2), (2, zg σ.2.1.1), (1, zf ls)]⟩
 else ⟨8, [(0, zq 1 m σ.2.2.1), (7, zi σ.2.1.2), (6, zg σ.2.1.1), (4, zl 6 σ.2.1.1.length 7 σ.2.1.2.length), (5, one (.row ⟨true, true, 35, 2, 1, fun _ => [.nils, .nils]⟩)), (3, zi ps0), (2, zg cs0), (1, zf ls)]⟩
theorem z1q {P : Program} {f : FuncId} {args args0 : List SV} {H0 H : AH} {R : SV → AH → Prop} {dr : Bool} {W : List Nat} {k : SV → AH → Prop} (hF : z1d P f args0 H0 R) (ρ : Nat → Nat)
  (hk : ∀ s0 H1, R s0 H1 → ∀ s1 H2, s1 = s0.ren (z5h H0.nxt H.nxt ρ) → H2 = after H0.nxt ρ H0 H H1 → k s1 H2)
  (a1 : SV.wkL args (SV.renL ρ args0) := by simp [SV.wkL, SV.wk, SV.renL, SV.ren, z13, zg, z15, zi, zm, zl, zn, z10, zo, z7, ze, zc, zu, zf, z9, z8, zb, Cl.sv, Pr.sv, ints, zq]) (a2 : SV.ltL H.nxt (SV.renL ρ args0) := by simp [SV.renL, SV.ren, SV.ltL, SV.lt, z13, zg, z15, zi, zm, zl, zn, z10, zo, z7, ze, zc, zu, zf, z9, z8, zb, Cl.sv, Pr.sv, ints, zq]) (a3 : SV.ltL H0.nxt args0 := by simp [SV.ltL, SV.lt, z13, zg, z15, zi, zm, zl, zn, z10, zo, z7, ze, zc, zu, zf, z9, z8, zb, Cl.sv, Pr.sv, ints, zq])
  (a4 : (List.range H0.nxt).all (fun id => decide (ρ id < H.nxt)) = true := by exact rfl) (a5 : z18 ρ H0.nxt H.os H0.os := by simp [z18, Sk.find, one, z1i, z1j, z24, SV.renL, SV.ren, Obj.lt_row, SV.ltL, SV.lt, z13, zg, z15, zi, zm, zl, zn, z10, zo, z7, ze, zc, zu, zf, z9, z8, zb, Cl.sv, Pr.sv, ints, zq]) (a6 : injB ρ H0.os = true := by exact rfl) (a7 : z25 H0.os := by simp [z25, one, Obj.own, z13, zg, z15, zi, zm, zl, zn, z10, zo, z7, ze, zc, zu, zf, z9, z8, zb, Cl.sv, Pr.sv, ints, zq])
  (a8 : (H0.os.map (·.1)).Nodup := by simp) (a9 : ∀ x ∈ H0.os, (x.2.2 0).own = true → (Sk.find H.os (ρ x.1)).map (·.1) = some x.2.1 := by simp [one, Obj.own, Sk.find, z13, zg, z15, zi, zm, zl, zn, z10, zo, z7, ze, zc, zu, zf, z9, z8, zb, Cl.sv, Pr.sv, ints, zq]) (a10 : dr = true → (z1k ρ H0.os).all (fun id => W.contains id) = true := by simp [z1k, one, Obj.own, z13, zg, z15, zi, zm, zl, zn, z10, zo, z7, ze, zc, zu, zf, z9, z8, zb, Cl.sv, Pr.sv, ints, zq]) : callK P f args H dr W k :=
 z5b hF ρ a1 a2 a3 a4 a5 a6 a7 a8 a9 a10 hk
theorem z2c {s e e1 : SV} {H g g1 : AH} (h1 : s = e) (h2 : H = g) (a1 : e = e1 := by simp only [after, z5h, id, z28, reduceCtorEq, Nat.reduceEqDiff, Nat.one_ne_zero, Nat.zero_ne_one, z3b, z1v, z1k, one, Obj.own, Obj.ren, Row.ren, SV.ren, SV.renL, List.map_cons, List.map_nil, List.nil_append, List.cons_append, ↓reduceIte, Nat.reduceLT, Nat.reduceAdd, Nat.reduceSub, Nat.reduceEqDiff, Nat.add_zero, Bool.false_eq_true, Tryd.tyInt, Tryd.szInt, Tryd.zInt, Tryd.tyInts, Tryd.szInts, Tryd.tyErr, Tryd.szErr, Tryd.zErr, Tryd.tyBool, Tryd.szBool, Tryd.zBool, Tryd.tyStr, Tryd.szStr, Tryd.tyCl, Tryd.szCl, Tryd.zCl, Tryd.tyPr, Tryd.szPr, Tryd.zPr, Tryd.tyCls, Tryd.szCls, Tryd.tyPrs, Tryd.szPrs, Tryd.tyLs, Tryd.szLs, Tryd.zLs, z13, zg, z15, zi, zm, zl, zn, z10, zo, z4o, z4p, z4q, z4r, z4s, z4v, z4w, z4x, z4y, z4z, z50, z51, z1y, z1z, Cl.sv, Pr.sv, zf, z9, z17, z1o, z1s, Tryd.tyTape, Tryd.szTape, Tryd.zTape, zq, lsS, lsH, z1g, z20, z2h, z1g, lsS, lsH]; exact rfl) (a2 : g = g1 := by simp only [after, z5h, id, z28, reduceCtorEq, Nat.reduceEqDiff, Nat.one_ne_zero, Nat.zero_ne_one, z3b, z1v, z1k, one, Obj.own, Obj.ren, Row.ren, SV.ren, SV.renL, List.map_cons, List.map_nil, List.nil_append, List.cons_append, ↓reduceIte, Nat.reduceLT, Nat.reduceAdd, Nat.reduceSub, Nat.reduceEqDiff, Nat.add_zero, Bool.false_eq_true, Tryd.tyInt, Tryd.szInt, Tryd.zInt, Tryd.tyInts, Tryd.szInts, Tryd.tyErr, Tryd.szErr, Tryd.zErr, Tryd.tyBool, Tryd.szBool, Tryd.zBool, Tryd.tyStr, Tryd.szStr, Tryd.tyCl, Tryd.szCl, Tryd.zCl, Tryd.tyPr, Tryd.szPr, Tryd.zPr, Tryd.tyCls, Tryd.szCls, Tryd.tyPrs, Tryd.szPrs, Tryd.tyLs, Tryd.szLs, Tryd.zLs, z13, zg, z15, zi, zm, zl, zn, z10, zo, z4o, z4p, z4q, z4r, z4s, z4v, z4w, z4x, z4y, z4z, z50, z51, z1y, z1z, Cl.sv, Pr.sv, zf, z9, z17, z1o, z1s, Tryd.tyTape, Tryd.szTape, Tryd.zTape, zq, lsS, lsH, z1g, z20, z2h, z1g, lsS, lsH]; exact rfl) : s = e1 ∧ H = g1 := ⟨h1.trans a1, h2.trans a2⟩
theorem z5x {X : Cx} {fr : Fr} {H : AH} {fr1 : Fr} {H1 : AH} (ρ : Nat → Nat) (a1 : z1f ρ H1.nxt fr fr1 := by simp [z1f, Sk.get, SV.ren, SV.renL, SV.lt, SV.ltL, z13, zg, z15, zi, zm, zl, zn, z10, zo, z7, ze, zc, zu, zf, z9, z8, zb, Cl.sv, Pr.sv, ints, zq]) (a2 : z18 ρ H1.nxt H.os H1.os := by simp [z18, Sk.find, one, z1i, z1j, SV.renL, SV.ren, Obj.lt_row, SV.ltL, SV.lt, z13, zg, z15, zi, zm, zl, zn, z10, zo, z7, ze, zc, zu, zf, z9, z8, zb, Cl.sv, Pr.sv, ints, zq]) (a3 : injB ρ H1.os = true := by exact rfl)
  (a4 : z25 H1.os := by simp [z25, one, z13, zg, z15, zi, zm, zl, zn, z10, zo, z7, ze, zc, zu, zf, z9, z8, zb, Cl.sv, Pr.sv, ints, zq]) (a5 : (List.range X.m0).all (fun id => ρ id == id) = true := by exact rfl) (a6 : X.m0 ≤ H1.nxt := by exact Nat.le_of_ble_eq_true rfl) (a7 : z25 H.os := by simp [z25, one, Obj.own, z13, zg, z15, zi, zm, zl, zn, z10, zo, z7, ze, zc, zu, zf, z9, z8, zb, Cl.sv, Pr.sv, ints, zq])
  (a8 : z2a X.m0 H.os H1.os := by simp [z2a, one, Obj.own, Sk.find, z13, zg, z15, zi, zm, zl, zn, z10, zo, z7, ze, zc, zu, zf, z9, z8, zb, Cl.sv, Pr.sv, ints, zq]) (a9 : bigB X.m0 ρ H1.os = true := by exact rfl) : z22 X ρ fr H fr1 H1 := z22.mk' ρ a1 a2 a3 a4 a5 a6 a7 a8 a9
theorem LmDm.r3 {a : Prop} (h : a := by simp [z5m, one, Obj.own, z13, zg, z15, zi, zm, zl, zn, z10, zo, z7, ze, zc, zu, zf, z9, z8, zb, Cl.sv, Pr.sv, ints, zq]) : a := h
theorem zt {a b c : Prop} (r : a → c) (h : b) (e : a = b := by simp only [stp, isQ, z4l, Sk.get, Sk.put, z33, z1p, ↓reduceIte, reduceCtorEq, Nat.reduceEqDiff, true_and, and_true, true_implies, implies_true, forall_const, imp_self, Bool.false_eq_true, false_implies, false_and, and_false, Bool.false_and, Bool.and_false, qop, grdK, List.getElem?_toArray, List.getElem?_cons_zero, List.getElem?_cons_succ, beq_true, beq_false, beq_self_eq_true, Bool.and_true, Bool.true_and, Bool.not_true, Bool.not_false, Bool.not_not, Bool.and_eq_true, Bool.not_eq_true', Bool.not_eq_false', z27, Bool.cond_true_left, Bool.cond_false_left, Bool.cond_true_right, Bool.cond_false_right, cond_true, cond_false, and_imp, z5d, Sk.find, one, Kd.agg, List.contains_nil, List.contains_cons, Nat.reduceBEq, Bool.or_false, Bool.true_or, Bool.or_true, Bool.false_or, ite_self, Nat.lt_one_iff, Nat.zero_add, Nat.add_zero, Nat.reduceAdd, Nat.reduceMul, Nat.reduceSub, Nat.reduceLT, Nat.reduceLeDiff, Nat.le_refl, Nat.zero_le, ne_eq, Nat.one_ne_zero, not_false_eq_true, not_true_eq_false, Int.toNat_natCast, Int.reduceToNat, List.length_cons, List.length_nil, and_self, Kd.slice.injEq, exists_eq', Option.map_some, Option.some.injEq, List.drop_zero, List.drop_succ_cons, List.take_succ_cons, List.take_zero, List.take_nil, List.drop_nil, List.nil_append, List.cons_append, List.append_nil, List.append_eq, List.all_cons, List.all_nil, spl, z3a, SV.cells, SV.scalar, binK, binII, binBB, intK, z3n, strK, z41, binAA, z54, unK, convK, z45, z46, z6b, z47, z48, optK, z4a, bndK, Option.isSome_some, Option.isSome_none, Nat.sub_zero, or_true, true_or, z40, z44, z62, z4j, lenK, z26.len, z5u, mmK, z2o, eop, copyK, srcK, z2i, setO, z4m, z31, z28, z3y, boxK, z32, z3p, z4c, updF, mkK, z68, z26.ofKd, z69, z26.add, z26.okKd, z49, z26.has, Tryd.tyInt, Tryd.szInt, Tryd.zInt, Tryd.tyInts, Tryd.szInts, Tryd.tyErr, Tryd.szErr, Tryd.zErr, Tryd.tyBool, Tryd.szBool, Tryd.zBool, Tryd.tyStr, Tryd.szStr, Tryd.tyCl, Tryd.szCl, Tryd.zCl, Tryd.tyPr, Tryd.szPr, Tryd.zPr, Tryd.tyCls, Tryd.szCls, Tryd.tyPrs, Tryd.szPrs, Tryd.tyLs, Tryd.szLs, Tryd.zLs, z13, zg, z15, zi, zm, zl, zn, z10, zo, z4o, z4p, z4q, z4r, z4s, z4v, z4w, z4x, z4y, z4z, z50, z51, z1y, z1z, Cl.sv, Pr.sv, zf, z9, z17, z1o, z1s, ints, Tryd.tyTape, Tryd.szTape, Tryd.zTape, zq, lsS, lsH]; exact rfl) : c := r (Eq.mpr e h)
theorem z3f {X : Cx} {fr : Fr} {H : AH} {fr1 : Fr} {H1 : AH} (ρ : Nat → Nat) (a1 : z1f ρ H1.nxt fr fr1 := by simp [z1f, Sk.get, z3o, SV.lt, SV.ltL, z13, zg, z15, zi, zm, zl, zn, z10, zo, z7, ze, zc, zu, zf, z9, z8, zb, Cl.sv, Pr.sv, ints, zq]) (a2 : z18 ρ H1.nxt H.os H1.os := by simp [z18, Sk.find, one, z1i, z1j, z24, Obj.lt_row, SV.ltL, SV.lt, z13, zg, z15, zi, zm, zl, zn, z10, zo, z7, ze, zc, zu, zf, z9, z8, zb, Cl.sv, Pr.sv, ints, zq]) (a3 : injB ρ H1.os = true := by exact rfl)
  (a4 : z25 H1.os := by simp [z25, one, z13, zg, z15, zi, zm, zl, zn, z10, zo, z7, ze, zc, zu, zf, z9, z8, zb, Cl.sv, Pr.sv, ints, zq]) (a5 : (List.range X.m0).all (fun id => ρ id == id) = true := by exact rfl) (a6 : X.m0 ≤ H1.nxt := by exact Nat.le_of_ble_eq_true rfl) (a7 : z25 H.os := by simp [z25, one, Obj.own, z13, zg, z15, zi, zm, zl, zn, z10, zo, z7, ze, zc, zu, zf, z9, z8, zb, Cl.sv, Pr.sv, ints, zq])
  (a8 : z2a X.m0 H.os H1.os := by simp [z2a, one, Obj.own, Sk.find, z13, zg, z15, zi, zm, zl, zn, z10, zo, z7, ze, zc, zu, zf, z9, z8, zb, Cl.sv, Pr.sv, ints, zq]) (a9 : bigB X.m0 ρ H1.os = true := by exact rfl) : z22 X ρ fr H fr1 H1 := z22.mk' ρ a1 a2 a3 a4 a5 a6 a7 a8 a9
set_option maxHeartbeats 4000000 in
theorem play_spec (ls : List Int) (m at_ : Nat) (hx : ls.length ≤ 9223372036854775807) (hm : m ≤ ls.length) (ha : at_ ≤ m) (cs0 : List Cl) (ps0 : List Pr) (hc : cs0.length ≤ 1000000) (hp : ps0.length ≤ 1000000) (n : Nat) (hn : n ≤ 1000000) :
  z1d Tryd.prog 23 [.ptr 0 0 0 0, .agg [.slc true 2 0 0 cs0.length, .slc true 3 0 0 ps0.length], .int .i64 n] ⟨4, [(0, zq 1 m at_), (1, zf ls), (2, zg cs0), (3, zi ps0)]⟩
   (fun s H1 => ∃ (b : Bool) (r : List Cl × List Pr) (at1 k : Nat), (at1 ≤ m ∧ Rch (cs0, ps0) r ∧ (b = true → r = (cs0, ps0))) ∧ s = plS b r.1.length r.2.length k ∧ H1 = plH b cs0 ps0 r (zq 1 m at1)) := by
 refine z1d.ofC false 61 [.cell 6 35, .tmp 7] Tryd.func23 rfl rfl Tryd.ntmps23 Tryd.results23 rfl ?_;intro w0 own0 β0 Q hQ hQn;simp only [z2d];refine Cs.seq ?_;refine Cs.reg [0, 2, 4, 6] rfl ?_;intro K hK;iterate 3 (refine zt z4 ?_; repeat (with_reducible apply ai;exact z3))
 refine z6 (z5 (hK _ _ ?_)); clear hK K;refine Cs.seq ?_;refine Cs.reg [0, 2, 4, 6, 8] rfl ?_;intro K hK;(refine zt z4 ?_; repeat (with_reducible apply ai;exact z3));refine z6 (z5 (hK _ _ ?_)); clear hK K;refine Cs.seq ?_;refine Cs.seq ?_;refine Cs.reg [0, 2, 4, 6, 8, 9] rfl ?_;intro K hK;(refine zt z4 ?_; repeat (with_reducible apply ai;exact z3));refine z6 (z5 (hK _ _ ?_)); clear hK K;refine Cs.block ?_;intro Q0 hN0 hX0 hR0 hE0;refine Cs.loop (σ := Bool × (List Cl × List Pr) × Nat × Nat × Nat) (fun σ => (σ.2.2.1 ≤ m ∧ σ.2.2.2.1 ≤ n ∧ σ.2.2.2.2 ≤ σ.2.2.2.1) ∧ Rch (cs0, ps0) σ.2.1 ∧ (σ.1 = true → σ.2.1 = (cs0, ps0))) (fun σ => n - σ.2.2.2.1) (fun σ => [(0, .ptr 0 0 0 0), (2, .int .i64 n), (4, .ptr 4 0 0 0), (6, .ptr 5 0 0 0), (8, .int .i64 σ.2.2.2.2), (9, .int .i64 σ.2.2.2.1)]) (plG cs0 ps0 m ls) (true, (cs0, ps0), at_, 0, 0) ⟨⟨ha, Nat.zero_le _, Nat.le_refl _⟩, .refl _, fun _ => rfl⟩ (ρ := id) (by simp only [plG, if_true]; exact (z3f id)) ?_;rintro ⟨b, ⟨cs, ps⟩, at2, i, k⟩ hi QL1 hL1 hRL1 hEL1;obtain ⟨⟨hi1, hi2, hik⟩, hi3, hi4⟩ := hi;dsimp only at hi1 hi2 hik hi3 hi4;have hil := hi3.len;dsimp only at hil;rcases b with _ | _
 all_goals simp only [plG, Bool.false_eq_true, if_false, if_true]
 ·skip
  refine Cs.seq ?_;refine Cs.seq ?_;refine Cs.reg [0, 2, 4, 6, 8, 9, 21] rfl ?_;intro K hK
  have hk3 : ∀ B : Bool, (B = true → i < n) → K [(0, .ptr 0 0 0 0), (2, .int .i64 n), (4, .ptr 4 0 0 0), (6, .ptr 5 0 0 0), (8, .int .i64 k), (9, .int .i64 i), (21, .bool B)] ⟨8, [(0, zq 1 m at2), (7, zi ps), (6, zg cs), (4, zl 6 cs.length 7 ps.length), (5, one (.row ⟨true, true, 35, 2, 1, fun _ => [.nils, .nils]⟩)), (3, zi ps0), (2, zg cs0), (1, zf ls)]⟩ := by
   intro B hB;refine hK _ _ ?_;clear hK K;refine Cs.cond _ rfl ?_ ?_
   ·intro h21;have hin := hB h21;refine Cs.skip ?_;refine Cs.seq ?_;refine Cs.block ?_;intro Q1 hN1 hX1 hR1 hE1;refine Cs.seq ?_;refine Cs.reg [0, 2, 4, 6, 8, 9, 10] rfl ?_;intro K hK;iterate 4 (refine zt z4 ?_; repeat (with_reducible apply ai;exact z3))
    refine zt z4 ?_;repeat (with_reducible apply ai;exact z3)
    refine z1q (z2l ls m at2 ps.length hx hm hi1 (by omega)) (id) ?_;rintro s0 H0 ⟨q, at3, g1, g2, g3, g4, rfl, rfl⟩ s1 H1 hs1 hH1;obtain ⟨hs2, hH2⟩ := z2c hs1 hH1;clear hs1 hH1;subst hs2 hH2;repeat (with_reducible apply ai;exact z3)
    (refine zt z4 ?_; repeat (with_reducible apply ai;exact z3));refine z6 (z5 (hK _ _ ?_)); clear hK K;refine Cs.seq ?_;refine Cs.seq ?_;refine Cs.reg [0, 2, 4, 6, 8, 9, 10, 30] rfl ?_;intro K hK;(refine zt z4 ?_; repeat (with_reducible apply ai;exact z3));refine zt z4 ?_;repeat (with_reducible apply ai;exact z3)
    refine z1q (bool_spec ls m at3 5 hx hm g1 (by omega) (by omega)) (id) ?_;rintro s0 H0 ⟨b4, at4, e1, rfl, rfl⟩ s1 H1 hs1 hH1;obtain ⟨hs2, hH2⟩ := z2c hs1 hH1;clear hs1 hH1;subst hs2 hH2;repeat (with_reducible apply ai;exact z3)
    refine z6 (z5 (hK _ _ ?_)); clear hK K;refine Cs.cond _ rfl ?_ ?_
    ·intro h30
     
     refine Cs.seq ?_;refine Cs.seq ?_;refine Cs.regTree [0, 2, 4, 6, 8, 9, 11, 12] (.op 0 (.op 1 (.op 2 (.op 5 (.op 6 (.op 7 (.op 8 (.two 3 15 (.op 4 (.two 9 15 (.op 10 (.two 11 15 (.op 12 (.op 13 (.op 14 (.op 15 (.op 16 (.op 17 .done)))))) (.op 11 (.op 12 (.op 13 (.op 14 (.op 16 (.op 17 .done)))))))) (.op 9 (.op 10 (.op 11 (.op 12 (.op 13 (.op 14 (.op 16 (.op 17 .done)))))))))) (.op 3 (.op 4 (.op 9 (.op 10 (.op 11 (.op 12 (.op 13 (.op 14 (.op 16 (.op 17 .done)))))))))))))))))) [[], [], [], [2], [2, 3], [], [], [6], [6, 7], [2, 3, 5, 6, 7, 8], [2, 3, 5, 6, 7, 8, 9], [0, 1, 2, 3, 4, 5, 6, 7, 8, 9, 10], [0, 1, 2, 3, 4, 5, 6, 7, 8, 9, 10, 11], [0, 1, 2, 3, 4, 5, 6, 7, 8, 9, 10, 11, 12], [0, 1, 2, 3, 4, 5, 6, 7, 8, 9, 10, 11, 12], [], [0, 1, 2, 3, 4, 5, 6, 7, 8, 9, 10, 11, 12, 13, 15], [0, 1, 2, 3, 4, 5, 6, 7, 8, 9, 10, 11, 12, 13, 14, 15, 16]] [[], [], [], [0], [], [], [], [], [], [0], [], [], [], [], [], [], [], []] [[0], [0], [], [0], [0], [0], [0], [0], [0], [0], [0], [0], [0], [0], [0], [0], [0], [0]] Tryd.mo rfl rfl (by kernel_rfl) (by kernel_rfl) (by kernel_rfl) rfl (by kernel_rfl) ?_;intro K hK hG
     have hk7 : ∀ (kind cell : Int) (at5 : Nat), (at5 ≤ m ∧ 1 ≤ kind ∧ kind ≤ 3 ∧ 2 ≤ cell) → K [(0, .ptr 0 0 0 0), (2, .int .i64 n), (4, .ptr 4 0 0 0), (6, .ptr 5 0 0 0), (8, .int .i64 k), (9, .int .i64 i), (11, .ptr 10 0 0 0), (12, .int .i64 (z4b cs ps q kind cell))] ⟨11, [(10, zl 8 (z2r cs ps q kind cell).1.length 9 (z2r cs ps q kind cell).2.length), (0, zq 1 m at5), (9, zi (z2r cs ps q kind cell).2), (8, zg (z2r cs ps q kind cell).1), (7, zi ps), (6, zg cs), (4, zl 6 cs.length 7 ps.length), (5, one (.row ⟨true, true, 35, 2, 1, fun _ => [.nils, .nils]⟩)), (3, zi ps0), (2, zg cs0), (1, zf ls)]⟩ := by
      intro kind cell at5 hkc;obtain ⟨f1, f2, f3, f4⟩ := hkc;refine hK _ _ ?_;clear hG hK K;refine Cs.seq ?_;refine Cs.reg [0, 2, 4, 6, 8, 9, 11, 47] rfl ?_;intro K hK;iterate 2 (refine zt z4 ?_; repeat (with_reducible apply ai;exact z3))
      refine z6 (z5 (hK _ _ ?_)); clear hK K;refine Cs.cond _ rfl ?_ ?_
      ·intro h47
       
       refine Cs.reg [0, 2, 4, 6, 8, 9] rfl ?_;intro K hK;iterate 2 (refine zt z4 ?_; repeat (with_reducible apply ai;exact z3))
       refine z6 (z5 (hK _ _ ?_)); clear hK K;refine Cs.exit ?_;refine hX1 _ _ ?_;refine Cs.reg [0, 2, 4, 6, 8, 9] rfl ?_;intro K hK;iterate 3 (refine zt z4 ?_; repeat (with_reducible apply ai;exact z3))
       refine z6 (z5 (hK _ _ ?_)); clear hK K;refine Cs.nil ?_;refine hL1 _ _ ?_;rw [show (i : Int) + 1 = ((i + 1 : Nat) : Int) from by omega];refine ⟨(false, z2r cs ps q kind cell, at5, i + 1, k), ⟨⟨⟨f1, by dsimp only; omega, by dsimp only; omega⟩, hi3.start0 q kind cell h47, fun h => by cases h⟩, by dsimp only; omega⟩, fun z => if z = 6 then 8 else if z = 7 then 9 else z, ?_⟩;simp only [plG, Bool.false_eq_true, if_false];exact (z5x (fun z => if z = 6 then 8 else if z = 7 then 9 else z))
      ·intro h47
       
       refine Cs.skip ?_;refine Cs.exit ?_;refine hX1 _ _ ?_;refine Cs.reg [0, 2, 4, 6, 8, 9] rfl ?_;intro K hK;iterate 3 (refine zt z4 ?_; repeat (with_reducible apply ai;exact z3))
       refine z6 (z5 (hK _ _ ?_)); clear hK K;refine Cs.nil ?_;refine hL1 _ _ ?_;rw [show (i : Int) + 1 = ((i + 1 : Nat) : Int) from by omega];refine ⟨(false, (cs, ps), at5, i + 1, k), ⟨⟨⟨f1, by dsimp only; omega, by dsimp only; omega⟩, hi3, fun h => by cases h⟩, by dsimp only; omega⟩, id, ?_⟩;simp only [plG, Bool.false_eq_true, if_false];exact (z3f id)
     (refine zt (zp _ [] [0] [] rfl rfl rfl rfl) ?_; repeat (with_reducible apply ai;exact z3));(refine zt (zp _ [] [0] [] rfl rfl rfl rfl) ?_; repeat (with_reducible apply ai;exact z3));(refine zt (zp _ [] [] [] rfl rfl rfl rfl) ?_; repeat (with_reducible apply ai;exact z3));(refine zt (zp _ [] [0] [] rfl rfl rfl rfl) ?_; repeat (with_reducible apply ai;exact z3));(refine zt (zp _ [] [0] [] rfl rfl rfl rfl) ?_; repeat (with_reducible apply ai;exact z3));(refine zt (zp _ [] [0] [] rfl rfl rfl rfl) ?_; repeat (with_reducible apply ai;exact z3));(refine zt (zp _ [] [0] [] rfl rfl rfl rfl) ?_; repeat (with_reducible apply ai;exact z3));refine z6d ?_ ?_
     ·skip
      refine zt (zp _ [0] [0] [] rfl rfl rfl rfl) ?_;repeat (with_reducible apply ai;exact z3)
      refine z1q (z2l ls m at4 3 hx hm e1 (by omega)) (id) ?_;rintro s0 H0 ⟨v, at5, d1, d2, d3, d4, rfl, rfl⟩ s1 H1 hs1 hH1;obtain ⟨hs2, hH2⟩ := z2c hs1 hH1;clear hs1 hH1;subst hs2 hH2;repeat (with_reducible apply ai;exact z3)
      have d5 := d3 (by omega);(refine zt (zp _ [] [0] [] rfl rfl rfl rfl) ?_; repeat (with_reducible apply ai;exact z3));refine z6d ?_ ?_
      ·skip
       refine zt (zp _ [0] [0] [] rfl rfl rfl rfl) ?_;repeat (with_reducible apply ai;exact z3)
       refine z1q (z2l ls m at5 cs.length hx hm d1 (by omega)) (id) ?_;rintro s0 H0 ⟨w, at6, c1, c2, c3, c4, rfl, rfl⟩ s1 H1 hs1 hH1;obtain ⟨hs2, hH2⟩ := z2c hs1 hH1;clear hs1 hH1;subst hs2 hH2;repeat (with_reducible apply ai;exact z3)
       have hw8 : w ≤ 1000000 := by
        rcases Int.lt_or_le (cs.length : Int) 1 with h | h
        ·have := c4 h; omega
        ·have := c3 h; omega
       (refine zt (zp _ [] [0] [] rfl rfl rfl rfl) ?_; repeat (with_reducible apply ai;exact z3));refine z6d ?_ ?_
       ·skip
        refine zt (zp _ [] [0] [] rfl rfl rfl rfl) ?_;repeat (with_reducible apply ai;exact z3)
        refine z1q (z56 cs ps cs.length ps.length rfl rfl (by omega) (by omega) q (1 + v) (2 + w)) (fun z => z + 6) ?_;rintro s0 H0 ⟨rfl, rfl⟩ s1 H1 hs1 hH1;obtain ⟨hs2, hH2⟩ := z2c hs1 hH1;clear hs1 hH1;subst hs2 hH2;repeat (with_reducible apply ai;exact z3)
        (refine zt (zp _ [] [0] [] rfl rfl rfl rfl) ?_; repeat (with_reducible apply ai;exact z3));(refine zt (zp _ [] [0] [] rfl rfl rfl rfl) ?_; repeat (with_reducible apply ai;exact z3));(refine zt (zp _ [] [0] [] rfl rfl rfl rfl) ?_; repeat (with_reducible apply ai;exact z3));(refine zt (zp _ [] [0] [10] rfl rfl rfl rfl) ?_; repeat (with_reducible apply ai;exact z3));(refine zt (zp _ [10] [0] [10] rfl rfl rfl rfl) ?_; repeat (with_reducible apply ai;exact z3));(refine zt (zp _ [10] [0] [10] rfl rfl rfl rfl) ?_; repeat (with_reducible apply ai;exact z3));refine z36 ?_;refine z5 ?_;exact hG _ _ _ _ id (z3f id) (hk7 (1 + v) (2 + w) at6 ⟨c1, by omega, by omega, by omega⟩)
       ·skip
        (refine zt (zp _ [] [0] [8] rfl rfl rfl rfl) ?_; repeat (with_reducible apply ai;exact z3));refine zt (zp _ [8] [0] [8] rfl rfl rfl rfl) ?_;repeat (with_reducible apply ai;exact z3)
        refine z1q (z56 cs ps cs.length ps.length rfl rfl (by omega) (by omega) q (1 + v) (2 + w)) (fun z => z + 6) ?_;rintro s0 H0 ⟨rfl, rfl⟩ s1 H1 hs1 hH1;obtain ⟨hs2, hH2⟩ := z2c hs1 hH1;clear hs1 hH1;subst hs2 hH2;repeat (with_reducible apply ai;exact z3)
        (refine zt (zp _ [8] [0] [8] rfl rfl rfl rfl) ?_; repeat (with_reducible apply ai;exact z3));(refine zt (zp _ [8] [0] [8] rfl rfl rfl rfl) ?_; repeat (with_reducible apply ai;exact z3));(refine zt (zp _ [8] [0] [8] rfl rfl rfl rfl) ?_; repeat (with_reducible apply ai;exact z3));(refine zt (zp _ [8] [0] [8] rfl rfl rfl rfl) ?_; repeat (with_reducible apply ai;exact z3));(refine zt (zp _ [8] [0] [8] rfl rfl rfl rfl) ?_; repeat (with_reducible apply ai;exact z3));refine z36 ?_;refine z5 ?_;exact hG _ _ _ _ (fun z => if z = 10 then 8 else if z = 8 then 9 else if z = 9 then 10 else z) (z5x (fun z => if z = 10 then 8 else if z = 8 then 9 else if z = 9 then 10 else z)) (hk7 (1 + v) (2 + w) at6 ⟨c1, by omega, by omega, by omega⟩)
      ·skip
       (refine zt (zp _ [] [0] [8] rfl rfl rfl rfl) ?_; repeat (with_reducible apply ai;exact z3));refine zt (zp _ [0, 8] [0] [8] rfl rfl rfl rfl) ?_;repeat (with_reducible apply ai;exact z3)
       refine z1q (z2l ls m at5 cs.length hx hm d1 (by omega)) (id) ?_;rintro s0 H0 ⟨w, at6, c1, c2, c3, c4, rfl, rfl⟩ s1 H1 hs1 hH1;obtain ⟨hs2, hH2⟩ := z2c hs1 hH1;clear hs1 hH1;subst hs2 hH2;repeat (with_reducible apply ai;exact z3)
       have hw8 : w ≤ 1000000 := by
        rcases Int.lt_or_le (cs.length : Int) 1 with h | h
        ·have := c4 h; omega
        ·have := c3 h; omega
       (refine zt (zp _ [8] [0] [8] rfl rfl rfl rfl) ?_; repeat (with_reducible apply ai;exact z3));refine zt (zp _ [8] [0] [8] rfl rfl rfl rfl) ?_;repeat (with_reducible apply ai;exact z3)
       refine z1q (z56 cs ps cs.length ps.length rfl rfl (by omega) (by omega) q (1 + v) (2 + w)) (fun z => z + 6) ?_;rintro s0 H0 ⟨rfl, rfl⟩ s1 H1 hs1 hH1;obtain ⟨hs2, hH2⟩ := z2c hs1 hH1;clear hs1 hH1;subst hs2 hH2;repeat (with_reducible apply ai;exact z3)
       (refine zt (zp _ [8] [0] [8] rfl rfl rfl rfl) ?_; repeat (with_reducible apply ai;exact z3));(refine zt (zp _ [8] [0] [8] rfl rfl rfl rfl) ?_; repeat (with_reducible apply ai;exact z3));(refine zt (zp _ [8] [0] [8] rfl rfl rfl rfl) ?_; repeat (with_reducible apply ai;exact z3));(refine zt (zp _ [8] [0] [8] rfl rfl rfl rfl) ?_; repeat (with_reducible apply ai;exact z3));(refine zt (zp _ [8] [0] [8] rfl rfl rfl rfl) ?_; repeat (with_reducible apply ai;exact z3));refine z36 ?_;refine z5 ?_;exact hG _ _ _ _ (fun z => if z = 10 then 8 else if z = 8 then 9 else if z = 9 then 10 else z) (z5x (fun z => if z = 10 then 8 else if z = 8 then 9 else if z = 9 then 10 else z)) (hk7 (1 + v) (2 + w) at6 ⟨c1, by omega, by omega, by omega⟩)
     ·skip
      (refine zt (zp _ [] [0] [8] rfl rfl rfl rfl) ?_; repeat (with_reducible apply ai;exact z3));refine zt (zp _ [0, 8] [0] [8] rfl rfl rfl rfl) ?_;repeat (with_reducible apply ai;exact z3)
      refine z1q (z2l ls m at4 3 hx hm e1 (by omega)) (id) ?_;rintro s0 H0 ⟨v, at5, d1, d2, d3, d4, rfl, rfl⟩ s1 H1 hs1 hH1;obtain ⟨hs2, hH2⟩ := z2c hs1 hH1;clear hs1 hH1;subst hs2 hH2;repeat (with_reducible apply ai;exact z3)
      have d5 := d3 (by omega);(refine zt (zp _ [8] [0] [8] rfl rfl rfl rfl) ?_; repeat (with_reducible apply ai;exact z3));refine zt (zp _ [0, 8] [0] [8] rfl rfl rfl rfl) ?_;repeat (with_reducible apply ai;exact z3)
      refine z1q (z2l ls m at5 cs.length hx hm d1 (by omega)) (id) ?_;rintro s0 H0 ⟨w, at6, c1, c2, c3, c4, rfl, rfl⟩ s1 H1 hs1 hH1;obtain ⟨hs2, hH2⟩ := z2c hs1 hH1;clear hs1 hH1;subst hs2 hH2;repeat (with_reducible apply ai;exact z3)
      have hw8 : w ≤ 1000000 := by
       rcases Int.lt_or_le (cs.length : Int) 1 with h | h
       ·have := c4 h; omega
       ·have := c3 h; omega
      (refine zt (zp _ [8] [0] [8] rfl rfl rfl rfl) ?_; repeat (with_reducible apply ai;exact z3));refine zt (zp _ [8] [0] [8] rfl rfl rfl rfl) ?_;repeat (with_reducible apply ai;exact z3)
      refine z1q (z56 cs ps cs.length ps.length rfl rfl (by omega) (by omega) q (1 + v) (2 + w)) (fun z => z + 6) ?_;rintro s0 H0 ⟨rfl, rfl⟩ s1 H1 hs1 hH1;obtain ⟨hs2, hH2⟩ := z2c hs1 hH1;clear hs1 hH1;subst hs2 hH2;repeat (with_reducible apply ai;exact z3)
      (refine zt (zp _ [8] [0] [8] rfl rfl rfl rfl) ?_; repeat (with_reducible apply ai;exact z3));(refine zt (zp _ [8] [0] [8] rfl rfl rfl rfl) ?_; repeat (with_reducible apply ai;exact z3));(refine zt (zp _ [8] [0] [8] rfl rfl rfl rfl) ?_; repeat (with_reducible apply ai;exact z3));(refine zt (zp _ [8] [0] [8] rfl rfl rfl rfl) ?_; repeat (with_reducible apply ai;exact z3));(refine zt (zp _ [8] [0] [8] rfl rfl rfl rfl) ?_; repeat (with_reducible apply ai;exact z3));refine z36 ?_;refine z5 ?_;exact hG _ _ _ _ (fun z => if z = 10 then 8 else if z = 8 then 9 else if z = 9 then 10 else z) (z5x (fun z => if z = 10 then 8 else if z = 8 then 9 else if z = 9 then 10 else z)) (hk7 (1 + v) (2 + w) at6 ⟨c1, by omega, by omega, by omega⟩)
    ·intro h30
     
     refine Cs.skip ?_;refine Cs.seq ?_;refine Cs.reg [0, 2, 4, 6, 8, 9, 13, 14] rfl ?_;intro K hK;iterate 2 (refine zt z4 ?_; repeat (with_reducible apply ai;exact z3))
     refine zt z4 ?_;repeat (with_reducible apply ai;exact z3)
     refine z1q (stepL_spec cs ps cs.length ps.length rfl rfl (by omega) (by omega) q) (fun z => z + 6) ?_;rintro s0 H0 ⟨rfl, rfl⟩ s1 H1 hs1 hH1;obtain ⟨hs2, hH2⟩ := z2c hs1 hH1;clear hs1 hH1;subst hs2 hH2;repeat (with_reducible apply ai;exact z3)
     iterate 6 (refine zt z4 ?_; repeat (with_reducible apply ai;exact z3))
     refine z6 (z5 (hK _ _ ?_)); clear hK K;refine Cs.seq ?_;refine Cs.reg [0, 2, 4, 6, 8, 9, 13, 55] rfl ?_;intro K hK;(refine zt z4 ?_; repeat (with_reducible apply ai;exact z3));refine z6 (z5 (hK _ _ ?_)); clear hK K;refine Cs.cond _ rfl ?_ ?_
     ·intro h55
      
      refine Cs.seq ?_;refine Cs.reg [0, 2, 4, 6, 8, 9] rfl ?_;intro K hK;iterate 2 (refine zt z4 ?_; repeat (with_reducible apply ai;exact z3))
      refine z6 (z5 (hK _ _ ?_)); clear hK K;refine Cs.reg [0, 2, 4, 6, 8, 9] rfl ?_;intro K hK;iterate 3 (refine zt z4 ?_; repeat (with_reducible apply ai;exact z3))
      refine z6 (z5 (hK _ _ ?_)); clear hK K;refine Cs.nil ?_;refine hN1 _ _ ?_;refine Cs.reg [0, 2, 4, 6, 8, 9] rfl ?_;intro K hK;iterate 3 (refine zt z4 ?_; repeat (with_reducible apply ai;exact z3))
      refine z6 (z5 (hK _ _ ?_)); clear hK K;refine Cs.nil ?_;refine hL1 _ _ ?_;rw [show (i : Int) + 1 = ((i + 1 : Nat) : Int) from by omega];rw [show (k : Int) + 1 = ((k + 1 : Nat) : Int) from by omega];refine ⟨(false, z38 cs ps q, at4, i + 1, k + 1), ⟨⟨⟨e1, by dsimp only; omega, by dsimp only; omega⟩, hi3.step q h55, fun h => by cases h⟩, by dsimp only; omega⟩, fun z => if z = 6 then 8 else if z = 7 then 9 else z, ?_⟩;simp only [plG, Bool.false_eq_true, if_false];exact (z5x (fun z => if z = 6 then 8 else if z = 7 then 9 else z))
     ·intro h55
      
      refine Cs.skip ?_;refine Cs.nil ?_;refine hN1 _ _ ?_;refine Cs.reg [0, 2, 4, 6, 8, 9] rfl ?_;intro K hK;iterate 3 (refine zt z4 ?_; repeat (with_reducible apply ai;exact z3))
      refine z6 (z5 (hK _ _ ?_)); clear hK K;refine Cs.nil ?_;refine hL1 _ _ ?_;rw [show (i : Int) + 1 = ((i + 1 : Nat) : Int) from by omega];refine ⟨(false, (cs, ps), at4, i + 1, k), ⟨⟨⟨e1, by dsimp only; omega, by dsimp only; omega⟩, hi3, fun h => by cases h⟩, by dsimp only; omega⟩, id, ?_⟩;simp only [plG, Bool.false_eq_true, if_false];exact (z3f id)
   ·intro h21
    
    refine Cs.exit ?_;refine hEL1 _ _ _ ?_;refine hX0 _ _ ?_;refine Cs.seq ?_;refine Cs.reg [6, 7] rfl ?_;intro K hK;iterate 4 (refine zt z4 ?_; repeat (with_reducible apply ai;exact z3))
    refine z6 (z5 (hK _ _ ?_)); clear hK K;refine Cs.ret ?_;refine hQ _ _ ?_;refine z1h.mkR (fun z => if z = 4 then 6 else if z = 5 then 7 else z) (.tup [.agg [.slc true 4 0 0 cs.length, .slc true 5 0 0 ps.length], .int .i64 k]) (⟨6, [(0, zq 1 m at2), (5, zi ps), (4, zg cs), (3, zi ps0), (2, zg cs0)]⟩) (.inl rfl) ?_;refine LmCm.ou ?_;repeat (with_reducible apply ai;exact z3)
    refine ⟨z39, zk, (z5x (fun z => if z = 4 then 6 else if z = 5 then 7 else z)), LmDm.r3, ?_⟩;exact ⟨false, (cs, ps), at2, k, ⟨hi1, hi3, fun h => by cases h⟩, rfl, rfl⟩
  iterate 5 (refine zt z4 ?_; repeat (with_reducible apply ai;exact z3))
  refine z4 ?_;refine z3k rfl rfl ?_;refine z3i ?_
  first | refine z2p ?_ ?_ | refine (fun (h1 : false = true → _) (h2 : false = false → _) => And.intro h1 fun _ => h2 rfl) ?_ ?_
  ·intro hg5
   first
    |(simp at hg5; done)
    |skip
     try replace hg5 := za hg5
     refine zt id ?_;repeat (with_reducible apply ai;exact z3)
     refine z1q (left_spec ls m at2) (id) ?_;rintro s0 H0 ⟨⟨bb, rfl⟩, rfl⟩ s1 H1 hs1 hH1;obtain ⟨hs2, hH2⟩ := z2c hs1 hH1;clear hs1 hH1;subst hs2 hH2;repeat (with_reducible apply ai;exact z3)
     (refine zt z4 ?_; repeat (with_reducible apply ai;exact z3));refine z6 ?_;refine z5 ?_;refine hk3 _ ?_;intro hb; simp at hb <;> omega
  ·intro hg5;refine ⟨.bool false, ?_⟩
   first
    |(simp at hg5; done)
    |skip
     try replace hg5 := za hg5
     (refine zt z4 ?_; repeat (with_reducible apply ai;exact z3));refine z6 ?_;refine z5 ?_;refine hk3 _ ?_;intro hb; simp at hb hg5 <;> omega
 ·skip
  refine Cs.seq ?_;refine Cs.seq ?_;refine Cs.reg [0, 2, 4, 6, 8, 9, 21] rfl ?_;intro K hK
  have hk3 : ∀ B : Bool, (B = true → i < n) → K [(0, .ptr 0 0 0 0), (2, .int .i64 n), (4, .ptr 4 0 0 0), (6, .ptr 5 0 0 0), (8, .int .i64 k), (9, .int .i64 i), (21, .bool B)] ⟨6, [(0, zq 1 m at2), (4, zl 2 cs.length 3 ps.length), (5, one (.row ⟨true, true, 35, 2, 1, fun _ => [.nils, .nils]⟩)), (3, zi ps), (2, zg cs), (1, zf ls)]⟩ := by
   intro B hB;refine hK _ _ ?_;clear hK K;refine Cs.cond _ rfl ?_ ?_
   ·intro h21;have hin := hB h21;refine Cs.skip ?_;refine Cs.seq ?_;refine Cs.block ?_;intro Q1 hN1 hX1 hR1 hE1;refine Cs.seq ?_;refine Cs.reg [0, 2, 4, 6, 8, 9, 10] rfl ?_;intro K hK;iterate 4 (refine zt z4 ?_; repeat (with_reducible apply ai;exact z3))
    refine zt z4 ?_;repeat (with_reducible apply ai;exact z3)
    refine z1q (z2l ls m at2 ps.length hx hm hi1 (by omega)) (id) ?_;rintro s0 H0 ⟨q, at3, g1, g2, g3, g4, rfl, rfl⟩ s1 H1 hs1 hH1;obtain ⟨hs2, hH2⟩ := z2c hs1 hH1;clear hs1 hH1;subst hs2 hH2;repeat (with_reducible apply ai;exact z3)
    (refine zt z4 ?_; repeat (with_reducible apply ai;exact z3));refine z6 (z5 (hK _ _ ?_)); clear hK K;refine Cs.seq ?_;refine Cs.seq ?_;refine Cs.reg [0, 2, 4, 6, 8, 9, 10, 30] rfl ?_;intro K hK;(refine zt z4 ?_; repeat (with_reducible apply ai;exact z3));refine zt z4 ?_;repeat (with_reducible apply ai;exact z3)
    refine z1q (bool_spec ls m at3 5 hx hm g1 (by omega) (by omega)) (id) ?_;rintro s0 H0 ⟨b4, at4, e1, rfl, rfl⟩ s1 H1 hs1 hH1;obtain ⟨hs2, hH2⟩ := z2c hs1 hH1;clear hs1 hH1;subst hs2 hH2;repeat (with_reducible apply ai;exact z3)
    refine z6 (z5 (hK _ _ ?_)); clear hK K;refine Cs.cond _ rfl ?_ ?_
    ·intro h30
     
     refine Cs.seq ?_;refine Cs.seq ?_;refine Cs.regTree [0, 2, 4, 6, 8, 9, 11, 12] (.op 0 (.op 1 (.op 2 (.op 5 (.op 6 (.op 7 (.op 8 (.two 3 15 (.op 4 (.two 9 15 (.op 10 (.two 11 15 (.op 12 (.op 13 (.op 14 (.op 15 (.op 16 (.op 17 .done)))))) (.op 11 (.op 12 (.op 13 (.op 14 (.op 16 (.op 17 .done)))))))) (.op 9 (.op 10 (.op 11 (.op 12 (.op 13 (.op 14 (.op 16 (.op 17 .done)))))))))) (.op 3 (.op 4 (.op 9 (.op 10 (.op 11 (.op 12 (.op 13 (.op 14 (.op 16 (.op 17 .done)))))))))))))))))) [[], [], [], [2], [2, 3], [], [], [6], [6, 7], [2, 3, 5, 6, 7, 8], [2, 3, 5, 6, 7, 8, 9], [0, 1, 2, 3, 4, 5, 6, 7, 8, 9, 10], [0, 1, 2, 3, 4, 5, 6, 7, 8, 9, 10, 11], [0, 1, 2, 3, 4, 5, 6, 7, 8, 9, 10, 11, 12], [0, 1, 2, 3, 4, 5, 6, 7, 8, 9, 10, 11, 12], [], [0, 1, 2, 3, 4, 5, 6, 7, 8, 9, 10, 11, 12, 13, 15], [0, 1, 2, 3, 4, 5, 6, 7, 8, 9, 10, 11, 12, 13, 14, 15, 16]] [[], [], [], [0], [], [], [], [], [], [0], [], [], [], [], [], [], [], []] [[0], [0], [], [0], [0], [0], [0], [0], [0], [0], [0], [0], [0], [0], [0], [0], [0], [0]] Tryd.mo rfl rfl (by kernel_rfl) (by kernel_rfl) (by kernel_rfl) rfl (by kernel_rfl) ?_;intro K hK hG
     have hk7 : ∀ (kind cell : Int) (at5 : Nat), (at5 ≤ m ∧ 1 ≤ kind ∧ kind ≤ 3 ∧ 2 ≤ cell) → K [(0, .ptr 0 0 0 0), (2, .int .i64 n), (4, .ptr 4 0 0 0), (6, .ptr 5 0 0 0), (8, .int .i64 k), (9, .int .i64 i), (11, .ptr 8 0 0 0), (12, .int .i64 (z4b cs ps q kind cell))] ⟨9, [(8, zl 6 (z2r cs ps q kind cell).1.length 7 (z2r cs ps q kind cell).2.length), (0, zq 1 m at5), (7, zi (z2r cs ps q kind cell).2), (6, zg (z2r cs ps q kind cell).1), (4, zl 2 cs.length 3 ps.length), (5, one (.row ⟨true, true, 35, 2, 1, fun _ => [.nils, .nils]⟩)), (3, zi ps), (2, zg cs), (1, zf ls)]⟩ := by
      intro kind cell at5 hkc;obtain ⟨f1, f2, f3, f4⟩ := hkc;refine hK _ _ ?_;clear hG hK K;refine Cs.seq ?_;refine Cs.reg [0, 2, 4, 6, 8, 9, 11, 47] rfl ?_;intro K hK;iterate 2 (refine zt z4 ?_; repeat (with_reducible apply ai;exact z3))
      refine z6 (z5 (hK _ _ ?_)); clear hK K;refine Cs.cond _ rfl ?_ ?_
      ·intro h47
       
       refine Cs.reg [0, 2, 4, 6, 8, 9] rfl ?_;intro K hK;iterate 2 (refine zt z4 ?_; repeat (with_reducible apply ai;exact z3))
       refine z6 (z5 (hK _ _ ?_)); clear hK K;refine Cs.exit ?_;refine hX1 _ _ ?_;refine Cs.reg [0, 2, 4, 6, 8, 9] rfl ?_;intro K hK;iterate 3 (refine zt z4 ?_; repeat (with_reducible apply ai;exact z3))
       refine z6 (z5 (hK _ _ ?_)); clear hK K;refine Cs.nil ?_;refine hL1 _ _ ?_;rw [show (i : Int) + 1 = ((i + 1 : Nat) : Int) from by omega];have hi5 : cs = cs0 ∧ ps = ps0 := by have := hi4 rfl; simpa using this
       obtain ⟨rfl, rfl⟩ := hi5;refine ⟨(false, z2r cs ps q kind cell, at5, i + 1, k), ⟨⟨⟨f1, by dsimp only; omega, by dsimp only; omega⟩, hi3.start0 q kind cell h47, fun h => by cases h⟩, by dsimp only; omega⟩, id, ?_⟩;simp only [plG, Bool.false_eq_true, if_false];exact (z3f id)
      ·intro h47
       
       refine Cs.skip ?_;refine Cs.exit ?_;refine hX1 _ _ ?_;refine Cs.reg [0, 2, 4, 6, 8, 9] rfl ?_;intro K hK;iterate 3 (refine zt z4 ?_; repeat (with_reducible apply ai;exact z3))
       refine z6 (z5 (hK _ _ ?_)); clear hK K;refine Cs.nil ?_;refine hL1 _ _ ?_;rw [show (i : Int) + 1 = ((i + 1 : Nat) : Int) from by omega];refine ⟨(true, (cs, ps), at5, i + 1, k), ⟨⟨⟨f1, by dsimp only; omega, by dsimp only; omega⟩, hi3, hi4⟩, by dsimp only; omega⟩, id, ?_⟩;simp only [plG, if_true];exact (z3f id)
     (refine zt (zp _ [] [0] [] rfl rfl rfl rfl) ?_; repeat (with_reducible apply ai;exact z3));(refine zt (zp _ [] [0] [] rfl rfl rfl rfl) ?_; repeat (with_reducible apply ai;exact z3));(refine zt (zp _ [] [] [] rfl rfl rfl rfl) ?_; repeat (with_reducible apply ai;exact z3));(refine zt (zp _ [] [0] [] rfl rfl rfl rfl) ?_; repeat (with_reducible apply ai;exact z3));(refine zt (zp _ [] [0] [] rfl rfl rfl rfl) ?_; repeat (with_reducible apply ai;exact z3));(refine zt (zp _ [] [0] [] rfl rfl rfl rfl) ?_; repeat (with_reducible apply ai;exact z3));(refine zt (zp _ [] [0] [] rfl rfl rfl rfl) ?_; repeat (with_reducible apply ai;exact z3));refine z6d ?_ ?_
     ·skip
      refine zt (zp _ [0] [0] [] rfl rfl rfl rfl) ?_;repeat (with_reducible apply ai;exact z3)
      refine z1q (z2l ls m at4 3 hx hm e1 (by omega)) (id) ?_;rintro s0 H0 ⟨v, at5, d1, d2, d3, d4, rfl, rfl⟩ s1 H1 hs1 hH1;obtain ⟨hs2, hH2⟩ := z2c hs1 hH1;clear hs1 hH1;subst hs2 hH2;repeat (with_reducible apply ai;exact z3)
      have d5 := d3 (by omega);(refine zt (zp _ [] [0] [] rfl rfl rfl rfl) ?_; repeat (with_reducible apply ai;exact z3));refine z6d ?_ ?_
      ·skip
       refine zt (zp _ [0] [0] [] rfl rfl rfl rfl) ?_;repeat (with_reducible apply ai;exact z3)
       refine z1q (z2l ls m at5 cs.length hx hm d1 (by omega)) (id) ?_;rintro s0 H0 ⟨w, at6, c1, c2, c3, c4, rfl, rfl⟩ s1 H1 hs1 hH1;obtain ⟨hs2, hH2⟩ := z2c hs1 hH1;clear hs1 hH1;subst hs2 hH2;repeat (with_reducible apply ai;exact z3)
       have hw8 : w ≤ 1000000 := by
        rcases Int.lt_or_le (cs.length : Int) 1 with h | h
        ·have := c4 h; omega
        ·have := c3 h; omega
       (refine zt (zp _ [] [0] [] rfl rfl rfl rfl) ?_; repeat (with_reducible apply ai;exact z3));refine z6d ?_ ?_
       ·skip
        refine zt (zp _ [] [0] [] rfl rfl rfl rfl) ?_;repeat (with_reducible apply ai;exact z3)
        refine z1q (z56 cs ps cs.length ps.length rfl rfl (by omega) (by omega) q (1 + v) (2 + w)) (fun z => z + 2) ?_;rintro s0 H0 ⟨rfl, rfl⟩ s1 H1 hs1 hH1;obtain ⟨hs2, hH2⟩ := z2c hs1 hH1;clear hs1 hH1;subst hs2 hH2;repeat (with_reducible apply ai;exact z3)
        (refine zt (zp _ [] [0] [] rfl rfl rfl rfl) ?_; repeat (with_reducible apply ai;exact z3));(refine zt (zp _ [] [0] [] rfl rfl rfl rfl) ?_; repeat (with_reducible apply ai;exact z3));(refine zt (zp _ [] [0] [] rfl rfl rfl rfl) ?_; repeat (with_reducible apply ai;exact z3));(refine zt (zp _ [] [0] [8] rfl rfl rfl rfl) ?_; repeat (with_reducible apply ai;exact z3));(refine zt (zp _ [8] [0] [8] rfl rfl rfl rfl) ?_; repeat (with_reducible apply ai;exact z3));(refine zt (zp _ [8] [0] [8] rfl rfl rfl rfl) ?_; repeat (with_reducible apply ai;exact z3));refine z36 ?_;refine z5 ?_;exact hG _ _ _ _ id (z3f id) (hk7 (1 + v) (2 + w) at6 ⟨c1, by omega, by omega, by omega⟩)
       ·skip
        (refine zt (zp _ [] [0] [6] rfl rfl rfl rfl) ?_; repeat (with_reducible apply ai;exact z3));refine zt (zp _ [6] [0] [6] rfl rfl rfl rfl) ?_;repeat (with_reducible apply ai;exact z3)
        refine z1q (z56 cs ps cs.length ps.length rfl rfl (by omega) (by omega) q (1 + v) (2 + w)) (fun z => z + 2) ?_;rintro s0 H0 ⟨rfl, rfl⟩ s1 H1 hs1 hH1;obtain ⟨hs2, hH2⟩ := z2c hs1 hH1;clear hs1 hH1;subst hs2 hH2;repeat (with_reducible apply ai;exact z3)
        (refine zt (zp _ [6] [0] [6] rfl rfl rfl rfl) ?_; repeat (with_reducible apply ai;exact z3));(refine zt (zp _ [6] [0] [6] rfl rfl rfl rfl) ?_; repeat (with_reducible apply ai;exact z3));(refine zt (zp _ [6] [0] [6] rfl rfl rfl rfl) ?_; repeat (with_reducible apply ai;exact z3));(refine zt (zp _ [6] [0] [6] rfl rfl rfl rfl) ?_; repeat (with_reducible apply ai;exact z3));(refine zt (zp _ [6] [0] [6] rfl rfl rfl rfl) ?_; repeat (with_reducible apply ai;exact z3));refine z36 ?_;refine z5 ?_;exact hG _ _ _ _ (fun z => if z = 8 then 6 else if z = 6 then 7 else if z = 7 then 8 else z) (z5x (fun z => if z = 8 then 6 else if z = 6 then 7 else if z = 7 then 8 else z)) (hk7 (1 + v) (2 + w) at6 ⟨c1, by omega, by omega, by omega⟩)
      ·skip
       (refine zt (zp _ [] [0] [6] rfl rfl rfl rfl) ?_; repeat (with_reducible apply ai;exact z3));refine zt (zp _ [0, 6] [0] [6] rfl rfl rfl rfl) ?_;repeat (with_reducible apply ai;exact z3)
       refine z1q (z2l ls m at5 cs.length hx hm d1 (by omega)) (id) ?_;rintro s0 H0 ⟨w, at6, c1, c2, c3, c4, rfl, rfl⟩ s1 H1 hs1 hH1;obtain ⟨hs2, hH2⟩ := z2c hs1 hH1;clear hs1 hH1;subst hs2 hH2;repeat (with_reducible apply ai;exact z3)
       have hw8 : w ≤ 1000000 := by
        rcases Int.lt_or_le (cs.length : Int) 1 with h | h
        ·have := c4 h; omega
        ·have := c3 h; omega
       (refine zt (zp _ [6] [0] [6] rfl rfl rfl rfl) ?_; repeat (with_reducible apply ai;exact z3));refine zt (zp _ [6] [0] [6] rfl rfl rfl rfl) ?_;repeat (with_reducible apply ai;exact z3)
       refine z1q (z56 cs ps cs.length ps.length rfl rfl (by omega) (by omega) q (1 + v) (2 + w)) (fun z => z + 2) ?_;rintro s0 H0 ⟨rfl, rfl⟩ s1 H1 hs1 hH1;obtain ⟨hs2, hH2⟩ := z2c hs1 hH1;clear hs1 hH1;subst hs2 hH2;repeat (with_reducible apply ai;exact z3)
       (refine zt (zp _ [6] [0] [6] rfl rfl rfl rfl) ?_; repeat (with_reducible apply ai;exact z3));(refine zt (zp _ [6] [0] [6] rfl rfl rfl rfl) ?_; repeat (with_reducible apply ai;exact z3));(refine zt (zp _ [6] [0] [6] rfl rfl rfl rfl) ?_; repeat (with_reducible apply ai;exact z3));(refine zt (zp _ [6] [0] [6] rfl rfl rfl rfl) ?_; repeat (with_reducible apply ai;exact z3));(refine zt (zp _ [6] [0] [6] rfl rfl rfl rfl) ?_; repeat (with_reducible apply ai;exact z3));refine z36 ?_;refine z5 ?_;exact hG _ _ _ _ (fun z => if z = 8 then 6 else if z = 6 then 7 else if z = 7 then 8 else z) (z5x (fun z => if z = 8 then 6 else if z = 6 then 7 else if z = 7 then 8 else z)) (hk7 (1 + v) (2 + w) at6 ⟨c1, by omega, by omega, by omega⟩)
     ·skip
      (refine zt (zp _ [] [0] [6] rfl rfl rfl rfl) ?_; repeat (with_reducible apply ai;exact z3));refine zt (zp _ [0, 6] [0] [6] rfl rfl rfl rfl) ?_;repeat (with_reducible apply ai;exact z3)
      refine z1q (z2l ls m at4 3 hx hm e1 (by omega)) (id) ?_;rintro s0 H0 ⟨v, at5, d1, d2, d3, d4, rfl, rfl⟩ s1 H1 hs1 hH1;obtain ⟨hs2, hH2⟩ := z2c hs1 hH1;clear hs1 hH1;subst hs2 hH2;repeat (with_reducible apply ai;exact z3)
      have d5 := d3 (by omega);(refine zt (zp _ [6] [0] [6] rfl rfl rfl rfl) ?_; repeat (with_reducible apply ai;exact z3));refine zt (zp _ [0, 6] [0] [6] rfl rfl rfl rfl) ?_;repeat (with_reducible apply ai;exact z3)
      refine z1q (z2l ls m at5 cs.length hx hm d1 (by omega)) (id) ?_;rintro s0 H0 ⟨w, at6, c1, c2, c3, c4, rfl, rfl⟩ s1 H1 hs1 hH1;obtain ⟨hs2, hH2⟩ := z2c hs1 hH1;clear hs1 hH1;subst hs2 hH2;repeat (with_reducible apply ai;exact z3)
      have hw8 : w ≤ 1000000 := by
       rcases Int.lt_or_le (cs.length : Int) 1 with h | h
       ·have := c4 h; omega
       ·have := c3 h; omega
      (refine zt (zp _ [6] [0] [6] rfl rfl rfl rfl) ?_; repeat (with_reducible apply ai;exact z3));refine zt (zp _ [6] [0] [6] rfl rfl rfl rfl) ?_;repeat (with_reducible apply ai;exact z3)
      refine z1q (z56 cs ps cs.length ps.length rfl rfl (by omega) (by omega) q (1 + v) (2 + w)) (fun z => z + 2) ?_;rintro s0 H0 ⟨rfl, rfl⟩ s1 H1 hs1 hH1;obtain ⟨hs2, hH2⟩ := z2c hs1 hH1;clear hs1 hH1;subst hs2 hH2;repeat (with_reducible apply ai;exact z3)
      (refine zt (zp _ [6] [0] [6] rfl rfl rfl rfl) ?_; repeat (with_reducible apply ai;exact z3));(refine zt (zp _ [6] [0] [6] rfl rfl rfl rfl) ?_; repeat (with_reducible apply ai;exact z3));(refine zt (zp _ [6] [0] [6] rfl rfl rfl rfl) ?_; repeat (with_reducible apply ai;exact z3));(refine zt (zp _ [6] [0] [6] rfl rfl rfl rfl) ?_; repeat (with_reducible apply ai;exact z3));(refine zt (zp _ [6] [0] [6] rfl rfl rfl rfl) ?_; repeat (with_reducible apply ai;exact z3));refine z36 ?_;refine z5 ?_;exact hG _ _ _ _ (fun z => if z = 8 then 6 else if z = 6 then 7 else if z = 7 then 8 else z) (z5x (fun z => if z = 8 then 6 else if z = 6 then 7 else if z = 7 then 8 else z)) (hk7 (1 + v) (2 + w) at6 ⟨c1, by omega, by omega, by omega⟩)
    ·intro h30
     
     refine Cs.skip ?_;refine Cs.seq ?_;refine Cs.reg [0, 2, 4, 6, 8, 9, 13, 14] rfl ?_;intro K hK;iterate 2 (refine zt z4 ?_; repeat (with_reducible apply ai;exact z3))
     refine zt z4 ?_;repeat (with_reducible apply ai;exact z3)
     refine z1q (stepL_spec cs ps cs.length ps.length rfl rfl (by omega) (by omega) q) (fun z => z + 2) ?_;rintro s0 H0 ⟨rfl, rfl⟩ s1 H1 hs1 hH1;obtain ⟨hs2, hH2⟩ := z2c hs1 hH1;clear hs1 hH1;subst hs2 hH2;repeat (with_reducible apply ai;exact z3)
     iterate 6 (refine zt z4 ?_; repeat (with_reducible apply ai;exact z3))
     refine z6 (z5 (hK _ _ ?_)); clear hK K;refine Cs.seq ?_;refine Cs.reg [0, 2, 4, 6, 8, 9, 13, 55] rfl ?_;intro K hK;(refine zt z4 ?_; repeat (with_reducible apply ai;exact z3));refine z6 (z5 (hK _ _ ?_)); clear hK K;refine Cs.cond _ rfl ?_ ?_
     ·intro h55
      
      refine Cs.seq ?_;refine Cs.reg [0, 2, 4, 6, 8, 9] rfl ?_;intro K hK;iterate 2 (refine zt z4 ?_; repeat (with_reducible apply ai;exact z3))
      refine z6 (z5 (hK _ _ ?_)); clear hK K;refine Cs.reg [0, 2, 4, 6, 8, 9] rfl ?_;intro K hK;iterate 3 (refine zt z4 ?_; repeat (with_reducible apply ai;exact z3))
      refine z6 (z5 (hK _ _ ?_)); clear hK K;refine Cs.nil ?_;refine hN1 _ _ ?_;refine Cs.reg [0, 2, 4, 6, 8, 9] rfl ?_;intro K hK;iterate 3 (refine zt z4 ?_; repeat (with_reducible apply ai;exact z3))
      refine z6 (z5 (hK _ _ ?_)); clear hK K;refine Cs.nil ?_;refine hL1 _ _ ?_;rw [show (i : Int) + 1 = ((i + 1 : Nat) : Int) from by omega];rw [show (k : Int) + 1 = ((k + 1 : Nat) : Int) from by omega];have hi5 : cs = cs0 ∧ ps = ps0 := by have := hi4 rfl; simpa using this
      obtain ⟨rfl, rfl⟩ := hi5;refine ⟨(false, z38 cs ps q, at4, i + 1, k + 1), ⟨⟨⟨e1, by dsimp only; omega, by dsimp only; omega⟩, hi3.step q h55, fun h => by cases h⟩, by dsimp only; omega⟩, id, ?_⟩;simp only [plG, Bool.false_eq_true, if_false];exact (z3f id)
     ·intro h55
      
      refine Cs.skip ?_;refine Cs.nil ?_;refine hN1 _ _ ?_;refine Cs.reg [0, 2, 4, 6, 8, 9] rfl ?_;intro K hK;iterate 3 (refine zt z4 ?_; repeat (with_reducible apply ai;exact z3))
      refine z6 (z5 (hK _ _ ?_)); clear hK K;refine Cs.nil ?_;refine hL1 _ _ ?_;rw [show (i : Int) + 1 = ((i + 1 : Nat) : Int) from by omega];refine ⟨(true, (cs, ps), at4, i + 1, k), ⟨⟨⟨e1, by dsimp only; omega, by dsimp only; omega⟩, hi3, hi4⟩, by dsimp only; omega⟩, id, ?_⟩;simp only [plG, if_true];exact (z3f id)
   ·intro h21
    
    refine Cs.exit ?_;refine hEL1 _ _ _ ?_;refine hX0 _ _ ?_;refine Cs.seq ?_;refine Cs.reg [6, 7] rfl ?_;intro K hK;iterate 4 (refine zt z4 ?_; repeat (with_reducible apply ai;exact z3))
    refine z6 (z5 (hK _ _ ?_)); clear hK K;refine Cs.ret ?_;refine hQ _ _ ?_;have hi5 : cs = cs0 ∧ ps = ps0 := by have := hi4 rfl; simpa using this
    obtain ⟨rfl, rfl⟩ := hi5;refine z1h.mkR (id) (.tup [.agg [.slc true 2 0 0 cs.length, .slc true 3 0 0 ps.length], .int .i64 k]) (⟨4, [(0, zq 1 m at2), (3, zi ps), (2, zg cs)]⟩) (.inl rfl) ?_;refine LmCm.ou ?_;repeat (with_reducible apply ai;exact z3)
    refine ⟨z39, zk, (z5x (id)), LmDm.r3, ?_⟩;exact ⟨true, (cs, ps), at2, k, ⟨hi1, hi3, fun _ => rfl⟩, rfl, rfl⟩
  iterate 5 (refine zt z4 ?_; repeat (with_reducible apply ai;exact z3))
  refine z4 ?_;refine z3k rfl rfl ?_;refine z3i ?_
  first | refine z2p ?_ ?_ | refine (fun (h1 : false = true → _) (h2 : false = false → _) => And.intro h1 fun _ => h2 rfl) ?_ ?_
  ·intro hg5
   first
    |(simp at hg5; done)
    |skip
     try replace hg5 := za hg5
     refine zt id ?_;repeat (with_reducible apply ai;exact z3)
     refine z1q (left_spec ls m at2) (id) ?_;rintro s0 H0 ⟨⟨bb, rfl⟩, rfl⟩ s1 H1 hs1 hH1;obtain ⟨hs2, hH2⟩ := z2c hs1 hH1;clear hs1 hH1;subst hs2 hH2;repeat (with_reducible apply ai;exact z3)
     (refine zt z4 ?_; repeat (with_reducible apply ai;exact z3));refine z6 ?_;refine z5 ?_;refine hk3 _ ?_;intro hb; simp at hb <;> omega
  ·intro hg5;refine ⟨.bool false, ?_⟩
   first
    |(simp at hg5; done)
    |skip
     try replace hg5 := za hg5
     (refine zt z4 ?_; repeat (with_reducible apply ai;exact z3));refine z6 ?_;refine z5 ?_;refine hk3 _ ?_;intro hb; simp at hb hg5 <;> omega
end Go.Proofs
