/-
  Walks and plain facts, joined: part 4 of 4.
  Conditions: those that each statement names.
-/
import Derived.Test.YtbejjmhafofhjaaDoorQrc
set_option linter.unusedSimpArgs false
set_option linter.unusedVariables false
set_option maxRecDepth 4000
namespace Go.Proofs
open Go.Sk
theorem strs_0 (l : List ByteArray) (i : Nat) : (strs l i)[0]? = some (.str (kAt l i)) := rfl
theorem bos_0 (l : List Bool) (i : Nat) : (bos l i)[0]? = some (.bool (bAt l i)) := rfl
/-- The key of the example. -/
def keyB : List ByteArray := [⟨#[98]⟩]
theorem z2j : keyB.length = 1 := rfl
def exR : Nat → List Cl × List Pr
 |0 => startR (newC keyB [false] 1) (List.replicate 1 noPr) 0 1 2
 |i + 1 => stepR (exR i).1 (exR i).2 0
theorem ex_start : z4x (newC keyB [false] 1) (List.replicate 1 noPr) 0 1 2 = 0 := by kernel_rfl
theorem ex_ok0 : stepOk (exR 0).1 (exR 0).2 0 = true := by kernel_rfl
theorem ex_ok1 : stepOk (exR 1).1 (exR 1).2 0 = true := by kernel_rfl
theorem ex_ok2 : stepOk (exR 2).1 (exR 2).2 0 = true := by kernel_rfl
theorem ex_ok3 : stepOk (exR 3).1 (exR 3).2 0 = false := by kernel_rfl
theorem ex_ok (i : Nat) (h : i < 4) : stepOk (exR i).1 (exR i).2 0 = decide (i < 3) := by
 match i with
 |0 => exact ex_ok0
 |1 => exact ex_ok1
 |2 => exact ex_ok2
 |3 => exact ex_ok3
theorem ex_len (i : Nat) (h : i < 5) : (exR i).1.length = 3 ∧ (exR i).2.length = 1 := by
 match i with
 |0 => exact ⟨by kernel_rfl, by kernel_rfl⟩
 |1 => exact ⟨by kernel_rfl, by kernel_rfl⟩
 |2 => exact ⟨by kernel_rfl, by kernel_rfl⟩
 |3 => exact ⟨by kernel_rfl, by kernel_rfl⟩
 |4 => exact ⟨by kernel_rfl, by kernel_rfl⟩
theorem ex_mem : membersL (exR 4).1 (exR 4).2 = [2] := by kernel_rfl
theorem ex_check : checkL (exR 4).1 (exR 4).2 = true := by kernel_rfl
theorem ex_res : (pr (exR 4).2 0).res = true := by kernel_rfl
theorem LfZm.ca {P : Program} {f : FuncId} {args args0 : List SV} {H0 H : AH} {R : SV → AH → Prop} {dr : Bool} {W : List Nat} {k : SV → AH → Prop} (hF : z19 P f args0 H0 R) (ρ : Nat → Nat)
  (hk : ∀ s0 H1, R s0 H1 → ∀ s1 H2, s1 = s0.ren (cren H0.nxt H.nxt ρ) → H2 = after H0.nxt ρ H0 H H1 → k s1 H2)
  (a1 : SV.wkL args (SV.renL ρ args0) := by simp [SV.wkL, SV.wk, SV.renL, SV.ren, z18, zm, z1a, zn, zp, zs, zr, z17, zu, za, zi, zk, z11, zl, zc, zb, zf, Cl.sv, Pr.sv, z1f, z2j, ze, zq, zh, zz, ints, zt, z14, z1t]) (a2 : SV.ltL H.nxt (SV.renL ρ args0) := by simp [SV.renL, SV.ren, SV.ltL, SV.lt, z18, zm, z1a, zn, zp, zs, zr, z17, zu, za, zi, zk, z11, zl, zc, zb, zf, Cl.sv, Pr.sv, z1f, z2j, ze, zq, zh, zz, ints, zt, z14, z1t]) (a3 : SV.ltL H0.nxt args0 := by simp [SV.ltL, SV.lt, z18, zm, z1a, zn, zp, zs, zr, z17, zu, za, zi, zk, z11, zl, zc, zb, zf, Cl.sv, Pr.sv, z1f, z2j, ze, zq, zh, zz, ints, zt, z14, z1t])
  (a4 : (List.range H0.nxt).all (fun id => decide (ρ id < H.nxt)) = true := by exact rfl) (a5 : z16 ρ H0.nxt H.os H0.os := by simp [z16, Sk.find, Sk.one, z1c, z1h, z1x, SV.renL, SV.ren, Obj.lt_row, SV.ltL, SV.lt, z18, zm, z1a, zn, zp, zs, zr, z17, zu, za, zi, zk, z11, zl, zc, zb, zf, Cl.sv, Pr.sv, z1f, z2j, ze, zq, zh, zz, ints, zt, z14, z1t]) (a6 : injB ρ H0.os = true := by exact rfl) (a7 : z21 H0.os := by simp [z21, Sk.one, Obj.own, z18, zm, z1a, zn, zp, zs, zr, z17, zu, za, zi, zk, z11, zl, zc, zb, zf, Cl.sv, Pr.sv, z1f, z2j, ze, zq, zh, zz, ints, zt, z14, z1t])
  (a8 : (H0.os.map (·.1)).Nodup := by simp) (a9 : ∀ x ∈ H0.os, (x.2.2 0).own = true → (Sk.find H.os (ρ x.1)).map (·.1) = some x.2.1 := by simp [Sk.one, Obj.own, Sk.find, z18, zm, z1a, zn, zp, zs, zr, z17, zu, za, zi, zk, z11, zl, zc, zb, zf, Cl.sv, Pr.sv, z1f, z2j, ze, zq, zh, zz, ints, zt, z14, z1t]) (a10 : dr = true → (z1g ρ H0.os).all (fun id => W.contains id) = true := by simp [z1g, Sk.one, Obj.own, z18, zm, z1a, zn, zp, zs, zr, z17, zu, za, zi, zk, z11, zl, zc, zb, zf, Cl.sv, Pr.sv, z1f, z2j, ze, zq, zh, zz, ints, zt, z14, z1t]) : callK P f args H dr W k :=
 z4p hF ρ a1 a2 a3 a4 a5 a6 a7 a8 a9 a10 hk
theorem LfZm.af {s e e1 : SV} {H g g1 : AH} (h1 : s = e) (h2 : H = g) (a1 : e = e1 := by simp only [after, cren, id, z2e, reduceCtorEq, Nat.reduceEqDiff, Nat.one_ne_zero, Nat.zero_ne_one, z3c, z1s, z1g, Sk.one, Obj.own, Obj.ren, Row.ren, SV.ren, SV.renL, List.map_cons, List.map_nil, List.nil_append, List.cons_append, ↓reduceIte, Nat.reduceLT, Nat.reduceAdd, Nat.reduceSub, Nat.reduceEqDiff, Nat.add_zero, Bool.false_eq_true, Tryd.tyInt, Tryd.szInt, Tryd.zInt, Tryd.tyInts, Tryd.szInts, Tryd.tyErr, Tryd.szErr, Tryd.zErr, Tryd.tyBool, Tryd.szBool, Tryd.zBool, Tryd.tyStr, Tryd.szStr, Tryd.tyCl, Tryd.szCl, Tryd.zCl, Tryd.tyPr, Tryd.szPr, Tryd.zPr, Tryd.tyCls, Tryd.szCls, Tryd.tyPrs, Tryd.szPrs, Tryd.tyLs, Tryd.szLs, Tryd.zLs, z18, zm, z1a, zn, zp, zs, zr, z17, zu, cls_0, cls_1, cls_2, cls_3, cls_4, prs_0, prs_1, prs_2, prs_3, prs_4, prs_5, prs_6, z2t, z2u, Cl.sv, Pr.sv, zl, zc, z1n, z1w, z2r, Tryd.tyStrs, Tryd.szStrs, Tryd.tyBools, Tryd.szBools, z14, z1t, Tryd.tyTape, Tryd.szTape, Tryd.zTape, Tryd.zStr, zt, z4v, z4u, lsS, lsH, z1f, List.length_replicate, strs_0, bos_0, z1o, z1z, z34, z1o, z3e, z4h, lsS, lsH, z1f, List.length_replicate]; exact rfl) (a2 : g = g1 := by simp only [after, cren, id, z2e, reduceCtorEq, Nat.reduceEqDiff, Nat.one_ne_zero, Nat.zero_ne_one, z3c, z1s, z1g, Sk.one, Obj.own, Obj.ren, Row.ren, SV.ren, SV.renL, List.map_cons, List.map_nil, List.nil_append, List.cons_append, ↓reduceIte, Nat.reduceLT, Nat.reduceAdd, Nat.reduceSub, Nat.reduceEqDiff, Nat.add_zero, Bool.false_eq_true, Tryd.tyInt, Tryd.szInt, Tryd.zInt, Tryd.tyInts, Tryd.szInts, Tryd.tyErr, Tryd.szErr, Tryd.zErr, Tryd.tyBool, Tryd.szBool, Tryd.zBool, Tryd.tyStr, Tryd.szStr, Tryd.tyCl, Tryd.szCl, Tryd.zCl, Tryd.tyPr, Tryd.szPr, Tryd.zPr, Tryd.tyCls, Tryd.szCls, Tryd.tyPrs, Tryd.szPrs, Tryd.tyLs, Tryd.szLs, Tryd.zLs, z18, zm, z1a, zn, zp, zs, zr, z17, zu, cls_0, cls_1, cls_2, cls_3, cls_4, prs_0, prs_1, prs_2, prs_3, prs_4, prs_5, prs_6, z2t, z2u, Cl.sv, Pr.sv, zl, zc, z1n, z1w, z2r, Tryd.tyStrs, Tryd.szStrs, Tryd.tyBools, Tryd.szBools, z14, z1t, Tryd.tyTape, Tryd.szTape, Tryd.zTape, Tryd.zStr, zt, z4v, z4u, lsS, lsH, z1f, List.length_replicate, strs_0, bos_0, z1o, z1z, z34, z1o, z3e, z4h, lsS, lsH, z1f, List.length_replicate]; exact rfl) : s = e1 ∧ H = g1 := ⟨h1.trans a1, h2.trans a2⟩
theorem LfZm.g1 {X : Cx} {fr : Fr} {H : AH} {fr1 : Fr} {H1 : AH} (ρ : Nat → Nat) (a1 : z1e ρ H1.nxt fr fr1 := by simp [z1e, Sk.get, SV.ren, SV.renL, SV.lt, SV.ltL, z18, zm, z1a, zn, zp, zs, zr, z17, zu, za, zi, zk, z11, zl, zc, zb, zf, Cl.sv, Pr.sv, z1f, z2j, ze, zq, zh, zz, ints, zt, z14, z1t]) (a2 : z16 ρ H1.nxt H.os H1.os := by simp [z16, Sk.find, Sk.one, z1c, z1h, SV.renL, SV.ren, Obj.lt_row, SV.ltL, SV.lt, z18, zm, z1a, zn, zp, zs, zr, z17, zu, za, zi, zk, z11, zl, zc, zb, zf, Cl.sv, Pr.sv, z1f, z2j, ze, zq, zh, zz, ints, zt, z14, z1t]) (a3 : injB ρ H1.os = true := by exact rfl)
  (a4 : z21 H1.os := by simp [z21, Sk.one, z18, zm, z1a, zn, zp, zs, zr, z17, zu, za, zi, zk, z11, zl, zc, zb, zf, Cl.sv, Pr.sv, z1f, z2j, ze, zq, zh, zz, ints, zt, z14, z1t]) (a5 : (List.range X.m0).all (fun id => ρ id == id) = true := by exact rfl) (a6 : X.m0 ≤ H1.nxt := by exact Nat.le_of_ble_eq_true rfl) (a7 : z21 H.os := by simp [z21, Sk.one, Obj.own, z18, zm, z1a, zn, zp, zs, zr, z17, zu, za, zi, zk, z11, zl, zc, zb, zf, Cl.sv, Pr.sv, z1f, z2j, ze, zq, zh, zz, ints, zt, z14, z1t])
  (a8 : z2i X.m0 H.os H1.os := by simp [z2i, Sk.one, Obj.own, Sk.find, z18, zm, z1a, zn, zp, zs, zr, z17, zu, za, zi, zk, z11, zl, zc, zb, zf, Cl.sv, Pr.sv, z1f, z2j, ze, zq, zh, zz, ints, zt, z14, z1t]) (a9 : bigB X.m0 ρ H1.os = true := by exact rfl) : z1u X ρ fr H fr1 H1 := z1u.mk' ρ a1 a2 a3 a4 a5 a6 a7 a8 a9
theorem LfZm.g0 {X : Cx} {fr : Fr} {H : AH} {fr1 : Fr} {H1 : AH} (ρ : Nat → Nat) (a1 : z1e ρ H1.nxt fr fr1 := by simp [z1e, Sk.get, z3t, SV.lt, SV.ltL, z18, zm, z1a, zn, zp, zs, zr, z17, zu, za, zi, zk, z11, zl, zc, zb, zf, Cl.sv, Pr.sv, z1f, z2j, ze, zq, zh, zz, ints, zt, z14, z1t]) (a2 : z16 ρ H1.nxt H.os H1.os := by simp [z16, Sk.find, Sk.one, z1c, z1h, z1x, Obj.lt_row, SV.ltL, SV.lt, z18, zm, z1a, zn, zp, zs, zr, z17, zu, za, zi, zk, z11, zl, zc, zb, zf, Cl.sv, Pr.sv, z1f, z2j, ze, zq, zh, zz, ints, zt, z14, z1t]) (a3 : injB ρ H1.os = true := by exact rfl)
  (a4 : z21 H1.os := by simp [z21, Sk.one, z18, zm, z1a, zn, zp, zs, zr, z17, zu, za, zi, zk, z11, zl, zc, zb, zf, Cl.sv, Pr.sv, z1f, z2j, ze, zq, zh, zz, ints, zt, z14, z1t]) (a5 : (List.range X.m0).all (fun id => ρ id == id) = true := by exact rfl) (a6 : X.m0 ≤ H1.nxt := by exact Nat.le_of_ble_eq_true rfl) (a7 : z21 H.os := by simp [z21, Sk.one, Obj.own, z18, zm, z1a, zn, zp, zs, zr, z17, zu, za, zi, zk, z11, zl, zc, zb, zf, Cl.sv, Pr.sv, z1f, z2j, ze, zq, zh, zz, ints, zt, z14, z1t])
  (a8 : z2i X.m0 H.os H1.os := by simp [z2i, Sk.one, Obj.own, Sk.find, z18, zm, z1a, zn, zp, zs, zr, z17, zu, za, zi, zk, z11, zl, zc, zb, zf, Cl.sv, Pr.sv, z1f, z2j, ze, zq, zh, zz, ints, zt, z14, z1t]) (a9 : bigB X.m0 ρ H1.os = true := by exact rfl) : z1u X ρ fr H fr1 H1 := z1u.mk' ρ a1 a2 a3 a4 a5 a6 a7 a8 a9
theorem LfZm.r3 {a : Prop} (h : a := by simp [z4k, Sk.one, Obj.own, z18, zm, z1a, zn, zp, zs, zr, z17, zu, za, zi, zk, z11, zl, zc, zb, zf, Cl.sv, Pr.sv, z1f, z2j, ze, zq, zh, zz, ints, zt, z14, z1t]) : a := h
theorem z41 {a b c : Prop} (r : a → c) (h : b) (e : a = b := by simp only [stp, isQ, z3n, Sk.get, Sk.put, z33, z1i, ↓reduceIte, reduceCtorEq, Nat.reduceEqDiff, true_and, and_true, true_implies, implies_true, forall_const, imp_self, Bool.false_eq_true, false_implies, false_and, and_false, Bool.false_and, Bool.and_false, qop, grdK, List.getElem?_toArray, List.getElem?_cons_zero, List.getElem?_cons_succ, beq_true, beq_false, beq_self_eq_true, Bool.and_true, Bool.true_and, Bool.not_true, Bool.not_false, Bool.not_not, Bool.and_eq_true, Bool.not_eq_true', Bool.not_eq_false', z2a, Bool.cond_true_left, Bool.cond_false_left, Bool.cond_true_right, Bool.cond_false_right, cond_true, cond_false, and_imp, z4s, Sk.find, Sk.one, Kd.agg, List.contains_nil, List.contains_cons, Nat.reduceBEq, Bool.or_false, Bool.true_or, Bool.or_true, Bool.false_or, ite_self, Nat.lt_one_iff, Nat.zero_add, Nat.add_zero, Nat.reduceAdd, Nat.reduceMul, Nat.reduceSub, Nat.reduceLT, Nat.reduceLeDiff, Nat.le_refl, Nat.zero_le, ne_eq, Nat.one_ne_zero, not_false_eq_true, not_true_eq_false, Int.toNat_natCast, Int.reduceToNat, List.length_cons, List.length_nil, and_self, Kd.slice.injEq, exists_eq', Option.map_some, Option.some.injEq, List.drop_zero, List.drop_succ_cons, List.take_succ_cons, List.take_zero, List.take_nil, List.drop_nil, List.nil_append, List.cons_append, List.append_nil, List.append_eq, List.all_cons, List.all_nil, spl, z38, SV.cells, SV.scalar, binK, binII, binBB, intK, z3f, strK, z3y, binAA, binNil, unK, convK, z44, z47, partK, z48, z49, optK, z4c, bndK, Option.isSome_some, Option.isSome_none, Nat.sub_zero, or_true, true_or, z3x, z43, fillS, z4n, lenK, z20.len, opdsK, mmK, z2l, eop, copyK, srcK, z2k, setO, z4r, z31, z2e, z3q, boxK, z32, z3a, z4d, updF, mkK, mmapK, z20.ofKd, mputK, z20.add, z20.okKd, z4b, z20.has, Tryd.tyInt, Tryd.szInt, Tryd.zInt, Tryd.tyInts, Tryd.szInts, Tryd.tyErr, Tryd.szErr, Tryd.zErr, Tryd.tyBool, Tryd.szBool, Tryd.zBool, Tryd.tyStr, Tryd.szStr, Tryd.tyCl, Tryd.szCl, Tryd.zCl, Tryd.tyPr, Tryd.szPr, Tryd.zPr, Tryd.tyCls, Tryd.szCls, Tryd.tyPrs, Tryd.szPrs, Tryd.tyLs, Tryd.szLs, Tryd.zLs, z18, zm, z1a, zn, zp, zs, zr, z17, zu, cls_0, cls_1, cls_2, cls_3, cls_4, prs_0, prs_1, prs_2, prs_3, prs_4, prs_5, prs_6, z2t, z2u, Cl.sv, Pr.sv, zl, zc, z1n, z1w, z2r, Tryd.tyStrs, Tryd.szStrs, Tryd.tyBools, Tryd.szBools, z14, z1t, ints, Tryd.tyTape, Tryd.szTape, Tryd.zTape, Tryd.zStr, zt, z4v, z4u, lsS, lsH, z1f, List.length_replicate, strs_0, bos_0]; exact rfl) : c := r (Eq.mpr e h)
set_option maxHeartbeats 2000000 in
theorem sane_spec : z19 Tryd.prog 19 [] ⟨0, []⟩ (fun s H1 => s = .bool true ∧ H1 = ⟨0, []⟩) := by
  refine z19.ofC false 65 [.tmp 0] Tryd.func19 rfl rfl Tryd.ntmps19 Tryd.results19 rfl ?_;intro w0 own0 β0 Q hQ hQn;simp only [z2f];refine Cs.seq ?_;refine Cs.reg [] rfl ?_;intro K hK;(refine z41 z6 ?_; repeat (with_reducible apply ai;exact z2));refine z8 (z7 (hK _ _ ?_)); clear hK K;refine Cs.seq ?_;refine Cs.reg [1, 2] rfl ?_;intro K hK;iterate 2 (refine z41 z6 ?_; repeat (with_reducible apply ai;exact z2))
  refine z41 z6 ?_;repeat (with_reducible apply ai;exact z2)
  have hkk : ∀ i, i < 1 → okKey (kAt keyB i) = true := fun i hi => by obtain rfl : i = 0 := by omega
                                                                      rfl
  rw [show strs [⟨#[98]⟩] = strs keyB from rfl];refine LfZm.ca (lfNew_spec keyB [false] 1 1 rfl rfl (by omega) (by omega) (by omega) hkk (by simp [keyB])) (id) ?_;rintro s0 H0 ⟨rfl, rfl⟩ s1 H1 hs1 hH1;obtain ⟨hs2, hH2⟩ := LfZm.af hs1 hH1;clear hs1 hH1;subst hs2 hH2;repeat (with_reducible apply ai;exact z2)
  iterate 6 (refine z41 z6 ?_; repeat (with_reducible apply ai;exact z2))
  refine z8 (z7 (hK _ _ ?_)); clear hK K;refine Cs.seq ?_;refine Cs.seq ?_;refine Cs.reg [1, 13] rfl ?_;intro K hK;iterate 2 (refine z41 z6 ?_; repeat (with_reducible apply ai;exact z2))
  refine z8 (z7 (hK _ _ ?_)); clear hK K;refine Cs.cond _ rfl ?_ ?_
  · intro h13
    exfalso; simp at h13
  · intro h13
    
    refine Cs.skip ?_;refine Cs.seq ?_;refine Cs.reg [1, 2] rfl ?_;intro K hK;(refine z41 z6 ?_; repeat (with_reducible apply ai;exact z2));refine z41 z6 ?_;repeat (with_reducible apply ai;exact z2)
    refine LfZm.ca (start_spec (newC keyB [false] 1) (List.replicate 1 noPr) 3 1 (z1f ..) List.length_replicate (by omega) (by omega) 0 1 2) (fun q => q + 2) ?_;rintro s0 H0 ⟨rfl, rfl⟩ s1 H1 hs1 hH1;obtain ⟨hs2, hH2⟩ := LfZm.af hs1 hH1;clear hs1 hH1;subst hs2 hH2;repeat (with_reducible apply ai;exact z2)
    iterate 5 (refine z41 z6 ?_; repeat (with_reducible apply ai;exact z2))
    refine z8 (z7 (hK _ _ ?_)); clear hK K;refine Cs.seq ?_;refine Cs.reg [1, 2, 3] rfl ?_;intro K hK;(refine z41 z6 ?_; repeat (with_reducible apply ai;exact z2));refine z8 (z7 (hK _ _ ?_)); clear hK K;refine Cs.seq ?_;refine Cs.seq ?_;refine Cs.reg [1, 3, 4] rfl ?_;intro K hK;iterate 3 (refine z41 z6 ?_; repeat (with_reducible apply ai;exact z2))
    refine z8 (z7 (hK _ _ ?_)); clear hK K;rw [show startR (newC keyB [false] 1) (List.replicate 1 noPr) 0 1 2 = exR 0 from rfl, ex_start];refine Cs.block ?_;intro Q0 hN0 hX0 hR0 hE0;refine Cs.loop (σ := Nat) (fun i => i ≤ 4) (fun i => 4 - i) (fun i => [(1, .ptr 4 0 0 0), (3, .int .i64 i), (4, .bool (decide (i < 4)))]) (fun i => ⟨7, [(6, zn (exR i).2), (5, zm (exR i).1), (4, zs 5 (exR i).1.length 6 (exR i).2.length)]⟩) 0 (Nat.zero_le _) (ρ := id) (LfZm.g0 id) ?_;rintro i hi QL1 hL1 hRL1 hEL1;refine Cs.seq ?_;refine Cs.seq ?_;refine Cs.reg [1, 3, 25] rfl ?_;intro K hK;iterate 5 (refine z41 z6 ?_; repeat (with_reducible apply ai;exact z2))
    refine z8 (z7 (hK _ _ ?_)); clear hK K;refine Cs.cond _ rfl ?_ ?_
    · intro h25;replace h25 := zd h25;have hi4 : i < 4 := h25.1;have hlen := ex_len i (by omega);refine Cs.skip ?_;refine Cs.seq ?_;refine Cs.block ?_;intro Q1 hN1 hX1 hR1 hE1;refine Cs.reg [1, 3, 4] rfl ?_;intro K hK;(refine z41 z6 ?_; repeat (with_reducible apply ai;exact z2));refine z41 z6 ?_;repeat (with_reducible apply ai;exact z2)
      refine LfZm.ca (stepL_spec (exR i).1 (exR i).2 _ _ rfl rfl (by omega) (by omega) 0) (fun q => q + 5) ?_;rintro s0 H0 ⟨rfl, rfl⟩ s1 H1 hs1 hH1;obtain ⟨hs2, hH2⟩ := LfZm.af hs1 hH1;clear hs1 hH1;subst hs2 hH2;repeat (with_reducible apply ai;exact z2)
      rw [show stepR (exR i).1 (exR i).2 0 = exR (i + 1) from rfl, ex_ok i hi4];iterate 5 (refine z41 z6 ?_; repeat (with_reducible apply ai;exact z2))
      refine z8 (z7 (hK _ _ ?_)); clear hK K;refine Cs.nil ?_;refine hN1 _ _ ?_;refine Cs.reg [1, 3, 4] rfl ?_;intro K hK;iterate 3 (refine z41 z6 ?_; repeat (with_reducible apply ai;exact z2))
      refine z8 (z7 (hK _ _ ?_)); clear hK K;refine Cs.nil ?_;refine hL1 _ _ ?_;rw [show (i : Int) + 1 = ((i + 1 : Nat) : Int) from by omega];refine ⟨i + 1, ⟨by omega, by omega⟩, fun q => if q = 5 then 7 else if q = 6 then 8 else q, (LfZm.g1 (fun q => if q = 5 then 7 else if q = 6 then 8 else q) (by simp [z1e, Sk.get, SV.ren, SV.renL, SV.lt, SV.ltL, z18, zm, z1a, zn, zp, zs, zr, z17, zu, za, zi, zk, z11, zl, zc, zb, zf, Cl.sv, Pr.sv, z1f, z2j, ze, zq, zh, zz, ints, zt, z14, z1t, show decide (i < 3) = decide (i + 1 < 4) by congr 1; exact propext ⟨fun h => by omega, fun h => by omega⟩]) (by simp [z16, Sk.find, Sk.one, z1c, z1h, SV.renL, SV.ren, Obj.lt_row, SV.ltL, SV.lt, z18, zm, z1a, zn, zp, zs, zr, z17, zu, za, zi, zk, z11, zl, zc, zb, zf, Cl.sv, Pr.sv, z1f, z2j, ze, zq, zh, zz, ints, zt, z14, z1t, show decide (i < 3) = decide (i + 1 < 4) by congr 1; exact propext ⟨fun h => by omega, fun h => by omega⟩]))⟩
    · intro h25
      have hi4 : i = 4 := by
        rcases Nat.lt_or_ge i 4 with h | h
        · simp [h] at h25; omega
        · omega
      subst hi4;have hlen := ex_len 4 (by omega);refine Cs.exit ?_;refine hEL1 _ _ _ ?_;refine hX0 _ _ ?_;refine Cs.seq ?_;refine Cs.reg [1, 3, 5] rfl ?_;intro K hK;(refine z41 z6 ?_; repeat (with_reducible apply ai;exact z2));refine z41 z6 ?_;repeat (with_reducible apply ai;exact z2)
      refine LfZm.ca (members_spec (exR 4).1 (exR 4).2 _ _ rfl rfl (by omega) (by omega)) (fun q => q + 5) ?_;rintro s0 H0 ⟨rfl, rfl⟩ s1 H1 hs1 hH1;obtain ⟨hs2, hH2⟩ := LfZm.af hs1 hH1;clear hs1 hH1;subst hs2 hH2;repeat (with_reducible apply ai;exact z2)
      rw [ex_mem];(refine z41 z6 ?_; repeat (with_reducible apply ai;exact z2));refine z8 (z7 (hK _ _ ?_)); clear hK K;refine Cs.seq ?_;refine Cs.reg [0] rfl ?_;intro K hK;iterate 15 (refine z41 z6 ?_; repeat (with_reducible apply ai;exact z2))
      refine z6 ?_;refine stp_grd rfl rfl ?_;refine LfCm.gr ?_;refine ⟨fun _ => ?_, fun h => (by cases h)⟩;refine z41 id ?_;repeat (with_reducible apply ai;exact z2)
      refine LfZm.ca (check_spec (exR 4).1 (exR 4).2 _ _ rfl rfl (by omega) (by omega)) (fun q => q + 5) ?_;rintro s0 H0 ⟨rfl, rfl⟩ s1 H1 hs1 hH1;obtain ⟨hs2, hH2⟩ := LfZm.af hs1 hH1;clear hs1 hH1;subst hs2 hH2;repeat (with_reducible apply ai;exact z2)
      rw [ex_check];iterate 15 (refine z41 z6 ?_; repeat (with_reducible apply ai;exact z2))
      refine z8 (z7 (hK _ _ ?_)); clear hK K;refine Cs.ret ?_;refine hQ _ _ ?_;rw [ex_res, hlen.2];refine z1b.mk (H' := ⟨0, []⟩) (.inl rfl) ?_;refine zw ?_;repeat (with_reducible apply ai;exact z2)
      refine ⟨zj, (LfZm.g0 id), LfZm.r3, ?_⟩;trivial
end Go.Proofs
