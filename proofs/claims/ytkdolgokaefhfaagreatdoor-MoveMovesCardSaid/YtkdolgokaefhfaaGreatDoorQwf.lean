/-
  Walks and plain facts, joined: part 6 of 6.
  Conditions: those that each statement names.
-/
import Derived.Test.YtkdolgokaefhfaaGreatDoorQwe
import Derived.Test.YtkdolgokaefhfaaGreatDoorQwb
import Derived.Test.YtkdolgokaefhfaaGreatDoorQwc
import Derived.Test.YtkdolgokaefhfaaGreatDoorQwd
set_option linter.unusedSimpArgs false
set_option linter.unusedVariables false
set_option maxRecDepth 4000
namespace Go.Proofs
open Go.Sk
theorem Tryz.szU32w : z44 Tryz.prog 50 = 1 := by kernel_rfl
theorem fin5_n (x : Fin 5) (m : Nat) : (x.val < m + 5) = True := eq_true (Nat.lt_of_lt_of_le x.isLt (by omega))
theorem fin5_if5 (x : Fin 5) (m : Nat) : (if x.val = 5 then m else x.val) = x.val := if_neg (fun e => by have := x.isLt; omega)
def cellK {N : Nat} (x : Hm) (κ : Fin N × Nat) : List SV := [.int .i64 x.nd.id, .str x.nd.key, .int .u32 x.nd.word, .slc false κ.1.val κ.2 x.off x.n]
theorem cellK_wk {N m : Nat} (h : N ≤ m) (x : Hm) (κ : Fin N × Nat) : (∀ s ∈ cellK x κ, s.scalar = true) ∧ SV.ltL m (cellK x κ) := row4_wk (Nat.lt_of_lt_of_le κ.1.isLt h)
theorem some_cells {n N : Nat} {F : Nat → List SV} {P : Hm → Fin N × Nat → Prop} (hN : 0 < N) (h : ∀ q, q < n → ∃ x κ, SV.wkL (F q) (cellK x κ) ∧ P x κ) : ∃ (f : Nat → Hm) (κ : Nat → Fin N × Nat), ∀ q, q < n → SV.wkL (F q) (cellK (f q) (κ q)) ∧ P (f q) (κ q) := by
 refine ⟨fun q => if hq : q < n then (h q hq).choose else noHm, fun q => if hq : q < n then (h q hq).choose_spec.choose else (⟨0, hN⟩, 0), fun q hq => ?_⟩;have := (h q hq).choose_spec.choose_spec;simp only [dif_pos hq];exact this
def PK (p : Prop) (l : List Hm) (r : List Rw) (b : Nat) (x : Hm) (κ : Fin 5 × Nat) : Prop := ((∃ m t, m < l.length ∧ κ = (3, m + 1) ∧ x.full = (hm l m).full.take t) ∨ (κ = (4, 0) ∧ p ∧ ∃ t, x.full = r.take t)) ∧ x.off ≤ x.full.length ∧ x.full.length ≤ b
def QK (p : Prop) (l : List Hm) (r r6 : List Rw) (b : Nat) (x : Hm) (κ : Fin 7 × Nat) : Prop := ((∃ m t, m < l.length ∧ κ = (3, m + 1) ∧ x.full = (hm l m).full.take t) ∨ (κ = (4, 0) ∧ p ∧ ∃ t, x.full = r.take t) ∨ (κ = (6, 0) ∧ x.full = r6)) ∧ x.off ≤ x.full.length ∧ x.full.length ≤ b + 1
def up7 (κ : Fin 5 × Nat) : Fin 7 × Nat := (⟨κ.1.val, Nat.lt_of_lt_of_le κ.1.isLt (by decide)⟩, κ.2)
theorem PK.up {p : Prop} {l : List Hm} {r : List Rw} (r6 : List Rw) {b : Nat} {x : Hm} {κ : Fin 5 × Nat} (h : PK p l r b x κ) (y : Nd) : QK p l r r6 b ⟨y, x.full, x.off⟩ (up7 κ) := by
 obtain ⟨h1, h2, h3⟩ := h;refine ⟨?_, h2, by show x.full.length ≤ b + 1; omega⟩;rcases h1 with ⟨m, t, e1, e2, e3⟩ | ⟨e1, hp, t, e2⟩
 ·exact .inl ⟨m, t, e1, by rw [e2]; rfl, e3⟩
 ·exact .inr (.inl ⟨by rw [e1]; rfl, hp, t, e2⟩)
theorem cellUp {x : Hm} {κ : Fin 5 × Nat} (y : Nd) (a : List SV) (h : a = [.int .i64 y.id, .str y.key, .int .u32 y.word, .slc false κ.1.val κ.2 x.off x.n]) : SV.wkL a (cellK (⟨y, x.full, x.off⟩ : Hm) (up7 κ)) := by
 subst h;exact ⟨rfl, rfl, rfl, rfl, trivial⟩
theorem app_one {n i : Nat} {F : Nat → List SV} {a b c d : SV} (hi : i < n + 1) : app F n (z6p 4 1 [a, b, c, d]) i = if i < n then F i else [a, b, c, d] := by
 rw [app]
 by_cases e : i < n
 ·rw [if_pos e, if_pos e]
 ·rw [if_neg e, if_neg e, show i - n = 0 by omega];have h := rowsOf_ok (sz := 4) (n := 1) (cs := [a, b, c, d]) rfl 0 (by decide);refine List.ext_getElem? fun j => ?_
  by_cases hj : j < 4
  ·rw [h.2 j hj, Nat.zero_mul, Nat.zero_add]
  ·rw [List.getElem?_eq_none (by rw [h.1]; omega), List.getElem?_eq_none (by simp; omega)]
theorem odd_gen {p : Prop} {l : List Hm} {r : List Rw} {b n n' : Nat} {f : Nat → Hm} {κ : Nat → Fin 5 × Nat} (hP : ∀ i, i < n → PK p l r b (f i) (κ i)) {F : Nat → List SV} (h : ∀ q, q < n' → ∃ j, ∃ y : Nd, j < n ∧ F q = [.int .i64 y.id, .str y.key, .int .u32 y.word, .slc false (κ j).1.val (κ j).2 (f j).off (f j).n]) (r6 : List Rw) : ∃ (f' : Nat → Hm) (κ' : Nat → Fin 7 × Nat), ∀ q, q < n' → SV.wkL (F q) (cellK (f' q) (κ' q)) ∧ QK p l r r6 b (f' q) (κ' q) :=
 some_cells (by decide) fun q hq => by
  obtain ⟨j, y, h1, h2⟩ := h q hq;exact ⟨_, _, cellUp y _ h2, (hP j h1).up r6 y⟩
theorem z5p {a : Prop} (h : a := by simp [SV.wkL, SV.wk, z1o, z1h, Sk.get, Sk.find, Sk.one, zb.eq_1, zb.eq_2, zb.eq_3, zt, z1p, z14, SV.renL, SV.ren, Obj.lt_row, SV.ltL, SV.lt, ownU, z42, z10, z2k, Obj.own.eq_1, Obj.own.eq_2, Obj.own.eq_3, Obj.own.eq_4, z1f, zp, z11, z25, nds, Nd.sv, z1e, z2z, Rg.sv, Rw.sv, zi, z28, z5i, z6g, z3w, z1b, z15, z3y, z3z, z2q, fin5_n, fin5_if5, Fin.is_lt, z4l, z4m, z1c, z1w, z1i, z14]) : a := h
theorem MwJm.ca {P : Program} {f : FuncId} {args args0 : List SV} {H0 H : AH} {R : SV → AH → Prop} {dr : Bool} {W : List Nat} {k : SV → AH → Prop} (hF : zf P f args0 H0 R) (ρ : Nat → Nat) (hk : ∀ s0 H1, R s0 H1 → ∀ s1 H2, s1 = s0.ren (z55 H0.nxt H.nxt ρ) → H2 = after H0.nxt ρ H0 H H1 → k s1 H2) (q : CaQ args args0 ρ H0 H dr W := by constructor <;> exact z5p) (r : CaR ρ H0 H := by exact ⟨rfl, rfl⟩) : z4n P f args H dr W k := caS hF ρ hk q r
theorem MwJm.t {s e : SV} {H g : AH} (q : AfQ s e H g := by constructor <;> (simp only [z2a, after, z55, id, z2r, reduceCtorEq, Nat.reduceEqDiff, Nat.one_ne_zero, Nat.zero_ne_one, z5d, z2p, z10, Sk.one, Obj.own.eq_1, Obj.own.eq_2, Obj.own.eq_3, Obj.own.eq_4, Obj.ren.eq_1, Obj.ren.eq_2, Obj.ren_blk, Row.ren, SV.ren, SV.renL, List.map_cons, List.map_nil, List.nil_append, List.cons_append, ↓reduceIte, Nat.reduceLT, Nat.reduceAdd, Nat.reduceSub, Nat.reduceEqDiff, Nat.add_zero, Bool.false_eq_true, Tryz.tyInt, Tryz.szInt, Tryz.tyStr, Tryz.tyU32, Tryz.tyNode, Tryz.szNode, Tryz.zNode, Tryz.tyNodes, Tryz.szNodes, z1f, zp, nds, Nd.sv, Tryz.tyHd, Tryz.szHd, Tryz.zHd, Tryz.tyHds, Tryz.szHds, Tryz.tyU32, Tryz.szU32w, Tryz.tyInts, Tryz.szInts, Tryz.tyInt, Tryz.szInt, Tryz.zInt, z6q, Tryz.tyRow, Tryz.szRow, Tryz.zRow, Tryz.tyRows, Tryz.szRows, Tryz.tyLets, Tryz.tyStr, Tryz.szStr, Tryz.tyBd, Tryz.zBd, Rw.sv, Tryz.tyErr, Tryz.tyTape, Tryz.szTape, Tryz.zTape, zi, z28, Tryz.tyRg, Tryz.szRg, Tryz.zRg, Rg.sv, z60, z4c, z43, z61, z4c, fam_ren, hmF_ren]; exact rfl)) : AfQ s e H g := q
theorem MwJm.af {s e e1 : SV} {H g g1 : AH} (h1 : s = e) (h2 : H = g) (q : AfQ e e1 g g1 := by exact MwJm.t) : s = e1 ∧ H = g1 := ⟨h1.trans q.s, h2.trans q.h⟩
theorem MwJm.g {X : Cx} {fr : Fr} {H : AH} {fr1 : Fr} {H1 : AH} (ρ : Nat → Nat) (q : GvQ X ρ fr H fr1 H1 := by constructor <;> exact z5p) (r : GvR X ρ H1 := by exact ⟨rfl, rfl, Nat.le_of_ble_eq_true rfl, rfl⟩) : z34 X ρ fr H fr1 H1 := gvS ρ q r
theorem z2v {a c d : Prop} (r : a → c) (h : d) (e : Sd a d := by simp only [stp, isQ, z47, Sk.get, Sk.put, z1y, zw, ↓reduceIte, reduceCtorEq, Nat.reduceEqDiff, true_and, and_true, true_implies, implies_true, forall_const, imp_self, Bool.false_eq_true, false_implies, false_and, and_false, Bool.false_and, Bool.and_false, qop, grdK, List.getElem?_toArray, List.getElem?_cons_zero, List.getElem?_cons_succ, beq_true, beq_false, beq_self_eq_true, Bool.and_true, Bool.true_and, Bool.not_true, Bool.not_false, Bool.not_not, Bool.and_eq_true, Bool.not_eq_true', Bool.not_eq_false', z12, Bool.cond_true_left, Bool.cond_false_left, Bool.cond_true_right, Bool.cond_false_right, cond_true, cond_false, and_imp, z3u, Sk.find, Sk.one, z19, z1s, Kd.agg, List.contains_nil, List.contains_cons, Nat.reduceBEq, Bool.or_false, Bool.true_or, Bool.or_true, Bool.false_or, ite_self, Nat.lt_one_iff, Nat.zero_add, Nat.add_zero, Nat.reduceAdd, Nat.reduceMul, Nat.reduceSub, Nat.reduceLT, Nat.reduceLeDiff, Nat.le_refl, Nat.zero_le, ne_eq, Nat.one_ne_zero, not_false_eq_true, not_true_eq_false, Int.toNat_natCast, Int.reduceToNat, List.length_cons, List.length_nil, and_self, Kd.slice.injEq, exists_eq', Option.map_some, Option.some.injEq, List.drop_zero, List.drop_succ_cons, List.take_succ_cons, List.take_zero, List.take_nil, List.drop_nil, List.nil_append, List.cons_append, List.append_nil, List.append_eq, List.all_cons, List.all_nil, spl, z27, SV.cells, SV.scalar, binK, z58, z57, intK, z2w, strK, z39, z56, z3q, unK, z54, z3c, z3d, z53, z3e, z3f, optK, z3h, bndK, Option.isSome_some, Option.isSome_none, Nat.sub_zero, or_true, true_or, z38, z3b, z4p, z3l, lenK, z17.len, zq.n, z4o, mmK, z1v, eop, z5f, srcK, z1d, z3r, z3m, capK, z5g, z2c, z2r, z31, boxK, z2d, z3i, z33, updF, mkK, z50, z17.ofKd, zq.ofKd, z51, z17.add, z17.okKd, zq.put, zq.okKd, zq.okP, z3g, z17.has, zq.get, zq.z, Tryz.tyInt, Tryz.szInt, Tryz.tyStr, Tryz.tyU32, Tryz.tyNode, Tryz.szNode, Tryz.zNode, Tryz.tyNodes, Tryz.szNodes, z1f, zp, nds, Nd.sv, Tryz.tyHd, Tryz.szHd, Tryz.zHd, Tryz.tyHds, Tryz.szHds, Tryz.tyU32, Tryz.szU32w, Tryz.tyInts, Tryz.szInts, Tryz.tyInt, Tryz.szInt, Tryz.zInt, z6q, Tryz.tyRow, Tryz.szRow, Tryz.zRow, Tryz.tyRows, Tryz.szRows, Tryz.tyLets, Tryz.tyStr, Tryz.szStr, Tryz.tyBd, Tryz.zBd, z6d, z6f, Rw.sv, Tryz.tyErr, Tryz.tyTape, Tryz.szTape, Tryz.zTape, zi, z28, ints, Tryz.tyRg, Tryz.szRg, Tryz.zRg, Rg.sv, z60]; (repeat (with_reducible apply Sd.and; exact z8)); exact Sd.rfl) : c := r (e.f h)
set_option maxHeartbeats 4000000 in
theorem odd_spec (p : Prop) (ls : List Int) (m at_ : Nat) (hx : ls.length ≤ 9223372036854775807) (hmm : m ≤ ls.length) (ha : at_ ≤ m) (l : List Hm) (r : List Rw) (b : Nat) (hb : b ≤ 2000) (n : Nat) (hn : n ≤ 90) (f : Nat → Hm) (κ : Nat → Fin 5 × Nat) (hP : ∀ i, i < n → PK p l r b (f i) (κ i)) :
  zf Tryz.prog 13 [.ptr 0 0 0 0, .slc false 2 0 0 n] ⟨5, [(0, zi 1 m at_), (1, z28 ls), (2, Sk.one (.row ⟨false, false, 54, 4, n, fun i => [.int .i64 (f i).nd.id, .str (f i).nd.key, .int .u32 (f i).nd.word, .slc false (κ i).1.val (κ i).2 (f i).off (f i).n]⟩)), (3, (l.length + 1, fam false 56 2 (hmF false l))), (4, Sk.one (.row ⟨false, false, 56, 2, r.length, rws r⟩))]⟩
   (fun s H1 => ∃ (n' : Nat) (f' : Nat → Hm) (κ' : Nat → Fin 7 × Nat) (r6 : List Rw) (at1 : Nat), at1 ≤ m ∧ n' ≤ n + 1 ∧ (∀ i, i < n' → QK p l r r6 b (f' i) (κ' i)) ∧ s = .slc true 5 0 0 n' ∧ H1 = ⟨7, [(5, Sk.one (.row ⟨true, false, 54, 4, n', fun i => [.int .i64 (f' i).nd.id, .str (f' i).nd.key, .int .u32 (f' i).nd.word, .slc false (κ' i).1.val (κ' i).2 (f' i).off (f' i).n]⟩)), (6, Sk.one (.row ⟨true, false, 56, 2, r6.length, rws r6⟩)), (0, zi 1 m at1)]⟩) := by
 refine zf.ofC false 81 [.tmp 4] Tryz.func13 rfl rfl Tryz.ntmps13 Tryz.results13 rfl ?_;intro w0 own0 β0 Q hQ hQn;simp only [z1l];refine sg [0, 1] rfl ?_;intro K hK;refine z2v z5 ?_;refine z7 (z6 (hK _ _ ?_)); clear hK K;refine sg [0, 1] rfl ?_;intro K hK;iterate 3 (refine z2v z5 ?_)
 refine z7 (z6 (hK _ _ ?_)); clear hK K;refine Cs.seq ?_;refine sg [0, 1, 10] rfl ?_;intro K hK;iterate 3 (refine z2v z5 ?_)
 refine z7 (z6 (hK _ _ ?_)); clear hK K;refine Cs.cond _ rfl ?_ ?_
 ·intro h10;have hn0 : n = 0 := by simpa using h10
  refine sg [4] rfl ?_;intro K hK;iterate 2 (refine z2v z5 ?_)
  refine z7 (z6 (hK _ _ ?_)); clear hK K;obtain ⟨f', κ', hfk⟩ := odd_gen hP (n' := n) (F := fun i => [.int .i64 (f i).nd.id, .str (f i).nd.key, .int .u32 (f i).nd.word, .slc false (κ i).1.val (κ i).2 (f i).off (f i).n]) (fun q hq => ⟨q, (f q).nd, hq, rfl⟩) [];refine Cs.fam0 56 2 (hmF true []) ?_;dsimp only;refine Cs.wkRow 5 (fun i => [.int .i64 (f' i).nd.id, .str (f' i).nd.key, .int .u32 (f' i).nd.word, .slc false (κ' i).1.val (κ' i).2 (f' i).off (f' i).n]) rfl rfl (fun q hq => ⟨(hfk q hq).1, cellK_wk (Nat.le_of_ble_eq_true rfl) _ _⟩) ?_;simp only [z3r, ↓reduceIte, Sk.one, Nat.reduceEqDiff];refine Cs.ret ?_;refine hQ _ _ ?_;refine zm.mk (H' := ⟨7, [(5, Sk.one (.row ⟨true, false, 54, 4, n, fun i => [.int .i64 (f' i).nd.id, .str (f' i).nd.key, .int .u32 (f' i).nd.word, .slc false (κ' i).1.val (κ' i).2 (f' i).off (f' i).n]⟩)), (6, Sk.one (.row ⟨true, false, 56, 2, 0, rws []⟩)), (0, zi 1 m at_)]⟩) (.inl rfl) ?_;refine z1q ?_;refine ⟨z5p, (MwJm.g id), z5p, ?_⟩;exact ⟨n, f', κ', [], at_, ha, by omega, fun i hi => (hfk i hi).2, by trivial, by trivial⟩
 ·intro h10;have hn0 : ¬ n = 0 := by simpa using h10
  refine Cs.skip ?_;refine sg [0, 1, 5] rfl ?_;intro K hK;iterate 4 (refine z2v z5 ?_)
  refine z2v z5 ?_;refine MwJm.ca (z26 ls m at_ n hx hmm ha (by omega)) (id) ?_;rintro s0 H0 ⟨v, at1, h1, h2, h3, h4, rfl, rfl⟩ s1 H1 hs1 hH1;obtain ⟨hs2, hH2⟩ := MwJm.af hs1 hH1;clear hs1 hH1;subst hs2 hH2;repeat (with_reducible apply ai;exact z8)
  have hv := h3 (by omega);iterate 2 (refine z2v z5 ?_)
  refine z7 (z6 (hK _ _ ?_)); clear hK K;refine Cs.seq ?_;refine sg [0, 1, 5, 19] rfl ?_;intro K hK;refine z2v z5 ?_;refine z2v z5 ?_;refine MwJm.ca (z26 ls m at1 7 hx hmm h1 (by omega)) (id) ?_;rintro s0 H0 ⟨w, at2, g1, g2, g3, g4, rfl, rfl⟩ s1 H1 hs1 hH1;obtain ⟨hs2, hH2⟩ := MwJm.af hs1 hH1;clear hs1 hH1;subst hs2 hH2;repeat (with_reducible apply ai;exact z8)
  refine z7 (z6 (hK _ _ ?_)); clear hK K;refine Cs.block ?_;intro Q0 hN0 hX0 hR0 hE0;refine sg [0, 1, 5, 19, 20] rfl ?_;intro K hK;iterate 2 (refine z2v z5 ?_)
  refine z7 (z6 (hK _ _ ?_)); clear hK K;refine Cs.cond _ rfl ?_ ?_
  ·intro h20
   try replace h20 := z9 h20
   refine Cs.reg [1] rfl ?_;intro K hK;iterate 2 (refine z2v z5 ?_)
   refine z2v z5 ?_;refine MwJm.ca (oddKey_spec ls m at2 hx hmm g1) (id) ?_;rintro s0 H0 ⟨key, at3, p1, p2, rfl, rfl⟩ s1 H1 hs1 hH1;obtain ⟨hs2, hH2⟩ := MwJm.af hs1 hH1;clear hs1 hH1;subst hs2 hH2;repeat (with_reducible apply ai;exact z8)
   iterate 4 (refine z2v z5 ?_)
   refine z7 (z6 (hK _ _ ?_)); clear hK K;refine Cs.nil ?_;refine hN0 _ _ ?_;refine Cs.seq ?_
   obtain ⟨f', κ', hfk⟩ := odd_gen hP (n' := n) (F := fun i' => if i' = v.toNat then [.int .i64 (f v.toNat).nd.id, .str key, .int .u32 (f v.toNat).nd.word, .slc false (κ v.toNat).1.val (κ v.toNat).2 (f v.toNat).off (f v.toNat).n] else [.int .i64 (f i').nd.id, .str (f i').nd.key, .int .u32 (f i').nd.word, .slc false (κ i').1.val (κ i').2 (f i').off (f i').n]) (fun q hq => by
    by_cases e : q = v.toNat
    ·exact ⟨v.toNat, ⟨(f v.toNat).nd.id, key, (f v.toNat).nd.word⟩, by omega, by rw [if_pos e]⟩
    ·exact ⟨q, (f q).nd, hq, by rw [if_neg e]⟩) []
   refine Cs.fam0 56 2 (hmF true []) ?_;dsimp only;refine Cs.wkRow 5 (fun i => [.int .i64 (f' i).nd.id, .str (f' i).nd.key, .int .u32 (f' i).nd.word, .slc false (κ' i).1.val (κ' i).2 (f' i).off (f' i).n]) rfl rfl (fun q hq => ⟨(hfk q hq).1, cellK_wk (Nat.le_of_ble_eq_true rfl) _ _⟩) ?_;simp only [z3r, ↓reduceIte, Sk.one, Nat.reduceEqDiff];refine Cs.reg [4] rfl ?_;intro K hK;iterate 2 (refine z2v z5 ?_)
   refine z7 (z6 (hK _ _ ?_)); clear hK K;refine Cs.ret ?_;refine hQ _ _ ?_;refine zm.mk (H' := ⟨7, [(5, Sk.one (.row ⟨true, false, 54, 4, n, fun i => [.int .i64 (f' i).nd.id, .str (f' i).nd.key, .int .u32 (f' i).nd.word, .slc false (κ' i).1.val (κ' i).2 (f' i).off (f' i).n]⟩)), (6, Sk.one (.row ⟨true, false, 56, 2, 0, rws []⟩)), (0, zi 1 m at3)]⟩) (.inl rfl) ?_;refine z1q ?_;refine ⟨z5p, (MwJm.g id), z5p, ?_⟩;exact ⟨n, f', κ', [], at3, p1, by omega, fun i hi => (hfk i hi).2, by trivial, by trivial⟩
  ·intro h20
   try replace h20 := z9 h20
   refine sg [0, 1, 5, 19, 28] rfl ?_;intro K hK;iterate 2 (refine z2v z5 ?_)
   refine z7 (z6 (hK _ _ ?_)); clear hK K;refine Cs.cond _ rfl ?_ ?_
   ·intro h28
    try replace h28 := z9 h28
    refine Cs.reg [1] rfl ?_;intro K hK;iterate 3 (refine z2v z5 ?_)
    refine z2v z5 ?_;refine MwJm.ca (pick_spec ls [0, 1, 2] m at2 hx hmm g1 (by simp) (by simp)) (fun i => if i = 2 then 6 else i) ?_;rintro s0 H0 ⟨pi, at3, p1, p2, rfl, rfl⟩ s1 H1 hs1 hH1;obtain ⟨hs2, hH2⟩ := MwJm.af hs1 hH1;clear hs1 hH1;subst hs2 hH2;repeat (with_reducible apply ai;exact z8)
    iterate 4 (refine z2v z5 ?_)
    refine z7 (z6 (hK _ _ ?_)); clear hK K;refine Cs.nil ?_;refine hN0 _ _ ?_;refine Cs.seq ?_;refine Cs.give (H' := ⟨6, [(5, Sk.one (.row ⟨true, false, 54, 4, n, fun i' => if i' = v.toNat then [.int .i64 (nth [0, 1, 2] pi), .str (f v.toNat).nd.key, .int .u32 (f v.toNat).nd.word, .slc false (κ v.toNat).1.val (κ v.toNat).2 (f v.toNat).off (f v.toNat).n] else [.int .i64 (f i').nd.id, .str (f i').nd.key, .int .u32 (f i').nd.word, .slc false (κ i').1.val (κ i').2 (f i').off (f i').n]⟩)), (0, zi 1 m at3), (1, z28 ls), (3, (l.length + 1, fam false 56 2 (hmF false l))), (4, Sk.one (.row ⟨false, false, 56, 2, r.length, rws r⟩))]⟩) (fr' := [(1, .slc true 5 0 0 n)]) id (MwJm.g id) ?_
    obtain ⟨f', κ', hfk⟩ := odd_gen hP (n' := n) (F := fun i' => if i' = v.toNat then [.int .i64 (nth [0, 1, 2] pi), .str (f v.toNat).nd.key, .int .u32 (f v.toNat).nd.word, .slc false (κ v.toNat).1.val (κ v.toNat).2 (f v.toNat).off (f v.toNat).n] else [.int .i64 (f i').nd.id, .str (f i').nd.key, .int .u32 (f i').nd.word, .slc false (κ i').1.val (κ i').2 (f i').off (f i').n]) (fun q hq => by
     by_cases e : q = v.toNat
     ·exact ⟨v.toNat, ⟨nth [0, 1, 2] pi, (f v.toNat).nd.key, (f v.toNat).nd.word⟩, by omega, by rw [if_pos e]⟩
     ·exact ⟨q, (f q).nd, hq, by rw [if_neg e]⟩) []
    refine Cs.fam0 56 2 (hmF true []) ?_;dsimp only;refine Cs.wkRow 5 (fun i => [.int .i64 (f' i).nd.id, .str (f' i).nd.key, .int .u32 (f' i).nd.word, .slc false (κ' i).1.val (κ' i).2 (f' i).off (f' i).n]) rfl rfl (fun q hq => ⟨(hfk q hq).1, cellK_wk (Nat.le_of_ble_eq_true rfl) _ _⟩) ?_;simp only [z3r, ↓reduceIte, Sk.one, Nat.reduceEqDiff];refine Cs.reg [4] rfl ?_;intro K hK;iterate 2 (refine z2v z5 ?_)
    refine z7 (z6 (hK _ _ ?_)); clear hK K;refine Cs.ret ?_;refine hQ _ _ ?_;refine zm.mk (H' := ⟨7, [(5, Sk.one (.row ⟨true, false, 54, 4, n, fun i => [.int .i64 (f' i).nd.id, .str (f' i).nd.key, .int .u32 (f' i).nd.word, .slc false (κ' i).1.val (κ' i).2 (f' i).off (f' i).n]⟩)), (6, Sk.one (.row ⟨true, false, 56, 2, 0, rws []⟩)), (0, zi 1 m at3)]⟩) (.inl rfl) ?_;refine z1q ?_;refine ⟨z5p, (MwJm.g id), z5p, ?_⟩;exact ⟨n, f', κ', [], at3, p1, by omega, fun i hi => (hfk i hi).2, by trivial, by trivial⟩
   ·intro h28
    try replace h28 := z9 h28
    refine sg [0, 1, 5, 19, 37] rfl ?_;intro K hK;iterate 2 (refine z2v z5 ?_)
    refine z7 (z6 (hK _ _ ?_)); clear hK K;refine Cs.cond _ rfl ?_ ?_
    ·intro h37;obtain ⟨hPv, hoff, hfl⟩ := hP v.toNat (by omega);have hsum : (f v.toNat).off + (f v.toNat).n = (f v.toNat).full.length := by simp only [Hm.n]; omega
     obtain ⟨mm, t, e1, e2, e3⟩ | ⟨e2, _, t, e3⟩ := hPv
     ·skip
      refine Cs.reg [1] rfl ?_;intro K hK;iterate 6 (refine z2v z5 ?_)
      refine z2v z5 ?_;rw [show (κ v.toNat).1.val = 3 by rw [e2]; rfl, show (κ v.toNat).2 = mm + 1 by rw [e2]];have hle : (f v.toNat).full.length ≤ (hm l mm).full.length := by rw [e3, List.length_take]; exact Nat.min_le_right _ _
      refine MwJm.ca (oddRowsM_spec ls m at2 hx hmm g1 l mm l.length e1 (f v.toNat).off (f v.toNat).n (by omega) (by omega)) (fun i => if i = 2 then 3 else i) ?_;rintro s0 H0 ⟨out, at3, p1, p2, rfl, rfl⟩ s1 H1 hs1 hH1;obtain ⟨hs2, hH2⟩ := MwJm.af hs1 hH1;clear hs1 hH1;subst hs2 hH2;repeat (with_reducible apply ai;exact z8)
      iterate 3 (refine z2v z5 ?_)
      refine z7 (z6 (hK _ _ ?_)); clear hK K;refine Cs.nil ?_;refine hN0 _ _ ?_;refine Cs.seq ?_
      obtain ⟨f', κ', hfk⟩ : ∃ (f' : Nat → Hm) (κ' : Nat → Fin 7 × Nat), ∀ q, q < n → SV.wkL ((fun i' => if i' = v.toNat then [.int .i64 (f v.toNat).nd.id, .str (f v.toNat).nd.key, .int .u32 (f v.toNat).nd.word, .slc true 6 0 0 out.length] else [.int .i64 (f i').nd.id, .str (f i').nd.key, .int .u32 (f i').nd.word, .slc false (κ i').1.val (κ i').2 (f i').off (f i').n]) q) (cellK (f' q) (κ' q)) ∧ QK p l r out b (f' q) (κ' q) := some_cells (by decide) fun q hq => by
       by_cases e : q = v.toNat
       ·refine ⟨⟨(f v.toNat).nd, out, 0⟩, (6, 0), ?_, .inr (.inr ⟨rfl, rfl⟩), Nat.zero_le _, by dsimp only; omega⟩;rw [if_pos e];exact ⟨rfl, rfl, rfl, ⟨rfl, rfl, rfl, rfl⟩, trivial⟩
       ·exact ⟨_, _, cellUp (f q).nd _ (by rw [if_neg e]), (hP q hq).up out _⟩
      refine Cs.wkRow 5 (fun i => [.int .i64 (f' i).nd.id, .str (f' i).nd.key, .int .u32 (f' i).nd.word, .slc false (κ' i).1.val (κ' i).2 (f' i).off (f' i).n]) rfl rfl (fun q hq => ⟨(hfk q hq).1, cellK_wk (Nat.le_of_ble_eq_true rfl) _ _⟩) ?_;simp only [z3r, ↓reduceIte, Sk.one, Nat.reduceEqDiff];refine Cs.reg [4] rfl ?_;intro K hK;iterate 2 (refine z2v z5 ?_)
      refine z7 (z6 (hK _ _ ?_)); clear hK K;refine Cs.ret ?_;refine hQ _ _ ?_;refine zm.mk (H' := ⟨7, [(5, Sk.one (.row ⟨true, false, 54, 4, n, fun i => [.int .i64 (f' i).nd.id, .str (f' i).nd.key, .int .u32 (f' i).nd.word, .slc false (κ' i).1.val (κ' i).2 (f' i).off (f' i).n]⟩)), (6, Sk.one (.row ⟨true, false, 56, 2, out.length, rws out⟩)), (0, zi 1 m at3)]⟩) (.inl rfl) ?_;refine z1q ?_;refine ⟨z5p, (MwJm.g id), z5p, ?_⟩;exact ⟨n, f', κ', out, at3, p1, by omega, fun i hi => (hfk i hi).2, by trivial, by trivial⟩
     ·skip
      refine Cs.reg [1] rfl ?_;intro K hK;iterate 6 (refine z2v z5 ?_)
      refine z2v z5 ?_;rw [show (κ v.toNat).1.val = 4 by rw [e2]; rfl, show (κ v.toNat).2 = 0 by rw [e2]];have hle : (f v.toNat).full.length ≤ r.length := by rw [e3, List.length_take]; exact Nat.min_le_right _ _
      refine MwJm.ca (oddRows0_spec ls m at2 hx hmm g1 r (f v.toNat).off (f v.toNat).n (by omega) (by omega)) (fun i => if i = 2 then 4 else i) ?_;rintro s0 H0 ⟨out, at3, p1, p2, rfl, rfl⟩ s1 H1 hs1 hH1;obtain ⟨hs2, hH2⟩ := MwJm.af hs1 hH1;clear hs1 hH1;subst hs2 hH2;repeat (with_reducible apply ai;exact z8)
      iterate 3 (refine z2v z5 ?_)
      refine z7 (z6 (hK _ _ ?_)); clear hK K;refine Cs.nil ?_;refine hN0 _ _ ?_;refine Cs.seq ?_
      obtain ⟨f', κ', hfk⟩ : ∃ (f' : Nat → Hm) (κ' : Nat → Fin 7 × Nat), ∀ q, q < n → SV.wkL ((fun i' => if i' = v.toNat then [.int .i64 (f v.toNat).nd.id, .str (f v.toNat).nd.key, .int .u32 (f v.toNat).nd.word, .slc true 6 0 0 out.length] else [.int .i64 (f i').nd.id, .str (f i').nd.key, .int .u32 (f i').nd.word, .slc false (κ i').1.val (κ i').2 (f i').off (f i').n]) q) (cellK (f' q) (κ' q)) ∧ QK p l r out b (f' q) (κ' q) := some_cells (by decide) fun q hq => by
       by_cases e : q = v.toNat
       ·refine ⟨⟨(f v.toNat).nd, out, 0⟩, (6, 0), ?_, .inr (.inr ⟨rfl, rfl⟩), Nat.zero_le _, by dsimp only; omega⟩;rw [if_pos e];exact ⟨rfl, rfl, rfl, ⟨rfl, rfl, rfl, rfl⟩, trivial⟩
       ·exact ⟨_, _, cellUp (f q).nd _ (by rw [if_neg e]), (hP q hq).up out _⟩
      refine Cs.wkRow 5 (fun i => [.int .i64 (f' i).nd.id, .str (f' i).nd.key, .int .u32 (f' i).nd.word, .slc false (κ' i).1.val (κ' i).2 (f' i).off (f' i).n]) rfl rfl (fun q hq => ⟨(hfk q hq).1, cellK_wk (Nat.le_of_ble_eq_true rfl) _ _⟩) ?_;simp only [z3r, ↓reduceIte, Sk.one, Nat.reduceEqDiff];refine Cs.reg [4] rfl ?_;intro K hK;iterate 2 (refine z2v z5 ?_)
      refine z7 (z6 (hK _ _ ?_)); clear hK K;refine Cs.ret ?_;refine hQ _ _ ?_;refine zm.mk (H' := ⟨7, [(5, Sk.one (.row ⟨true, false, 54, 4, n, fun i => [.int .i64 (f' i).nd.id, .str (f' i).nd.key, .int .u32 (f' i).nd.word, .slc false (κ' i).1.val (κ' i).2 (f' i).off (f' i).n]⟩)), (6, Sk.one (.row ⟨true, false, 56, 2, out.length, rws out⟩)), (0, zi 1 m at3)]⟩) (.inl rfl) ?_;refine z1q ?_;refine ⟨z5p, (MwJm.g id), z5p, ?_⟩;exact ⟨n, f', κ', out, at3, p1, by omega, fun i hi => (hfk i hi).2, by trivial, by trivial⟩
    ·intro h37
     try replace h37 := z9 h37
     refine sg [1, 5, 19, 48] rfl ?_;intro K hK;iterate 2 (refine z2v z5 ?_)
     refine z7 (z6 (hK _ _ ?_)); clear hK K;refine Cs.cond _ rfl ?_ ?_
     ·intro h48
      try replace h48 := z9 h48
      refine Cs.reg [1] rfl ?_;intro K hK;iterate 5 (refine z2v z5 ?_)
      refine z7 (z6 (hK _ _ ?_)); clear hK K;refine Cs.nil ?_;refine hN0 _ _ ?_;refine Cs.seq ?_
      obtain ⟨f', κ', hfk⟩ := odd_gen hP (n' := n) (F := fun i' => if i' = v.toNat then [.int .i64 (f v.toNat).nd.id, .str (f v.toNat).nd.key, .int .u32 2147483648, .slc false (κ v.toNat).1.val (κ v.toNat).2 (f v.toNat).off (f v.toNat).n] else [.int .i64 (f i').nd.id, .str (f i').nd.key, .int .u32 (f i').nd.word, .slc false (κ i').1.val (κ i').2 (f i').off (f i').n]) (fun q hq => by
       by_cases e : q = v.toNat
       ·exact ⟨v.toNat, ⟨(f v.toNat).nd.id, (f v.toNat).nd.key, 2147483648⟩, by omega, by rw [if_pos e]⟩
       ·exact ⟨q, (f q).nd, hq, by rw [if_neg e]⟩) []
      refine Cs.fam0 56 2 (hmF true []) ?_;dsimp only;refine Cs.wkRow 5 (fun i => [.int .i64 (f' i).nd.id, .str (f' i).nd.key, .int .u32 (f' i).nd.word, .slc false (κ' i).1.val (κ' i).2 (f' i).off (f' i).n]) rfl rfl (fun q hq => ⟨(hfk q hq).1, cellK_wk (Nat.le_of_ble_eq_true rfl) _ _⟩) ?_;simp only [z3r, ↓reduceIte, Sk.one, Nat.reduceEqDiff];refine Cs.reg [4] rfl ?_;intro K hK;iterate 2 (refine z2v z5 ?_)
      refine z7 (z6 (hK _ _ ?_)); clear hK K;refine Cs.ret ?_;refine hQ _ _ ?_;refine zm.mk (H' := ⟨7, [(5, Sk.one (.row ⟨true, false, 54, 4, n, fun i => [.int .i64 (f' i).nd.id, .str (f' i).nd.key, .int .u32 (f' i).nd.word, .slc false (κ' i).1.val (κ' i).2 (f' i).off (f' i).n]⟩)), (6, Sk.one (.row ⟨true, false, 56, 2, 0, rws []⟩)), (0, zi 1 m at2)]⟩) (.inl rfl) ?_;refine z1q ?_;refine ⟨z5p, (MwJm.g id), z5p, ?_⟩;exact ⟨n, f', κ', [], at2, g1, by omega, fun i hi => (hfk i hi).2, by trivial, by trivial⟩
     ·intro h48
      try replace h48 := z9 h48
      refine sg [1, 5, 19, 54] rfl ?_;intro K hK;iterate 2 (refine z2v z5 ?_)
      refine z7 (z6 (hK _ _ ?_)); clear hK K;refine Cs.cond _ rfl ?_ ?_
      ·intro h54
       try replace h54 := z9 h54
       refine Cs.regDraw [1] [0, 1, 2, 3, 4, 5, 6, 7, 8, 9, 10, 11, 12, 13, 14, 15, 16, 17] [[], [], [], [2], [2, 3], [], [], [6], [6, 7], [5, 6, 7, 8], [5, 6, 7, 8, 9], [], [11], [11, 12], [0, 5, 6, 7, 8, 9, 10, 11, 12, 13], [0, 5, 6, 7, 8, 9, 10, 11, 12, 13, 14], [0, 1, 2, 3, 4, 5, 6, 7, 8, 9, 10, 11, 12, 13, 14, 15], [0, 1, 2, 3, 4, 5, 6, 7, 8, 9, 10, 11, 12, 13, 14, 15, 16]] [[], [], [], [], [], [], [], [], [], [], [], [], [], [], [], [5], [], [5]] [[], [5], [5], [5], [5], [], [], [], [], [], [], [], [], [], [], [5], [5], [5]] Tryz.mo rfl rfl rfl (by kernel_rfl) (by kernel_rfl) (by kernel_rfl) rfl (by kernel_rfl) ?_;intro K hK;refine z2v (zh _ [] [] rfl rfl rfl) ?_;iterate 4 (refine z2v (zh _ [] [5] rfl rfl rfl) ?_)
       iterate 5 (refine z2v (zh _ [] [] rfl rfl rfl) ?_)
       rw [show ((n : Int) - 1).toNat = n - 1 by omega];repeat (with_reducible apply ai;exact z8)
       iterate 5 (refine z2v (zh _ [] [] rfl rfl rfl) ?_)
       refine z2v (zh _ [5] [5] rfl rfl rfl) ?_;refine z2v (zh _ [] [5] rfl rfl rfl) ?_;rw [show ((n : Int) - 1).toNat = n - 1 by omega];repeat (with_reducible apply ai;exact z8)
       refine z2v (zh _ [5] [5] rfl rfl rfl) ?_;refine z3p (z6 (hK _ _ ?_)); clear hK K;refine Cs.nil ?_;refine hN0 _ _ ?_;refine Cs.seq ?_
       obtain ⟨f', κ', hfk⟩ := odd_gen hP (n' := n) (F := fun i' => if i' = n - 1 then [.int .i64 (f 0).nd.id, .str (f 0).nd.key, .int .u32 (f 0).nd.word, .slc false (κ 0).1.val (κ 0).2 (f 0).off (f 0).n] else if i' = 0 then [.int .i64 (f (n - 1)).nd.id, .str (f (n - 1)).nd.key, .int .u32 (f (n - 1)).nd.word, .slc false (κ (n - 1)).1.val (κ (n - 1)).2 (f (n - 1)).off (f (n - 1)).n] else [.int .i64 (f i').nd.id, .str (f i').nd.key, .int .u32 (f i').nd.word, .slc false (κ i').1.val (κ i').2 (f i').off (f i').n]) (fun q hq => by
        by_cases e : q = n - 1
        ·exact ⟨0, (f 0).nd, by omega, by rw [if_pos e]⟩
        ·by_cases e2 : q = 0
         ·exact ⟨n - 1, (f (n - 1)).nd, by omega, by rw [if_neg e, if_pos e2]⟩
         ·exact ⟨q, (f q).nd, hq, by rw [if_neg e, if_neg e2]⟩) []
       refine Cs.fam0 56 2 (hmF true []) ?_;dsimp only;refine Cs.wkRow 5 (fun i => [.int .i64 (f' i).nd.id, .str (f' i).nd.key, .int .u32 (f' i).nd.word, .slc false (κ' i).1.val (κ' i).2 (f' i).off (f' i).n]) rfl rfl (fun q hq => ⟨(hfk q hq).1, cellK_wk (Nat.le_of_ble_eq_true rfl) _ _⟩) ?_;simp only [z3r, ↓reduceIte, Sk.one, Nat.reduceEqDiff];refine Cs.reg [4] rfl ?_;intro K hK;iterate 2 (refine z2v z5 ?_)
       refine z7 (z6 (hK _ _ ?_)); clear hK K;refine Cs.ret ?_;refine hQ _ _ ?_;refine zm.mk (H' := ⟨7, [(5, Sk.one (.row ⟨true, false, 54, 4, n, fun i => [.int .i64 (f' i).nd.id, .str (f' i).nd.key, .int .u32 (f' i).nd.word, .slc false (κ' i).1.val (κ' i).2 (f' i).off (f' i).n]⟩)), (6, Sk.one (.row ⟨true, false, 56, 2, 0, rws []⟩)), (0, zi 1 m at2)]⟩) (.inl rfl) ?_;refine z1q ?_;refine ⟨z5p, (MwJm.g id), z5p, ?_⟩;exact ⟨n, f', κ', [], at2, g1, by omega, fun i hi => (hfk i hi).2, by trivial, by trivial⟩
      ·intro h54
       try replace h54 := z9 h54
       refine sg [1, 5, 72] rfl ?_;intro K hK;iterate 2 (refine z2v z5 ?_)
       refine z7 (z6 (hK _ _ ?_)); clear hK K;refine Cs.cond _ rfl ?_ ?_
       ·intro h72
        try replace h72 := z9 h72
        refine Cs.reg [1] rfl ?_;intro K hK;iterate 7 (refine z2v z5 ?_)
        refine z7 (z6 (hK _ _ ?_)); clear hK K;refine Cs.nil ?_;refine hN0 _ _ ?_;refine Cs.seq ?_;refine Cs.give (H' := ⟨6, [(5, Sk.one (.row ⟨true, false, 54, 4, n + 1, fun i' => if i' < n then [.int .i64 (f i').nd.id, .str (f i').nd.key, .int .u32 (f i').nd.word, .slc false (κ i').1.val (κ i').2 (f i').off (f i').n] else [.int .i64 (f v.toNat).nd.id, .str (f v.toNat).nd.key, .int .u32 (f v.toNat).nd.word, .slc false (κ v.toNat).1.val (κ v.toNat).2 (f v.toNat).off (f v.toNat).n]⟩)), (0, zi 1 m at2), (1, z28 ls), (3, (l.length + 1, fam false 56 2 (hmF false l))), (4, Sk.one (.row ⟨false, false, 56, 2, r.length, rws r⟩))]⟩) (fr' := [(1, .slc true 5 0 0 (n + 1))]) (fun q => if q = 5 then 7 else q) (gvS (fun q => if q = 5 then 7 else q) ⟨z5p, (by simp [z1h, Sk.find, Sk.one, zb.eq_1, zb.eq_2, zb.eq_3, zt, SV.renL, SV.ren, Obj.lt_row, SV.ltL, SV.lt, z1f, zp, z11, z25, nds, Nd.sv, z1e, z2z, Rg.sv, Rw.sv, zi, z28, z5i, z6g, z3w, z1b, z15, z3y, z3z, z2q, fin5_n, fin5_if5, Fin.is_lt, z4l, z4m, z1c, z1w, z1i, z14]; exact fun i hi => app_one hi), z5p, z5p, z5p⟩ ⟨rfl, rfl, Nat.le_of_ble_eq_true rfl, rfl⟩) ?_
        obtain ⟨f', κ', hfk⟩ := odd_gen hP (n' := (n + 1)) (F := fun i' => if i' < n then [.int .i64 (f i').nd.id, .str (f i').nd.key, .int .u32 (f i').nd.word, .slc false (κ i').1.val (κ i').2 (f i').off (f i').n] else [.int .i64 (f v.toNat).nd.id, .str (f v.toNat).nd.key, .int .u32 (f v.toNat).nd.word, .slc false (κ v.toNat).1.val (κ v.toNat).2 (f v.toNat).off (f v.toNat).n]) (fun q hq => by
         by_cases e : q < n
         ·exact ⟨q, (f q).nd, e, by rw [if_pos e]⟩
         ·exact ⟨v.toNat, (f v.toNat).nd, by omega, by rw [if_neg e]⟩) []
        refine Cs.fam0 56 2 (hmF true []) ?_;dsimp only;refine Cs.wkRow 5 (fun i => [.int .i64 (f' i).nd.id, .str (f' i).nd.key, .int .u32 (f' i).nd.word, .slc false (κ' i).1.val (κ' i).2 (f' i).off (f' i).n]) rfl rfl (fun q hq => ⟨(hfk q hq).1, cellK_wk (Nat.le_of_ble_eq_true rfl) _ _⟩) ?_;simp only [z3r, ↓reduceIte, Sk.one, Nat.reduceEqDiff];refine Cs.reg [4] rfl ?_;intro K hK;iterate 2 (refine z2v z5 ?_)
        refine z7 (z6 (hK _ _ ?_)); clear hK K;refine Cs.ret ?_;refine hQ _ _ ?_;refine zm.mk (H' := ⟨7, [(5, Sk.one (.row ⟨true, false, 54, 4, (n + 1), fun i => [.int .i64 (f' i).nd.id, .str (f' i).nd.key, .int .u32 (f' i).nd.word, .slc false (κ' i).1.val (κ' i).2 (f' i).off (f' i).n]⟩)), (6, Sk.one (.row ⟨true, false, 56, 2, 0, rws []⟩)), (0, zi 1 m at2)]⟩) (.inl rfl) ?_;refine z1q ?_;refine ⟨z5p, (MwJm.g id), z5p, ?_⟩;exact ⟨(n + 1), f', κ', [], at2, g1, by omega, fun i hi => (hfk i hi).2, by trivial, by trivial⟩
       ·intro h72
        try replace h72 := z9 h72
        refine Cs.skip ?_;refine Cs.nil ?_;refine hN0 _ _ ?_;refine Cs.seq ?_;obtain ⟨f', κ', hfk⟩ := odd_gen hP (n' := n) (F := fun i' => [.int .i64 (f i').nd.id, .str (f i').nd.key, .int .u32 (f i').nd.word, .slc false (κ i').1.val (κ i').2 (f i').off (f i').n]) (fun q hq => ⟨q, (f q).nd, hq, rfl⟩) [];refine Cs.fam0 56 2 (hmF true []) ?_;dsimp only;refine Cs.wkRow 5 (fun i => [.int .i64 (f' i).nd.id, .str (f' i).nd.key, .int .u32 (f' i).nd.word, .slc false (κ' i).1.val (κ' i).2 (f' i).off (f' i).n]) rfl rfl (fun q hq => ⟨(hfk q hq).1, cellK_wk (Nat.le_of_ble_eq_true rfl) _ _⟩) ?_;simp only [z3r, ↓reduceIte, Sk.one, Nat.reduceEqDiff];refine Cs.reg [4] rfl ?_;intro K hK;iterate 2 (refine z2v z5 ?_)
        refine z7 (z6 (hK _ _ ?_)); clear hK K;refine Cs.ret ?_;refine hQ _ _ ?_;refine zm.mk (H' := ⟨7, [(5, Sk.one (.row ⟨true, false, 54, 4, n, fun i => [.int .i64 (f' i).nd.id, .str (f' i).nd.key, .int .u32 (f' i).nd.word, .slc false (κ' i).1.val (κ' i).2 (f' i).off (f' i).n]⟩)), (6, Sk.one (.row ⟨true, false, 56, 2, 0, rws []⟩)), (0, zi 1 m at2)]⟩) (.inl rfl) ?_;refine z1q ?_;refine ⟨z5p, (MwJm.g id), z5p, ?_⟩;exact ⟨n, f', κ', [], at2, g1, by omega, fun i hi => (hfk i hi).2, by trivial, by trivial⟩
end Go.Proofs

namespace Go.Sk
open Go.RowKit
theorem St.alias {X : Cx} {β : Env} {H : AH} {w : World} (hS : St X β H w) {c : Nat} {F : Nat → Obj} {q : Nat → Option Loc} (hown : ∀ k, k < c → (F k).own = false)
  (hq : ∀ k L, k < c → q k = some L → ∀ id k' o L', look H.os id k' = some o → o.own = true → β id k' = some L' → L'.blk ≠ L.blk)
  (ho : ∀ k, k < c → (F k).holds (β.set H.nxt q) w (q k)) (hl : ∀ k, k < c → (F k).lt (H.nxt + 1)) :
  St X (β.set H.nxt q) ⟨H.nxt + 1, (H.nxt, c, F) :: H.os⟩ w := by
 have hag := Env.agree_set β H.nxt q
 have hlk : ∀ id k o, look ((H.nxt, c, F) :: H.os) id k = some o → (id = H.nxt ∧ k < c ∧ o = F k) ∨ (id < H.nxt ∧ look H.os id k = some o) := fun id k o h => by
  rw [z2h] at h
  split at h
  ·rename_i he
   split at h
   ·exact .inl ⟨he.symm, by assumption, (Obj.opt_some h).1⟩
   ·cases h
  ·exact .inr ⟨(hS.lt _ _ _ h).1, h⟩
 have hold : ∀ id k, id < H.nxt → (β.set H.nxt q) id k = β id k := fun id k h => hag id k h;have hnew : ∀ k, (β.set H.nxt q) H.nxt k = q k := fun k => by unfold Env.set; rw [if_pos rfl]
 refine ⟨hS.os, hS.tape, hS.output, hS.size, fun id k h => ?_, fun id k o h => ?_, fun id k id' k' o o' L L' h h' how hb hb' he => ?_, fun b hb hn => ?_, fun id k o L h how hb => ?_, fun id k hb => ?_, ?_, fun id k o h => ?_, hS.tabs, hS.drawn⟩
 ·rw [hold id k (Nat.lt_of_lt_of_le h hS.m0)]; exact hS.fix id k h
 ·rcases hlk _ _ _ h with ⟨rfl, hk, rfl⟩ | ⟨hlt, h0⟩
  ·rw [hnew]; exact ho k hk
  ·rw [hold id k hlt]; exact (hS.holds _ _ _ h0).agree hag (hS.lt _ _ _ h0).2
 ·rcases hlk _ _ _ h with ⟨rfl, hk, rfl⟩ | ⟨hlt, h0⟩
  ·rw [hown k hk] at how; cases how
  ·rw [hold _ _ hlt] at hb;rcases hlk _ _ _ h' with ⟨rfl, hk', rfl⟩ | ⟨hlt', h0'⟩
   ·rw [hnew] at hb';exact absurd he (hq k' L' hk' hb' _ _ _ _ h0 how hb)
   ·rw [hold _ _ hlt'] at hb';exact hS.sep _ _ _ _ _ _ _ _ h0 h0' how hb hb' he
 ·refine hS.old b hb fun id k o L h how hbb => ?_;have hlt := (hS.lt _ _ _ h).1;exact hn id k o L (by rw [z2h, if_neg (by omega)]; exact h) how (by rw [hold _ _ hlt]; exact hbb)
 ·rcases hlk _ _ _ h with ⟨rfl, hk, rfl⟩ | ⟨hlt, h0⟩
  ·rw [hown k hk] at how; cases how
  ·rw [hold _ _ hlt] at hb;exact hS.mine _ _ _ _ h0 how hb
 ·obtain ⟨hlt, o, h, how⟩ := hS.keep id k hb;have hlt' := Nat.lt_of_lt_of_le hlt hS.m0;exact ⟨hlt, o, by rw [z2h, if_neg (by omega)]; exact h, how⟩
 ·exact Nat.le_succ_of_le hS.m0
 ·rcases hlk _ _ _ h with ⟨rfl, hk, rfl⟩ | ⟨hlt, h0⟩
  ·exact ⟨Nat.lt_succ_self _, hl k hk⟩
  ·refine ⟨Nat.lt_succ_of_lt hlt, ?_⟩;have := (hS.lt _ _ _ h0).2
   cases o with
   |row r => exact fun i j s hi hs => SV.lt_mono (Nat.le_succ _) s (this i j s hi hs)
   |blk _ _ => trivial
   |mapo _ M => exact ⟨SV.lt_mono (Nat.le_succ _) _ this.1, fun v => SV.lt_mono (Nat.le_succ _) _ (this.2 v)⟩
   |gone => trivial
section
variable {X : Cx} {Q : Exit → Fr → AH → Prop} {fr : Fr} {H : AH} {l : List Code}
theorem Cs.canon {c : Code} (rid : Nat) {r : Row} (f' : Nat → List SV) (cnt : Nat) (e : TypeId) (sz : Nat) (G : Nat → Obj) (κ : Nat → Nat × Nat)
  (hf : find H.os rid = some (1, fun _ => .row r))
  (hsrc : ∀ i, i < cnt → ∃ c0 F0, find H.os (κ i).1 = some (c0, F0) ∧ (κ i).2 < c0 ∧ (F0 (κ i).2).own = false ∧ F0 (κ i).2 ≠ .gone ∧ (G i).own = false ∧ (∀ β w q, (F0 (κ i).2).holds β w q → (G i).holds β w q) ∧ ∀ m, (G i).lt m)
  (hrow : ∀ i, i < r.n → ∃ a b d g o n j, j < cnt ∧ r.f i = [a, b, d, .slc g (κ j).1 (κ j).2 o n] ∧ f' i = [a, b, d, .slc false H.nxt (j + 1) o n] ∧ (a.lt 0 ∧ b.lt 0 ∧ d.lt 0))
  (h : Cs X (c :: l) Q fr ⟨H.nxt + 1, z3r ((H.nxt, cnt + 1, fam false e sz G) :: H.os) rid 0 (.row { r with f := f' })⟩) : Cs X (c :: l) Q fr H := fun β a w hF hS => by
 let q : Nat → Option Loc := fun k => match k with | 0 => none | i + 1 => β (κ i).1 (κ i).2
 have hrl0 : look H.os rid 0 = some (.row r) := (zo hf Nat.zero_lt_one).trans rfl;have hrlt : rid < H.nxt := (hS.lt _ _ _ hrl0).1
 have hlook : ∀ i, i < cnt → ∃ o, look H.os (κ i).1 (κ i).2 = some o ∧ o.own = false ∧ (G i).own = false ∧ (∀ β w q, o.holds β w q → (G i).holds β w q) ∧ ∀ m, (G i).lt m := fun i hi => by
  obtain ⟨c0, F0, h1, h2, h3, h4, h5, h6, h7⟩ := hsrc i hi;exact ⟨_, (zo h1 h2).trans (Obj.opt_of h4), h3, h5, h6, h7⟩
 have hS1 : St X (β.set H.nxt q) ⟨H.nxt + 1, (H.nxt, cnt + 1, fam false e sz G) :: H.os⟩ w := by
  refine hS.alias (fun k hk => ?_) (fun k L hk hL id k' o L' ho how hb' he => ?_) (fun k hk => ?_) (fun k hk => ?_)
  ·cases k with
   |zero => rfl
   |succ i => obtain ⟨_, _, _, h3, _, _⟩ := hlook i (by omega); exact h3
  ·cases k with
   |zero => cases hL
   |succ i =>
    obtain ⟨o0, h1, h2, _, _, _⟩ := hlook i (by omega);obtain ⟨e1, e2⟩ := hS.sep _ _ _ _ _ _ _ _ ho h1 how hb' hL he;rw [e1, e2, h1] at ho
    cases ho
    rw [h2] at how; cases how
  ·cases k with
   |zero => exact .inl ⟨rfl, rfl⟩
   |succ i =>
    obtain ⟨o0, h1, _, _, h4, _⟩ := hlook i (by omega);have hh := hS.holds _ _ _ h1;exact h4 _ _ _ (hh.agree (Env.agree_set β H.nxt q) (hS.lt _ _ _ h1).2)
  ·cases k with
   |zero => exact fun i j s hi _ => absurd hi (Nat.not_lt_zero _)
   |succ i => obtain ⟨_, _, _, _, _, h5⟩ := hlook i (by omega); exact h5 _
 have hag := Env.agree_set β H.nxt q;have hnew : ∀ k, (β.set H.nxt q) H.nxt k = q k := fun k => by unfold Env.set; rw [if_pos rfl]
 refine h (β.set H.nxt q) a w (hF.agree (Nat.le_succ H.nxt) hag) ?_;have hl0 : look ((H.nxt, cnt + 1, fam false e sz G) :: H.os) rid 0 = some (.row r) := by rw [z2h, if_neg (by omega)]; exact hrl0
 have hlk : ∀ id' k', look (z3r ((H.nxt, cnt + 1, fam false e sz G) :: H.os) rid 0 (.row { r with f := f' })) id' k' = if id' = rid ∧ k' = 0 then some (.row { r with f := f' }) else look ((H.nxt, cnt + 1, fam false e sz G) :: H.os) id' k' := fun id' k' => by
  rw [z45 _ _ _ _ _ hl0]; rfl
 have hcp : ∀ {id' k' u}, look (z3r ((H.nxt, cnt + 1, fam false e sz G) :: H.os) rid 0 (.row { r with f := f' })) id' k' = some u → ∃ u0, look ((H.nxt, cnt + 1, fam false e sz G) :: H.os) id' k' = some u0 ∧ u0.own = u.own := fun {id' k' u} hg => by
  rw [hlk] at hg
  split at hg
  ·rename_i e; obtain ⟨rfl, rfl⟩ := e; cases hg; exact ⟨_, hl0, rfl⟩
  ·exact ⟨u, hg, rfl⟩
 have hpc : ∀ {id' k' u}, look ((H.nxt, cnt + 1, fam false e sz G) :: H.os) id' k' = some u → ∃ u0, look (z3r ((H.nxt, cnt + 1, fam false e sz G) :: H.os) rid 0 (.row { r with f := f' })) id' k' = some u0 ∧ u0.own = u.own := fun {id' k' u} h => by
  by_cases e : id' = rid ∧ k' = 0
  ·obtain ⟨rfl, rfl⟩ := e;rw [hl0] at h; cases h
   exact ⟨.row { r with f := f' }, by rw [hlk]; simp, rfl⟩
  ·exact ⟨u, by rw [hlk, if_neg e]; exact h, rfl⟩
 refine ⟨hS1.os, hS1.tape, hS1.output, hS1.size, hS1.fix, fun id' k' u hg => ?_, fun id1 k1 id2 k2 u1 u2 L1 L2 g1 g2 go e1 e2 e3 => ?_, fun b hb hn => ?_, fun id' k' u L h ho hb => ?_, fun id' k' ho => ?_, hS1.m0, fun id' k' u hg => ?_, hS1.tabs, hS1.drawn⟩
 ·rw [hlk] at hg
  split at hg
  ·rename_i e; obtain ⟨rfl, rfl⟩ := e; cases hg
   rcases hS1.holds _ _ _ hl0 with hh | ⟨L, q1, q2, q3, q4, q5⟩
   ·exact .inl hh
   ·refine .inr ⟨L, q1, q2, q3, fun i hi => ?_, q5⟩;obtain ⟨x, y, z, g, o, n, j, hj, e1, e2, hx, hy, hz⟩ := hrow i hi;obtain ⟨z1, z2⟩ := q4 i hi;rw [e1] at z1 z2;have hkj : (κ j).1 < H.nxt := by obtain ⟨_, h1, _⟩ := hlook j hj; exact (hS.lt _ _ _ h1).1
    have hkb : (β.set H.nxt q) (κ j).1 (κ j).2 = β (κ j).1 (κ j).2 := hag _ _ hkj;refine ⟨by show (f' i).length = r.sz; rw [e2]; exact z1, fun u s hs => ?_⟩;have hs : (f' i)[u]? = some s := hs;rw [e2] at hs
    match u with
    |0 => exact z2 0 s hs
    |1 => exact z2 1 s hs
    |2 => exact z2 2 s hs
    |3 =>
     cases hs
     obtain ⟨_, v, y1, y2⟩ := z2 3 (.slc g (κ j).1 (κ j).2 o n) rfl;refine ⟨rfl, v, y1, ?_⟩
     have y3 : den (β.set H.nxt q) (.slc false (κ j).1 (κ j).2 o n) v := by
      cases g with
      |false => exact y2
      |true =>
       have ho : o = 0 := by
        simp only [den, z5j, if_true] at y2;rcases y2 with ⟨_, _, h, _⟩ | ⟨_, _, _, h, _⟩ <;> exact h
       exact SV.wk_den (a := .slc true (κ j).1 (κ j).2 o n) (by unfold SV.wk; exact ⟨rfl, rfl, rfl, rfl⟩) y2
     simp only [den, z5j, Bool.false_eq_true, if_false] at y3 ⊢;obtain ⟨a', c', d1, d2, d3⟩ := y3;refine ⟨a', c', d1, d2, fun hp => ?_⟩;obtain ⟨L', d4, d5⟩ := d3 hp;rw [hkb] at d4;exact ⟨L', by rw [hnew]; exact d4, d5⟩
    |u + 4 => simp at hs
  ·exact hS1.holds _ _ _ hg
 ·obtain ⟨v1, p1, o1⟩ := hcp g1;obtain ⟨v2, p2, _⟩ := hcp g2;exact hS1.sep _ _ _ _ _ _ _ _ p1 p2 (o1.trans go) e1 e2 e3
 ·refine hS1.old b hb fun id' k' u L h ho hbb => ?_;obtain ⟨u0, p, o⟩ := hpc h;exact hn id' k' u0 L p (o.trans ho) hbb
 ·obtain ⟨u0, p, o⟩ := hcp h;exact hS1.mine _ _ _ _ p (o.trans ho) hb
 ·obtain ⟨h0, u, p, o⟩ := hS1.keep id' k' ho;obtain ⟨u0, p0, o0⟩ := hpc p;exact ⟨h0, u0, p0, o0.trans o⟩
 ·rw [hlk] at hg
  split at hg
  ·rename_i e; obtain ⟨rfl, rfl⟩ := e; cases hg
   refine ⟨(hS1.lt _ _ _ hl0).1, fun i j s hi hs => ?_⟩;obtain ⟨x, y, z, g, o, n, j', hj, e1, e2, hx, hy, hz⟩ := hrow i hi;have hs : (f' i)[j]? = some s := hs;rw [e2] at hs
   match j with
   |0 => cases hs; exact SV.lt_mono (Nat.zero_le _) _ hx
   |1 => cases hs; exact SV.lt_mono (Nat.zero_le _) _ hy
   |2 => cases hs; exact SV.lt_mono (Nat.zero_le _) _ hz
   |3 => cases hs; exact Nat.lt_succ_self _
   |j + 4 => simp at hs
  ·exact hS1.lt _ _ _ hg
end
end Go.Sk

namespace Go.Proofs
open Go.Sk
theorem nds_renP (π : Pn) (l : List Nd) (i : Nat) : SV.renPL π (nds l i) = nds l i := by simp [nds, Nd.sv, SV.renPL, SV.renP]
theorem MwKm.s {a : Prop} (h : a := by simp [SV.wkL, SV.wk, z1o, z1h, Sk.get, Sk.find, Sk.one, zb.eq_1, zb.eq_2, zb.eq_3, zt, z1p, z14, SV.renL, SV.ren, Obj.lt_row, SV.ltL, SV.lt, ownU, z42, z10, z2k, Obj.own.eq_1, Obj.own.eq_2, Obj.own.eq_3, Obj.own.eq_4, z1f, zp, z11, z25, nds, Nd.sv, z1b, z15, z3y, z3z, z2q, z2g, z3k, z1c, z1w, z1i, z2m, z32, z23, z24, z2t, z14, z1e, z2z, zi, z28, z5i, z6g, Rg.sv]) : a := h
theorem MwKm.ca {P : Program} {f : FuncId} {args args0 : List SV} {H0 H : AH} {R : SV → AH → Prop} {dr : Bool} {W : List Nat} {k : SV → AH → Prop} (hF : zf P f args0 H0 R) (ρ : Nat → Nat) (hk : ∀ s0 H1, R s0 H1 → ∀ s1 H2, s1 = s0.ren (z55 H0.nxt H.nxt ρ) → H2 = after H0.nxt ρ H0 H H1 → k s1 H2) (q : CaQ args args0 ρ H0 H dr W := by constructor <;> exact MwKm.s) (r : CaR ρ H0 H := by exact ⟨rfl, rfl⟩) : z4n P f args H dr W k := caS hF ρ hk q r
theorem MwKm.t {s e : SV} {H g : AH} (q : AfQ s e H g := by constructor <;> (simp only [z2a, after, z55, id, z2r, reduceCtorEq, Nat.reduceEqDiff, Nat.one_ne_zero, Nat.zero_ne_one, z5d, z2p, z10, Sk.one, Obj.own.eq_1, Obj.own.eq_2, Obj.own.eq_3, Obj.own.eq_4, Obj.ren.eq_1, Obj.ren.eq_2, Obj.ren_blk, Row.ren, SV.ren, SV.renL, List.map_cons, List.map_nil, List.nil_append, List.cons_append, ↓reduceIte, Nat.reduceLT, Nat.reduceAdd, Nat.reduceSub, Nat.reduceEqDiff, Nat.add_zero, Bool.false_eq_true, Tryz.tyInt, Tryz.szInt, Tryz.tyStr, Tryz.tyU32, Tryz.tyNode, Tryz.szNode, Tryz.zNode, Tryz.tyNodes, Tryz.szNodes, z1f, zp, nds, Nd.sv, Tryz.tyRow, Tryz.szRow, Tryz.zRow, Tryz.tyRows, Tryz.szRows, Tryz.zRows, Tryz.tyHd, Tryz.szHd, Tryz.zHd, Tryz.tyHds, Tryz.szHds, Tryz.tyHoldings, Tryz.tyErr, Tryz.tyBool, Tryz.tyTape, Tryz.szTape, Tryz.zTape, zi, z28, Tryz.tyInts, Tryz.szInts, Tryz.tyRg, Tryz.szRg, Tryz.zRg, Rg.sv, z4c, z43, fam_ren, hmF_ren, hmR_fold, hmR_ren, z61, z4c, hoF_ren, hoR_fold, hoR_ren]; exact rfl)) : AfQ s e H g := q
theorem MwKm.af {s e e1 : SV} {H g g1 : AH} (h1 : s = e) (h2 : H = g) (q : AfQ e e1 g g1 := by exact MwKm.t) : s = e1 ∧ H = g1 := ⟨h1.trans q.s, h2.trans q.h⟩
theorem MwKm.c1 {P : Program} {f : FuncId} {args args0 : List SV} {H0 H Y g : AH} {X e : SV} {dr : Bool} {W : List Nat} {k : SV → AH → Prop} (hF : zf P f args0 H0 fun s H1 => s = X ∧ H1 = Y) (ρ : Nat → Nat) (h : k e g) (q : CaQ args args0 ρ H0 H dr W := by constructor <;> exact MwKm.s) (r : CaR ρ H0 H := by exact ⟨rfl, rfl⟩) (b : AfQ (X.ren (z55 H0.nxt H.nxt ρ)) e (after H0.nxt ρ H0 H Y) g := by exact MwKm.t) : z4n P f args H dr W k := c1S hF ρ h q r b
theorem MwKm.g {X : Cx} {fr : Fr} {H : AH} {fr1 : Fr} {H1 : AH} (ρ : Nat → Nat) (q : GvQ X ρ fr H fr1 H1 := by constructor <;> exact MwKm.s) (r : GvR X ρ H1 := by exact ⟨rfl, rfl, Nat.le_of_ble_eq_true rfl, rfl⟩) : z34 X ρ fr H fr1 H1 := gvS ρ q r
theorem MwKm.u {a : Prop} (h : a := by simp [frGivesP, Sk.get, SV.renP, SV.renPL, mvP, shP, SV.lt, SV.ltL, ownU, Sk.one, z42, Sk.find, Obj.own.eq_1, Obj.own.eq_2, Obj.own.eq_3, Obj.own.eq_4, z1f, zp, z11, z25, nds, Nd.sv, z1b, z15, z3y, z3z, z2q, z2g, z3k, z1c, z1w, z1i, z2m, z32, z23, z24, z2t, z14, z1e, z2z, zi, z28, z5i, z6g, Rg.sv]) : a := h
theorem MwKm.gp {X : Cx} {fr : Fr} {H : AH} {fr1 : Fr} {H1 : AH} (ρ : Nat → Nat) (f j a : Nat) (a2 : z1r ρ f j a H1.nxt H.os H1.os) (q : GpQ X (mvP ρ f j a) fr H fr1 H1 := by constructor <;> exact MwKm.u) (r : GpR X ρ f H1 := by exact ⟨rfl, rfl, Nat.le_of_ble_eq_true rfl, Nat.le_of_ble_eq_true rfl, rfl⟩) (t : GpA X ρ a H1 := by exact ⟨rfl, Nat.le_of_ble_eq_true rfl⟩) : GivesP X (mvP ρ f j a) fr H fr1 H1 := gpS ρ f j a a2 q r t
theorem z4d {a c d : Prop} (r : a → c) (h : d) (e : Sd a d := by simp only [stp, isQ, z47, Sk.get, Sk.put, z1y, zw, ↓reduceIte, reduceCtorEq, Nat.reduceEqDiff, true_and, and_true, true_implies, implies_true, forall_const, imp_self, Bool.false_eq_true, false_implies, false_and, and_false, Bool.false_and, Bool.and_false, qop, grdK, List.getElem?_toArray, List.getElem?_cons_zero, List.getElem?_cons_succ, beq_true, beq_false, beq_self_eq_true, Bool.and_true, Bool.true_and, Bool.not_true, Bool.not_false, Bool.not_not, Bool.and_eq_true, Bool.not_eq_true', Bool.not_eq_false', z12, Bool.cond_true_left, Bool.cond_false_left, Bool.cond_true_right, Bool.cond_false_right, cond_true, cond_false, and_imp, z3u, Sk.find, Sk.one, z19, z1s, Kd.agg, List.contains_nil, List.contains_cons, Nat.reduceBEq, Bool.or_false, Bool.true_or, Bool.or_true, Bool.false_or, ite_self, Nat.lt_one_iff, Nat.zero_add, Nat.add_zero, Nat.reduceAdd, Nat.reduceMul, Nat.reduceSub, Nat.reduceLT, Nat.reduceLeDiff, Nat.le_refl, Nat.zero_le, ne_eq, Nat.one_ne_zero, not_false_eq_true, not_true_eq_false, Int.toNat_natCast, Int.reduceToNat, List.length_cons, List.length_nil, and_self, Kd.slice.injEq, exists_eq', Option.map_some, Option.some.injEq, List.drop_zero, List.drop_succ_cons, List.take_succ_cons, List.take_zero, List.take_nil, List.drop_nil, List.nil_append, List.cons_append, List.append_nil, List.append_eq, List.all_cons, List.all_nil, spl, z27, SV.cells, SV.scalar, binK, z58, z57, intK, z2w, strK, z39, z56, z3q, unK, z54, z3c, z3d, z53, z3e, z3f, optK, z3h, bndK, Option.isSome_some, Option.isSome_none, Nat.sub_zero, or_true, true_or, z38, z3b, z4p, z3l, lenK, z17.len, zq.n, z4o, mmK, z1v, eop, z5f, srcK, z1d, z3r, z3m, capK, z5g, z2c, z2r, z31, boxK, z2d, z3i, z33, updF, mkK, z50, z17.ofKd, zq.ofKd, z51, z17.add, z17.okKd, zq.put, zq.okKd, zq.okP, z3g, z17.has, zq.get, zq.z, Tryz.tyInt, Tryz.szInt, Tryz.tyStr, Tryz.tyU32, Tryz.tyNode, Tryz.szNode, Tryz.zNode, Tryz.tyNodes, Tryz.szNodes, z1f, zp, nds, Nd.sv, Tryz.tyRow, Tryz.szRow, Tryz.zRow, Tryz.tyRows, Tryz.szRows, Tryz.zRows, Tryz.tyHd, Tryz.szHd, Tryz.zHd, Tryz.tyHds, Tryz.szHds, Tryz.tyHoldings, z66, z6d, z6f, Tryz.tyErr, Tryz.tyBool, Tryz.tyTape, Tryz.szTape, Tryz.zTape, zi, z28, ints, Tryz.tyInts, Tryz.szInts, Tryz.tyRg, Tryz.szRg, Tryz.zRg, Rg.sv, hoR_ap, hoF_ap]; (repeat (with_reducible apply Sd.and; exact z8)); exact Sd.rfl) : c := r (e.f h)
theorem small_spec (l : List Hm) (hl : l.length ≤ 9223372036854775807) (hr : ∀ i, i < l.length → (hm l i).off ≤ (hm l i).full.length ∧ (hm l i).full.length ≤ 9223372036854775807) (n : Nat) (hn : l.length = n) :
  zf Tryz.prog 7 [.slc false 0 0 0 n] ⟨2, [(0, Sk.one (.row ⟨false, false, 54, 4, n, hmR false 1 l⟩)), (1, (n + 1, fam false 56 2 (hmF false l)))]⟩
   (fun s H1 => ∃ B : Bool, (B = true → n ≤ 70 ∧ ∀ i, i < n → (hm l i).n ≤ 40) ∧ s = .bool B ∧ H1 = ⟨2, []⟩) := by
 subst hn;refine zf.ofC false 19 [.tmp 2] Tryz.func7 rfl rfl Tryz.ntmps7 Tryz.results7 rfl ?_;intro w0 own0 β0 Q hQ hQn;simp only [z1l];refine sg [0] rfl ?_;intro K hK;refine z4d z5 ?_;refine z7 (z6 (hK _ _ ?_)); clear hK K;refine Cs.seq ?_;refine sg [0, 5, 6, 7] rfl ?_;intro K hK;iterate 3 (refine z4d z5 ?_)
 refine z7 (z6 (hK _ _ ?_)); clear hK K;refine Cs.block ?_;intro Q0 hN0 hX0 hR0 hE0;refine Cs.loop (σ := Nat) (fun i => i ≤ l.length ∧ ∀ j, j < i → (hm l j).n ≤ 40) (fun i => l.length - i) (fun i => [(0, .slc false 0 0 0 l.length), (5, .slc false 0 0 0 l.length), (6, .int .i64 l.length), (7, .int .i64 i)]) (fun i => ⟨2, [(0, Sk.one (.row ⟨false, false, 54, 4, l.length, hmR false 1 l⟩)), (1, (l.length + 1, fam false 56 2 (hmF false l)))]⟩) 0 ⟨Nat.zero_le _, fun j hj => absurd hj (Nat.not_lt_zero j)⟩ (ρ := id) (MwKm.g id) ?_;rintro i ⟨hi, hall⟩ QL1 hL1 hRL1 hEL1;refine sg [0, 5, 6, 7, 8] rfl ?_;intro K hK;refine z4d z5 ?_;refine z7 (z6 (hK _ _ ?_)); clear hK K;refine Cs.seq ?_;refine Cs.cond _ rfl ?_ ?_
 ·intro h8;replace h8 := z9 h8;have hii : i < l.length := by omega
  obtain ⟨r1, r2⟩ := hr i hii;refine Cs.skip ?_;refine Cs.seq ?_;refine Cs.block ?_;intro Q1 hN1 hX1 hR1 hE1;refine sg [0, 4, 5, 6, 7] rfl ?_;intro K hK;iterate 4 (refine z4d z5 ?_)
  refine z7 (z6 (hK _ _ ?_)); clear hK K;refine sg [0, 5, 6, 7, 14] rfl ?_;intro K hK;iterate 4 (refine z4d z5 ?_)
  refine z7 (z6 (hK _ _ ?_)); clear hK K;refine Cs.cond _ rfl ?_ ?_
  ·intro h14
   
   refine sg [2] rfl ?_;intro K hK;refine z4d z5 ?_;refine z7 (z6 (hK _ _ ?_)); clear hK K;refine Cs.ret ?_;refine hR1 _ _ ?_;refine hRL1 _ _ ?_;refine hR0 _ _ ?_;refine hQ _ _ ?_;refine zm.mk (H' := ⟨2, []⟩) (.inl rfl) ?_;refine zk ?_;refine ⟨MwKm.s, (MwKm.g id), MwKm.s, ?_⟩;exact ⟨false, fun h => (by cases h), by trivial, by trivial⟩
  ·intro h14;replace h14 := z9 h14;refine Cs.skip ?_;refine Cs.nil ?_;refine hN1 _ _ ?_;refine Cs.reg [0, 5, 6, 7] rfl ?_;intro K hK;iterate 2 (refine z4d z5 ?_)
   refine z7 (z6 (hK _ _ ?_)); clear hK K;refine Cs.nil ?_;refine hL1 _ _ ?_;rw [show (i : Int) + 1 = ((i + 1 : Nat) : Int) from by omega];refine ⟨i + 1, ⟨⟨by omega, fun j hj => ?_⟩, by omega⟩, id, (MwKm.g id)⟩
   by_cases e : j < i
   ·exact hall j e
   ·have : j = i := by omega
    rw [this]; omega
 ·intro h8;replace h8 := z9 h8;refine Cs.exit ?_;refine hEL1 _ _ _ ?_;refine hX0 _ _ ?_;refine sg [2] rfl ?_;intro K hK;iterate 4 (refine z4d z5 ?_)
  refine z7 (z6 (hK _ _ ?_)); clear hK K;refine Cs.ret ?_;refine hQ _ _ ?_;have hin : i = l.length := by omega
  refine zm.mk (H' := ⟨2, []⟩) (.inl rfl) ?_;refine zk ?_;refine ⟨MwKm.s, (MwKm.g id), MwKm.s, ?_⟩;refine ⟨_, fun h => ?_, rfl, by trivial⟩;simp only [decide_eq_true_eq] at h;exact ⟨by omega, fun j hj => hall j (by omega)⟩
theorem raw_ok {l : List Hm} (hr : ∀ i, i < l.length → (hm l i).off = 0) {n : Nat} (hn : l.length = n) (h : n ≤ 70 ∧ ∀ i, i < n → (hm l i).n ≤ 40) : HmB l := by
 subst hn;refine ⟨by omega, fun x hx => ?_⟩;obtain ⟨i, hi, rfl⟩ := List.getElem_of_mem hx;rw [← hm_lt hi];have h1 := hr i hi;have h2 := h.2 i hi;simp only [Hm.n] at h2;omega
def vOf (ys : List Nd) (rs : List Rw) : List Hd := ys.map fun y => ⟨y, slT (refIvN ys y.id) rs⟩
theorem vOf_len (ys : List Nd) (rs : List Rw) : (vOf ys rs).length = ys.length := by simp [vOf]
theorem hd_vOf {ys : List Nd} {rs : List Rw} {i : Nat} (h : i < ys.length) : hd (vOf ys rs) i = ⟨nd ys i, slT (refIvN ys (nd ys i).id) rs⟩ := by
 simp [hd, vOf, nd, List.getD, h]
theorem vOf_rows (ys : List Nd) (rs : List Rw) (i : Nat) : (hd (vOf ys rs) i).rows.length ≤ rs.length := by
 by_cases h : i < ys.length
 ·rw [hd_vOf h]; exact List.length_filter_le _ _
 ·have : hd (vOf ys rs) i = noHd := by simp [hd, vOf, List.getD, List.getElem?_eq_none (show ys.length ≤ i by omega)]
  rw [this]; exact Nat.zero_le _
set_option maxHeartbeats 2000000 in
theorem holdings_spec (ls : List Int) (m at_ : Nat) (hx : ls.length ≤ 9223372036854775807) (hm0 : m ≤ ls.length) (ha : at_ ≤ m) (n : Int) (hn : 1 ≤ n ∧ n ≤ 64) (rows : Int) (hr : 0 ≤ rows ∧ rows ≤ 1000) :
  zf Tryz.prog 10 [.ptr 0 0 0 0, .int .i64 n, .int .i64 rows] ⟨2, [(0, zi 1 m at_), (1, z28 ls)]⟩
   (fun s H1 => ∃ (l : List Hm) (at1 : Nat), at1 ≤ m ∧ 0 < l.length ∧ (l.length : Int) ≤ n ∧ (∀ i, (hm l i).off = 0 ∧ ((hm l i).full.length : Int) ≤ rows) ∧ s = .slc true 2 0 0 l.length ∧ H1 = ⟨4, [(2, Sk.one (.row ⟨true, false, 54, 4, l.length, hmR false 3 l⟩)), (3, (l.length + 1, fam true 56 2 (hmF true l))), (0, zi 1 m at1)]⟩) := by
 refine zf.ofC false 44 [.tmp 6] Tryz.func10 rfl rfl Tryz.ntmps10 Tryz.results10 rfl ?_;intro w0 own0 β0 Q hQ hQn;simp only [z1l];refine sg [0, 1, 2] rfl ?_;intro K hK;refine z4d z5 ?_;refine z7 (z6 (hK _ _ ?_)); clear hK K;refine sg [0, 2, 7] rfl ?_;intro K hK;iterate 2 (refine z4d z5 ?_)
 refine z4d z5 ?_;refine MwKm.ca (some_spec ls m at_ n hx hm0 ha hn) (id) ?_;rintro s0 H0 ⟨xs, at1, h1, h2, h3, h4, rfl, rfl⟩ s1 H1 hs1 hH1;obtain ⟨hs2, hH2⟩ := MwKm.af hs1 hH1;clear hs1 hH1;subst hs2 hH2;repeat (with_reducible apply ai;exact z8)
 refine z4d z5 ?_;refine MwKm.c1 (refSort_spec xs xs.length rfl (by omega)) (fun _ => 2) ?_;obtain ⟨ys, hys⟩ : ∃ ys, ys = srtN xs := ⟨_, rfl⟩;have hyl : ys.length = xs.length := by rw [hys]; exact z6k xs
 rw [← hys, ← hyl];refine z4d z5 ?_;refine z7 (z6 (hK _ _ ?_)); clear hK K;refine sg [7, 8] rfl ?_;intro K hK;iterate 2 (refine z4d z5 ?_)
 refine z4d z5 ?_;refine MwKm.ca (rows_spec ls m at1 hx hm0 h1 rows hr) (id) ?_;rintro s0 H0 ⟨rs, at2, g1, g2, rfl, rfl⟩ s1 H1 hs1 hH1;obtain ⟨hs2, hH2⟩ := MwKm.af hs1 hH1;clear hs1 hH1;subst hs2 hH2;repeat (with_reducible apply ai;exact z8)
 refine z4d z5 ?_;refine z7 (z6 (hK _ _ ?_)); clear hK K;refine sg [7, 8, 9] rfl ?_;intro K hK;refine z4d z5 ?_;refine z7 (z6 (hK _ _ ?_)); clear hK K;refine Cs.seq ?_;refine sg [7, 8, 9, 21, 22, 23] rfl ?_;intro K hK;iterate 3 (refine z4d z5 ?_)
 refine z7 (z6 (hK _ _ ?_)); clear hK K;refine Cs.nilO 9 54 4 (hoR true 6 ((vOf ys rs).take 0)) rfl ?_;dsimp only;refine Cs.fam0 56 2 (hoF true ((vOf ys rs).take 0)) ?_;dsimp only;refine Cs.block ?_;intro Q0 hN0 hX0 hR0 hE0;refine Cs.loop (σ := Nat) (fun i => i ≤ ys.length) (fun i => ys.length - i) (fun i => [(7, .slc true 3 0 0 ys.length), (8, .slc true 4 0 0 rs.length), (9, .slc true 5 0 0 i), (21, .slc true 3 0 0 ys.length), (22, .int .i64 ys.length), (23, .int .i64 i)]) (fun i => ⟨7, [(5, Sk.one (.row ⟨true, false, 54, 4, i, hoR true 6 ((vOf ys rs).take i)⟩)), (6, (i + 1, fam true 56 2 (hoF true ((vOf ys rs).take i)))), (4, Sk.one (.row ⟨true, false, 56, 2, rs.length, rws rs⟩)), (0, zi 1 m at2), (3, Sk.one (.row ⟨true, false, 52, 3, ys.length, nds ys⟩))]⟩) 0 (Nat.zero_le _) (ρ := id) (MwKm.g id) ?_;rintro i hi QL1 hL1 hRL1 hEL1;refine sg [7, 8, 9, 21, 22, 23, 24] rfl ?_;intro K hK;refine z4d z5 ?_;refine z7 (z6 (hK _ _ ?_)); clear hK K;refine Cs.seq ?_;refine Cs.cond _ rfl ?_ ?_
 ·intro h24;replace h24 := z9 h24;have hii : i < ys.length := by omega
  refine Cs.skip ?_;refine Cs.seq ?_;refine Cs.block ?_;intro Q1 hN1 hX1 hR1 hE1;refine sg [7, 8, 9, 11, 21, 22, 23] rfl ?_;intro K hK;iterate 4 (refine z4d z5 ?_)
  refine z7 (z6 (hK _ _ ?_)); clear hK K;refine sg [7, 8, 9, 11, 12, 21, 22, 23] rfl ?_;intro K hK;iterate 3 (refine z4d z5 ?_)
  refine z4d z5 ?_;refine MwKm.c1 (refInterval_spec ys (nd ys i).id ys.length rfl (by omega)) (fun _ => 3) ?_;iterate 6 (refine z4d z5 ?_)
  refine z7 (z6 (hK _ _ ?_)); clear hK K;refine Cs.regDraw [7, 8, 9, 21, 22, 23] [0, 1, 2, 3, 4, 5, 6, 7, 8] [[], [], [], [], [2, 3], [1, 2, 3, 4], [1, 2, 3, 4, 5], [0, 1, 2, 3, 4, 5, 6], [0, 1, 2, 3, 4, 5, 6, 7]] [[], [], [], [], [], [], [], [5], []] [[], [], [], [], [], [], [], [5], [5]] Tryz.mo rfl rfl rfl (by kernel_rfl) (by kernel_rfl) (by kernel_rfl) rfl (by kernel_rfl) ?_;intro K hK;iterate 4 (refine z4d (zh _ [] [] rfl rfl rfl) ?_)
  refine z4d (zh _ [] [] rfl rfl rfl) ?_;refine MwKm.c1 (sliceR0_spec rs (refIvN ys (nd ys i).id) rs.length rfl (by omega)) (fun _ => 4) ?_;iterate 2 (refine z4d (zh _ [] [] rfl rfl rfl) ?_)
  refine z4d (zh _ [5] [5] rfl rfl rfl) ?_;refine z4d (zh _ [] [5] rfl rfl rfl) ?_;refine z3p (z6 (hK _ _ ?_)); clear hK K;refine Cs.nil ?_;refine hN1 _ _ ?_;have hT : (vOf ys rs).take (i + 1) = (vOf ys rs).take i ++ [hd (vOf ys rs) i] := by rw [hd_lt (by rw [vOf_len]; exact hii), List.take_succ_eq_append_getElem (by rw [vOf_len]; exact hii)]
  have hold : ∀ q, q < i → hd ((vOf ys rs).take (i + 1)) q = hd ((vOf ys rs).take i) q := fun q hq => by rw [hd_take (by omega), hd_take hq]
  have hnew : hd ((vOf ys rs).take (i + 1)) i = ⟨nd ys i, slT (refIvN ys (nd ys i).id) rs⟩ := by rw [hd_take (by omega), hd_vOf hii]
  have hout : ∀ q, q < i + 1 → app (hoR true 6 ((vOf ys rs).take i)) i (z6p 4 1 [SV.int .i64 (nd ys i).id, SV.str (nd ys i).key, SV.int .u32 (nd ys i).word, SV.slc true 9 0 0 (slT (refIvN ys (nd ys i).id) rs).length]) q = SV.renPL (mvP (fun q => if q = 5 then 11 else q) 6 i 9) (hoR true 6 ((vOf ys rs).take (i + 1)) q) := fun q hq => by
   rw [z6w]
   split
   ·rename_i e; subst e;rw [app, if_neg (by omega), Nat.sub_self, hnew]
    rfl
   ·rw [hold q (by omega), app, if_pos (by omega)]; rfl
  refine Cs.giveP (fr' := [(7, .slc true 3 0 0 ys.length), (8, .slc true 4 0 0 rs.length), (9, .slc true 5 0 0 (i + 1)), (21, .slc true 3 0 0 ys.length), (22, .int .i64 ys.length), (23, .int .i64 i)]) (H' := ⟨7, [(5, Sk.one (.row ⟨true, false, 54, 4, (i + 1), hoR true 6 ((vOf ys rs).take (i + 1))⟩)), (6, ((i + 1) + 1, fam true 56 2 (hoF true ((vOf ys rs).take (i + 1))))), (4, Sk.one (.row ⟨true, false, 56, 2, rs.length, rws rs⟩)), (0, zi 1 m at2), (3, Sk.one (.row ⟨true, false, 52, 3, ys.length, nds ys⟩))]⟩) _ (MwKm.gp (fun q => if q = 5 then 11 else q) (6) (i) (9) (z1r.cons1 rfl Nat.zero_lt_one (by decide) (z2e.of (fun _ => ⟨rfl, rfl⟩) rfl (Nat.le_refl _) (hout)) (Obj.lt_row.2 fun q _ => (z32 _ _ _ _ q).2 (Nat.le_of_ble_eq_true rfl)) (Nat.le_of_ble_eq_true rfl) (z1r.consF rfl rfl Nat.zero_lt_one ⟨fun _ => ⟨rfl, rfl⟩, rfl⟩ (Nat.succ_pos _) (fun q hq hne => ⟨by omega, hoF_givesP _ _ _ _ _ _ id (hold q (by omega)), z24 _ _ _ _⟩) (hoF_newP _ _ _ _ _ (by rw [hnew]) (fun q hq => by rw [hnew])) (z24 _ _ _ _) (Nat.le_of_ble_eq_true rfl) (z1r.cons1 rfl Nat.zero_lt_one (by decide) (z2e.of (fun _ => ⟨rfl, rfl⟩) rfl (Nat.le_refl _) (fun q _ => (rws_renP _ _ q).symm)) (Obj.lt_row.2 fun q _ => z2z _ _ q) (Nat.le_of_ble_eq_true rfl) (z1r.cons1 rfl Nat.zero_lt_one (by decide) (z2e.of (fun _ => ⟨rfl, rfl⟩) rfl (Nat.le_refl _) (fun _ _ => rfl)) (Obj.lt_row.2 fun q _ => by simp [SV.ltL, SV.lt]) (Nat.le_of_ble_eq_true rfl) (z1r.cons1 rfl Nat.zero_lt_one (by decide) (z2e.of (fun _ => ⟨rfl, rfl⟩) rfl (Nat.le_refl _) (fun q _ => (nds_renP _ _ q).symm)) (Obj.lt_row.2 fun q _ => z25 _ _ q) (Nat.le_of_ble_eq_true rfl) trivial)))))) ?_
  refine Cs.reg [7, 8, 9, 21, 22, 23] rfl ?_;intro K hK;iterate 2 (refine z4d z5 ?_)
  refine z7 (z6 (hK _ _ ?_)); clear hK K;refine Cs.nil ?_;refine hL1 _ _ ?_;rw [show (i : Int) + 1 = ((i + 1 : Nat) : Int) from by omega];exact ⟨i + 1, ⟨by omega, by omega⟩, id, (MwKm.g id)⟩
 ·intro h24;replace h24 := z9 h24;refine Cs.exit ?_;refine hEL1 _ _ _ ?_;refine hX0 _ _ ?_;refine sg [6] rfl ?_;intro K hK;iterate 2 (refine z4d z5 ?_)
  refine z7 (z6 (hK _ _ ?_)); clear hK K;have hin : i = ys.length := by omega
  subst hin;rw [← vOf_len ys rs, List.take_length];refine Cs.wkRow 5 (hmR false 6 (ofV (vOf ys rs))) rfl rfl (fun q _ => hoR_wk (Nat.le_of_ble_eq_true rfl) _ q) ?_;simp only [z3r, ↓reduceIte, Sk.one, Nat.reduceEqDiff];rw [← z5o (vOf ys rs), hoF_hm];refine Cs.ret ?_;refine hQ _ _ ?_;refine zm.mkR (fun k => if k = 2 then 5 else if k = 3 then 6 else k) (.slc true 2 0 0 (ofV (vOf ys rs)).length) (⟨4, [(2, Sk.one (.row ⟨true, false, 54, 4, (ofV (vOf ys rs)).length, hmR false 3 (ofV (vOf ys rs))⟩)), (3, ((ofV (vOf ys rs)).length + 1, fam true 56 2 (hmF true (ofV (vOf ys rs))))), (0, zi 1 m at2)]⟩) (.inl rfl) ?_;refine zk ?_;refine ⟨MwKm.s, MwKm.s, (MwKm.g (fun k => if k = 2 then 5 else if k = 3 then 6 else k)), MwKm.s, ?_⟩;refine ⟨ofV (vOf ys rs), at2, g1, by rw [z5o, vOf_len]; omega, by rw [z5o, vOf_len]; omega, fun i => ?_, rfl, rfl⟩;rw [z5h];refine ⟨rfl, ?_⟩;have := vOf_rows ys rs i;dsimp only;omega
end Go.Proofs

namespace Go.Proofs
open Go.Sk
theorem MwLm.s {a : Prop} (h : a := by simp [SV.wkL, SV.wk, z1o, z1h, Sk.get, Sk.find, Sk.one, zb.eq_1, zb.eq_2, zb.eq_3, zt, z1p, z14, SV.renL, SV.ren, Obj.lt_row, SV.ltL, SV.lt, ownU, z42, z10, z2k, Obj.own.eq_1, Obj.own.eq_2, Obj.own.eq_3, Obj.own.eq_4, z1f, zp, z11, z25, nds, Nd.sv, z1b, z15, z3y, z3z, z2q, z2g, z3k, z1c, z1w, z1i, z2m, z32, z23, z24, z2t, z14, z1e, z2z]) : a := h
theorem MwLm.t {s e : SV} {H g : AH} (q : AfQ s e H g := by constructor <;> (simp only [z2a, after, z55, id, z2r, reduceCtorEq, Nat.reduceEqDiff, Nat.one_ne_zero, Nat.zero_ne_one, z5d, z2p, z10, Sk.one, Obj.own.eq_1, Obj.own.eq_2, Obj.own.eq_3, Obj.own.eq_4, Obj.ren.eq_1, Obj.ren.eq_2, Obj.ren_blk, Row.ren, SV.ren, SV.renL, List.map_cons, List.map_nil, List.nil_append, List.cons_append, ↓reduceIte, Nat.reduceLT, Nat.reduceAdd, Nat.reduceSub, Nat.reduceEqDiff, Nat.add_zero, Bool.false_eq_true, Tryz.tyInt, Tryz.szInt, Tryz.tyStr, Tryz.tyU32, Tryz.tyNode, Tryz.szNode, Tryz.zNode, Tryz.tyNodes, Tryz.szNodes, z1f, zp, nds, Nd.sv, Tryz.tyRow, Tryz.szRow, Tryz.zRow, Tryz.tyRows, Tryz.szRows, Tryz.zRows, Tryz.tyHd, Tryz.szHd, Tryz.zHd, Tryz.tyHds, Tryz.szHds, Tryz.tyHoldings, Tryz.tyErr, Tryz.tyBool, beq_self_eq_true, z43, fam_ren, hmF_ren, hmR_fold, hmR_ren, z61, hoF_ren, hoR_fold, hoR_ren]; exact rfl)) : AfQ s e H g := q
theorem MwLm.c1 {P : Program} {f : FuncId} {args args0 : List SV} {H0 H Y g : AH} {X e : SV} {dr : Bool} {W : List Nat} {k : SV → AH → Prop} (hF : zf P f args0 H0 fun s H1 => s = X ∧ H1 = Y) (ρ : Nat → Nat) (h : k e g) (q : CaQ args args0 ρ H0 H dr W := by constructor <;> exact MwLm.s) (r : CaR ρ H0 H := by exact ⟨rfl, rfl⟩) (b : AfQ (X.ren (z55 H0.nxt H.nxt ρ)) e (after H0.nxt ρ H0 H Y) g := by exact MwLm.t) : z4n P f args H dr W k := c1S hF ρ h q r b
theorem MwLm.g {X : Cx} {fr : Fr} {H : AH} {fr1 : Fr} {H1 : AH} (ρ : Nat → Nat) (q : GvQ X ρ fr H fr1 H1 := by constructor <;> exact MwLm.s) (r : GvR X ρ H1 := by exact ⟨rfl, rfl, Nat.le_of_ble_eq_true rfl, rfl⟩) : z34 X ρ fr H fr1 H1 := gvS ρ q r
theorem z6b {a c d : Prop} (r : a → c) (h : d) (e : Sd a d := by simp only [stp, isQ, z47, Sk.get, Sk.put, z1y, zw, ↓reduceIte, reduceCtorEq, Nat.reduceEqDiff, true_and, and_true, true_implies, implies_true, forall_const, imp_self, Bool.false_eq_true, false_implies, false_and, and_false, Bool.false_and, Bool.and_false, qop, grdK, List.getElem?_toArray, List.getElem?_cons_zero, List.getElem?_cons_succ, beq_true, beq_false, beq_self_eq_true, Bool.and_true, Bool.true_and, Bool.not_true, Bool.not_false, Bool.not_not, Bool.and_eq_true, Bool.not_eq_true', Bool.not_eq_false', z12, Bool.cond_true_left, Bool.cond_false_left, Bool.cond_true_right, Bool.cond_false_right, cond_true, cond_false, and_imp, z3u, Sk.find, Sk.one, z19, z1s, Kd.agg, List.contains_nil, List.contains_cons, Nat.reduceBEq, Bool.or_false, Bool.true_or, Bool.or_true, Bool.false_or, ite_self, Nat.lt_one_iff, Nat.zero_add, Nat.add_zero, Nat.reduceAdd, Nat.reduceMul, Nat.reduceSub, Nat.reduceLT, Nat.reduceLeDiff, Nat.le_refl, Nat.zero_le, ne_eq, Nat.one_ne_zero, not_false_eq_true, not_true_eq_false, Int.toNat_natCast, Int.reduceToNat, List.length_cons, List.length_nil, and_self, Kd.slice.injEq, exists_eq', Option.map_some, Option.some.injEq, List.drop_zero, List.drop_succ_cons, List.take_succ_cons, List.take_zero, List.take_nil, List.drop_nil, List.nil_append, List.cons_append, List.append_nil, List.append_eq, List.all_cons, List.all_nil, spl, z27, SV.cells, SV.scalar, binK, z58, z57, intK, z2w, strK, z39, z56, z3q, unK, z54, z3c, z3d, z53, z3e, z3f, optK, z3h, bndK, Option.isSome_some, Option.isSome_none, Nat.sub_zero, or_true, true_or, z38, z3b, z4p, z3l, lenK, z17.len, zq.n, z4o, mmK, z1v, eop, z5f, srcK, z1d, z3r, z3m, capK, z5g, z2c, z2r, z31, boxK, z2d, z3i, z33, updF, mkK, z50, z17.ofKd, zq.ofKd, z51, z17.add, z17.okKd, zq.put, zq.okKd, zq.okP, z3g, z17.has, zq.get, zq.z, Tryz.tyInt, Tryz.szInt, Tryz.tyStr, Tryz.tyU32, Tryz.tyNode, Tryz.szNode, Tryz.zNode, Tryz.tyNodes, Tryz.szNodes, z1f, zp, nds, Nd.sv, Tryz.tyRow, Tryz.szRow, Tryz.zRow, Tryz.tyRows, Tryz.szRows, Tryz.zRows, Tryz.tyHd, Tryz.szHd, Tryz.zHd, Tryz.tyHds, Tryz.szHds, Tryz.tyHoldings, z66, z6d, z6f, Tryz.tyErr, Tryz.tyBool, beq_self_eq_true]; (repeat (with_reducible apply Sd.and; exact z8)); exact Sd.rfl) : c := r (e.f h)
theorem same_spec (a b : List Hm) (hab : vls a = vls b) (ha : HmB a) (hb : HmB b) (n : Nat) (hn : a.length = n) (e : Int) :
  zf Tryz.prog 16 [.slc false 0 0 0 n, .int .i64 e, .slc false 2 0 0 n, .int .i64 e] ⟨4, [(0, Sk.one (.row ⟨false, false, 54, 4, n, hmR false 1 a⟩)), (1, (n + 1, fam false 56 2 (hmF false a))), (2, Sk.one (.row ⟨false, false, 54, 4, n, hmR false 3 b⟩)), (3, (n + 1, fam false 56 2 (hmF false b)))]⟩ (fun s H1 => s = .bool true ∧ H1 = ⟨4, []⟩) := by
 refine zf.ofC false 17 [.tmp 8] Tryz.func16 rfl rfl Tryz.ntmps16 Tryz.results16 rfl ?_;intro w0 own0 β0 Q hQ hQn;simp only [z1l];refine sg [0, 1, 2, 3] rfl ?_;intro K hK;refine z6b z5 ?_;refine z7 (z6 (hK _ _ ?_)); clear hK K;refine sg [8] rfl ?_;intro K hK;iterate 6 (refine z6b z5 ?_)
 refine z5 ?_;refine z13 rfl rfl ?_;refine zu ?_;refine ⟨fun _ => ?_, fun h => (by cases h)⟩;refine z6b id ?_;refine MwLm.c1 (sameH_spec a b hab ha hb n hn) (id) ?_;iterate 2 (refine z6b z5 ?_)
 refine z7 (z6 (hK _ _ ?_)); clear hK K;refine Cs.ret ?_;refine hQ _ _ ?_;refine zm.mk (H' := ⟨4, []⟩) (.inl rfl) ?_;refine zk ?_;refine ⟨MwLm.s, (MwLm.g id), MwLm.s, ?_⟩
 first | trivial | exact ⟨rfl, trivial⟩
def SrcQ (src : List (Nat × Nat × (Nat → Sk.Obj))) (N : Nat) (b : List Hm) (κ : Nat → Nat × Nat) : Prop :=
 ∀ i, i < b.length → 3 ≤ (κ i).1 ∧ (κ i).1 < N ∧ ∃ c F, Sk.find src (κ i).1 = some (c, F) ∧ (κ i).2 < c ∧ ∃ (s : List Rw) (t : Nat), F (κ i).2 = .row ⟨false, false, 56, 2, s.length, rws s⟩ ∧ (hm b i).full = s.take t
def sqP (κ : Nat → Nat × Nat) (n : Nat) : Pn := fun id k => if id = 3 then (if 0 < k ∧ k ≤ n then κ (k - 1) else (1, 0)) else (id, k)
theorem sqP_succ (κ : Nat → Nat × Nat) {n i : Nat} (h : i < n) : sqP κ n 3 (i + 1) = κ i := by
 unfold sqP;rw [if_pos rfl, if_pos ⟨Nat.succ_pos i, h⟩]
 rfl
theorem find_src {src : List (Nat × Nat × (Nat → Sk.Obj))} {a b c : Nat × (Nat → Sk.Obj)} {id : Nat} (h : 3 ≤ id) : Sk.find ((0, a) :: (1, b) :: (2, c) :: src) id = Sk.find src id := by
 simp only [Sk.find];rw [if_neg (by omega), if_neg (by omega), if_neg (by omega)]
theorem sameQ_spec (a b : List Hm) (hab : vls a = vls b) (ha : HmB a) (hb : HmB b) (n : Nat) (hn : a.length = n) (e : Int) (src : List (Nat × Nat × (Nat → Sk.Obj))) (N : Nat) (hN : 4 ≤ N) (κ : Nat → Nat × Nat) (hs : SrcQ src N b κ) (hu : ∀ x ∈ src, ∀ k, (x.2.2 k).own = false) (G : Nat → List SV) (hG : ∀ i, i < n → G i = muQ b κ i) :
  zf Tryz.prog 16 [.slc false 0 0 0 n, .int .i64 e, .slc false 2 0 0 n, .int .i64 e] ⟨N, (0, Sk.one (.row ⟨false, false, 54, 4, n, hmR false 1 a⟩)) :: (1, (n + 1, fam false 56 2 (hmF false a))) :: (2, Sk.one (.row ⟨false, false, 54, 4, n, G⟩)) :: src⟩ (fun s H1 => s = .bool true ∧ H1 = ⟨N, []⟩) := by
 have hbl : b.length = n := by rw [← z2l, ← hab, z2l, hn]
 subst hn;obtain ⟨d, rfl⟩ : ∃ d, N = 4 + d := ⟨N - 4, by omega⟩
 have g := (same_spec a b hab ha hb a.length rfl e).memN (sqP κ a.length) d (os1 := (0, Sk.one (.row ⟨false, false, 54, 4, a.length, hmR false 1 a⟩)) :: (1, (a.length + 1, fam false 56 2 (hmF false a))) :: (2, Sk.one (.row ⟨false, false, 54, 4, a.length, G⟩)) :: src)
  (by
   refine ⟨⟨by show 0 < 4; decide, fun k => rfl, fun k hk => ?_⟩, ⟨by show 1 < 4; decide, fun k => z1i false _ _ a k, fun k hk => ?_⟩, ⟨by show 2 < 4; decide, fun k => rfl, fun k hk => ?_⟩, ⟨by show 3 < 4; decide, fun k => z1i false _ _ b k, fun k hk => ?_⟩, trivial⟩
   ·have hk0 : k = 0 := by have : k < 1 := hk; omega
    subst hk0;refine ⟨Obj.lt_row.2 fun q _ => (z3k _ _ _ _ q).2 (by show 1 < 4; decide), ?_⟩;have e : sqP κ a.length 0 0 = (0, 0) := rfl;rw [e];simp only [Sk.find, if_true];refine ⟨by decide, fun h => (by cases h), rfl, Nat.le_refl _, fun q _ => ?_⟩;simp only [hmR, SV.renPL, SV.renP, sqP, show ¬ (1 : Nat) = 3 by decide, if_false]
   ·refine ⟨?_, ?_⟩
    ·cases k with
     |zero => rw [z2a]; exact Obj.lt_row.2 fun q hq => absurd hq (Nat.not_lt_zero q)
     |succ i => rw [z19]; exact z1w _ _ _ _
    ·have e : sqP κ a.length 1 k = (1, k) := rfl;rw [e];simp only [Sk.find, Nat.zero_ne_one, if_false, if_true];refine ⟨hk, ?_⟩
     cases k with
     |zero => rw [z2a]; exact ⟨fun h => (by cases h), rfl, Nat.le_refl _, fun q hq => absurd hq (Nat.not_lt_zero q)⟩
     |succ i => rw [z19]; exact hmF_givesP _ _ _ _ _ _ (fun h => h) rfl
   ·have hk0 : k = 0 := by have : k < 1 := hk; omega
    subst hk0;refine ⟨Obj.lt_row.2 fun q _ => (z3k _ _ _ _ q).2 (by show 3 < 4; decide), ?_⟩;have e : sqP κ a.length 2 0 = (2, 0) := rfl;rw [e];simp only [Sk.find, show ¬ (0 : Nat) = 2 by decide, show ¬ (1 : Nat) = 2 by decide, if_false, if_true];refine ⟨by decide, fun h => (by cases h), rfl, Nat.le_refl _, fun q hq => ?_⟩;have hq : q < a.length := hq
    show G q = _
    rw [hG q hq];simp only [hmR, muQ, SV.renPL, SV.renP, sqP_succ κ hq]
   ·cases k with
    |zero =>
     have e : sqP κ a.length 3 0 = (1, 0) := rfl;refine ⟨by rw [z2a]; exact Obj.lt_row.2 fun q hq => absurd hq (Nat.not_lt_zero q), ?_⟩;rw [e];simp only [Sk.find, Nat.zero_ne_one, if_false, if_true];rw [z2a, z2a];exact ⟨by omega, fun h => (by cases h), rfl, Nat.le_refl _, fun q hq => absurd hq (Nat.not_lt_zero q)⟩
    |succ i =>
     refine ⟨by rw [z19]; exact z1w _ _ _ _, ?_⟩;have hi : i < a.length := by omega
     obtain ⟨s1, s2, c, F, s3, s4, s, t, s5, s6⟩ := hs i (by omega);rw [sqP_succ κ hi, find_src s1, s3];refine ⟨s4, ?_⟩;rw [s5, z19]
     exact rowTk _ _ t _ s6)
  ⟨by show 0 < 4; decide, trivial, by show 2 < 4; decide, trivial, trivial⟩ (by
   intro id k hid;have hid : id < 4 := hid;simp only [sqP]
   split
   ·split
    ·rename_i h;exact (hs (k - 1) (by omega)).2.1
    ·show 1 < 4 + d; omega
   ·show id < 4 + d; omega) (by
   intro x hx k;simp only [List.mem_cons] at hx;rcases hx with rfl | rfl | rfl | hx
   ·rfl
   ·exact z1i false _ _ a k
   ·rfl
   ·exact hu x hx k)
 refine zf.imp (by exact g) ?_;rintro s H' ⟨s0, H0', ⟨rfl, rfl⟩, rfl, rfl⟩;exact ⟨rfl, rfl⟩
section
variable {X : Cx} {Q : Exit → Fr → AH → Prop} {fr : Fr} {H : AH} {k : List Go.Code} {c : Go.Code}
theorem canonQ (rid : Nat) (l : List Hm) (κ : Nat → Nat × Nat) {own var : Bool} {e : Go.TypeId} {n : Nat} {f : Nat → List SV} (hn : l.length = n) (hf : Sk.find H.os rid = some (1, fun _ => .row ⟨own, var, e, 4, n, f⟩))
  (hrow : ∀ i, i < n → ∃ g, f i = [.int .i64 (hm l i).nd.id, .str (hm l i).nd.key, .int .u32 (hm l i).nd.word, .slc g (κ i).1 (κ i).2 (hm l i).off (hm l i).n])
  (hsrc : ∀ i, i < n → ∃ c0 F0, Sk.find H.os (κ i).1 = some (c0, F0) ∧ (κ i).2 < c0 ∧ ∃ (s : List Rw) (t : Nat), F0 (κ i).2 = .row ⟨false, false, 56, 2, s.length, rws s⟩ ∧ (hm l i).full = s.take t)
  (h : Cs X (c :: k) Q fr ⟨H.nxt + 1, z3r ((H.nxt, n + 1, fam false 56 2 (hmF false l)) :: H.os) rid 0 (.row ⟨own, var, e, 4, n, hmR false H.nxt l⟩)⟩) : Cs X (c :: k) Q fr H := by
 subst hn;refine Cs.canon rid (r := ⟨own, var, e, 4, l.length, f⟩) (hmR false H.nxt l) l.length 56 2 (hmF false l) κ hf (fun i hi => ?_) (fun i hi => ?_) h
 ·obtain ⟨c0, F0, h1, h2, s, t, h3, h4⟩ := hsrc i hi;refine ⟨c0, F0, h1, h2, by rw [h3]; rfl, by rw [h3]; exact fun g => (by cases g), rfl, fun β w q g => ?_, fun m => z1w _ _ _ _⟩;rw [h3] at g;exact (z6y (β := β) (π := fun a b => (a, b)) (rowTk _ _ t _ h4) g)
 ·obtain ⟨g, h1⟩ := hrow i hi;exact ⟨_, _, _, g, _, _, i, hi, h1, z66 _ _ _ _, by trivial, by trivial, by trivial⟩
end
end Go.Proofs

namespace Go.Proofs
open Go.Sk
def awkR : List Rw := [⟨⟨#[97]⟩, ⟨#[]⟩⟩, ⟨⟨#[98]⟩, ⟨#[]⟩⟩, ⟨⟨#[99]⟩, ⟨#[]⟩⟩, ⟨⟨#[100]⟩, ⟨#[]⟩⟩]
def awkL : List Hm := [⟨⟨1, ⟨#[]⟩, 0⟩, awkR, 0⟩, ⟨⟨2, ⟨#[109]⟩, 0⟩, [⟨⟨#[122]⟩, ⟨#[]⟩⟩], 0⟩]
theorem awk_E : shE (vls awkL) 0 1 2 = 0 := by decide +kernel
theorem awkB : HmB awkL := ⟨by decide, fun x hx => by
 simp only [awkL, List.mem_cons, List.not_mem_nil, or_false] at hx
 rcases hx with rfl | rfl <;> decide⟩
theorem rowsOf_awk : z6p 2 4 [SV.str ⟨#[97]⟩, .str ⟨#[]⟩, .str ⟨#[98]⟩, .str ⟨#[]⟩, .str ⟨#[99]⟩, .str ⟨#[]⟩, .str ⟨#[100]⟩, .str ⟨#[]⟩] = rws awkR := by
 funext i
 match i with
 |0 => rfl
 |1 => rfl
 |2 => rfl
 |3 => rfl
 |i + 4 => rfl
def awkK (i : Nat) : Nat × Nat := (i, 0)
theorem awk_row (i : Nat) (hi : i < 2) : ∃ g, z6p 4 2 [SV.int .i64 1, .str ⟨#[]⟩, .int .u32 0, .slc true 0 0 0 4, .int .i64 2, .str ⟨#[109]⟩, .int .u32 0, .slc true 1 0 0 1] i = [.int .i64 (hm awkL i).nd.id, .str (hm awkL i).nd.key, .int .u32 (hm awkL i).nd.word, .slc g (awkK i).1 (awkK i).2 (hm awkL i).off (hm awkL i).n] := by
 match i with
 |0 => exact ⟨true, rfl⟩
 |1 => exact ⟨true, rfl⟩
theorem awk_lt (i : Nat) : SV.ltL 3 (z6p 4 2 [SV.int .i64 1, .str ⟨#[]⟩, .int .u32 0, .slc true 0 0 0 4, .int .i64 2, .str ⟨#[109]⟩, .int .u32 0, .slc true 1 0 0 1] i) = True := eq_true (by
 match i with
 |0 => exact ⟨trivial, trivial, trivial, (by decide : 0 < 3), trivial⟩
 |1 => exact ⟨trivial, trivial, trivial, (by decide : 1 < 3), trivial⟩
 |i + 2 => exact ⟨trivial, trivial, trivial, by first | trivial | decide | exact (by decide : 0 < 3), trivial⟩)
theorem awk_R : shR (vls awkL) 0 1 2 = [⟨⟨1, ⟨#[]⟩, 0⟩, awkR.take 2⟩, ⟨⟨2, ⟨#[99]⟩, 0⟩, awkR.drop 2 ++ [⟨⟨#[122]⟩, ⟨#[]⟩⟩]⟩] := by decide +kernel
theorem awk_facts {L : List Hm} (h : vls L = shR (vls awkL) 0 1 2) : L.length = 2 ∧ (hm L 1).nd.key = ⟨#[99]⟩ ∧ (hm L 1).n = 3 ∧ (ro (hm L 1).full (hm L 1).off).key = ⟨#[99]⟩ ∧ (hm L 0).n = 2 := by
 rw [awk_R] at h;have e0 := z5x L 0;have e1 := z5x L 1;have el := z2l L;rw [h] at e0 e1 el;have r0 : (hm L 0).rows = awkR.take 2 := congrArg Hd.rows e0.symm;have r1 : (hm L 1).rows = awkR.drop 2 ++ [⟨⟨#[122]⟩, ⟨#[]⟩⟩] := congrArg Hd.rows e1.symm;have n1 : (hm L 1).nd = ⟨2, ⟨#[99]⟩, 0⟩ := congrArg Hd.nd e1.symm;refine ⟨el.symm, by rw [n1], by rw [Hm.n_eq, r1]; rfl, ?_, by rw [Hm.n_eq, r0]; rfl⟩;have := ro_drop (hm L 1).full (hm L 1).off 0;rw [Nat.add_zero] at this;rw [← this]
 show (ro (hm L 1).rows 0).key = _
 rw [r1]; rfl
theorem sEq_c : sEq ⟨#[99]⟩ ⟨#[99]⟩ = true := by decide +kernel
theorem MwMm.s {a : Prop} (h : a := by simp [SV.wkL, SV.wk, z1o, z1h, Sk.get, Sk.find, Sk.one, zb.eq_1, zb.eq_2, zb.eq_3, zt, z1p, z14, SV.renL, SV.ren, Obj.lt_row, SV.ltL, SV.lt, ownU, z42, z10, z2k, Obj.own.eq_1, Obj.own.eq_2, Obj.own.eq_3, Obj.own.eq_4, z1f, zp, z11, z25, nds, Nd.sv, z1b, z15, z3y, z3z, z2q, z2g, z3k, z1c, z1w, z1i, z2m, z32, z23, z24, z2t, z14, z1e, z2z, awk_lt]) : a := h
theorem MwMm.ca {P : Program} {f : FuncId} {args args0 : List SV} {H0 H : AH} {R : SV → AH → Prop} {dr : Bool} {W : List Nat} {k : SV → AH → Prop} (hF : zf P f args0 H0 R) (ρ : Nat → Nat) (hk : ∀ s0 H1, R s0 H1 → ∀ s1 H2, s1 = s0.ren (z55 H0.nxt H.nxt ρ) → H2 = after H0.nxt ρ H0 H H1 → k s1 H2) (q : CaQ args args0 ρ H0 H dr W := by constructor <;> exact MwMm.s) (r : CaR ρ H0 H := by exact ⟨rfl, rfl⟩) : z4n P f args H dr W k := caS hF ρ hk q r
theorem MwMm.af {s e e1 : SV} {H g g1 : AH} (h1 : s = e) (h2 : H = g) (q : AfQ e e1 g g1 := by exact MwLm.t) : s = e1 ∧ H = g1 := ⟨h1.trans q.s, h2.trans q.h⟩
theorem MwMm.g {X : Cx} {fr : Fr} {H : AH} {fr1 : Fr} {H1 : AH} (ρ : Nat → Nat) (q : GvQ X ρ fr H fr1 H1 := by constructor <;> exact MwMm.s) (r : GvR X ρ H1 := by exact ⟨rfl, rfl, Nat.le_of_ble_eq_true rfl, rfl⟩) : z34 X ρ fr H fr1 H1 := gvS ρ q r
theorem awake_spec : zf Tryz.prog 8 [] ⟨0, []⟩ (fun s H1 => s = .bool true ∧ H1 = ⟨0, []⟩) := by
 refine zf.ofC false 62 [.tmp 0] Tryz.func8 rfl rfl Tryz.ntmps8 Tryz.results8 rfl ?_;intro w0 own0 β0 Q hQ hQn;simp only [z1l];refine sg [] rfl ?_;intro K hK;refine z6b z5 ?_;refine z7 (z6 (hK _ _ ?_)); clear hK K;refine sg [1] rfl ?_;intro K hK;iterate 13 (refine z6b z5 ?_)
 refine z7 (z6 (hK _ _ ?_)); clear hK K;refine Cs.seq ?_;rw [rowsOf_awk, z60];refine Cs.give (H' := ⟨3, [(2, Sk.one (.row ⟨true, false, 54, 4, 2, z6p 4 2 [SV.int .i64 1, .str ⟨#[]⟩, .int .u32 0, .slc true 0 0 0 4, .int .i64 2, .str ⟨#[109]⟩, .int .u32 0, .slc true 1 0 0 1]⟩)), (1, Sk.one (.row ⟨false, false, 56, 2, 1, rws [⟨⟨#[122]⟩, ⟨#[]⟩⟩]⟩)), (0, Sk.one (.row ⟨false, false, 56, 2, 4, rws awkR⟩))]⟩) (fr' := [(1, .slc true 2 0 0 2)]) id (MwMm.g id) ?_;refine canonQ 2 awkL awkK (n := 2) rfl rfl awk_row (fun i hi => ?_) ?_
 ·match i with
  |0 => exact ⟨_, _, rfl, Nat.zero_lt_one, awkR, 4, rfl, rfl⟩
  |1 => exact ⟨_, _, rfl, Nat.zero_lt_one, [⟨⟨#[122]⟩, ⟨#[]⟩⟩], 1, rfl, rfl⟩
 simp only [z3r, ↓reduceIte, Sk.one, Nat.reduceEqDiff];refine Cs.reg [2, 3] rfl ?_;intro K hK;refine z6b z5 ?_;refine z6b z5 ?_;refine MwMm.ca (shiftP_spec awkL awkB 2 rfl 0 1 2) (fun q => q + 2) ?_;rintro s0 H0 ⟨L, hL, hLB, rfl, rfl⟩ s1 H1 hs1 hH1;obtain ⟨hs2, hH2⟩ := MwMm.af hs1 hH1;clear hs1 hH1;subst hs2 hH2;repeat (with_reducible apply ai;exact z8)
 obtain ⟨f1, f2, f3, f4, f5⟩ := awk_facts hL;iterate 5 (refine z6b z5 ?_)
 refine z7 (z6 (hK _ _ ?_)); clear hK K;refine sg [0] rfl ?_;intro K hK;iterate 3 (refine z6b z5 ?_)
 rw [awk_E, beq_self_eq_true];repeat (with_reducible apply ai;exact z8)
 iterate 3 (refine z6b z5 ?_)
 rw [f1, show (((2 : Nat) : Int) == 2) = true from rfl];repeat (with_reducible apply ai;exact z8)
 iterate 7 (refine z6b z5 ?_)
 rw [f2];repeat (with_reducible apply ai;exact z8)
 refine z6b z5 ?_;rw [sEq_c];repeat (with_reducible apply ai;exact z8)
 iterate 7 (refine z6b z5 ?_)
 rw [f3];repeat (with_reducible apply ai;exact z8)
 refine z6b z5 ?_;rw [show (((3 : Nat) : Int) == 3) = true from rfl];repeat (with_reducible apply ai;exact z8)
 iterate 6 (refine z6b z5 ?_)
 have f6 : (hm L 1).off < (hm L 1).full.length := by simp only [Hm.n] at f3; omega
 rw [f3];repeat (with_reducible apply ai;exact z8)
 iterate 3 (refine z6b z5 ?_)
 rw [f4];repeat (with_reducible apply ai;exact z8)
 refine z6b z5 ?_;rw [sEq_c];repeat (with_reducible apply ai;exact z8)
 iterate 7 (refine z6b z5 ?_)
 rw [f5];repeat (with_reducible apply ai;exact z8)
 refine z6b z5 ?_;rw [show (((2 : Nat) : Int) == 2) = true from rfl];repeat (with_reducible apply ai;exact z8)
 iterate 2 (refine z6b z5 ?_)
 refine z7 (z6 (hK _ _ ?_)); clear hK K;refine Cs.ret ?_;refine hQ _ _ ?_;refine zm.mk (H' := ⟨0, []⟩) (.inl rfl) ?_;refine zk ?_;refine ⟨MwMm.s, (MwMm.g id), MwMm.s, ?_⟩
 first | trivial | exact ⟨rfl, trivial⟩
end Go.Proofs

namespace Go.Proofs
open Go.Sk
def muS (μ : Nat → Bool × Nat) (μ1 : Nat → Fin 5 × Nat) (w : Nat) : Nat → Bool × Nat := fun i => if (μ1 i).1 = 3 then (true, w) else if (μ1 i).1 = 4 then (true, w + 1) else μ ((μ1 i).2 - 1)
theorem SrcW.next {l cur L' : List Hm} {W : List Hd} {μ : Nat → Bool × Nat} {μ1 : Nat → Fin 5 × Nat} {r3 r4 : List Rw} (h : SrcW l cur W μ) (hr : ResR cur L' r3 r4 μ1) : SrcW l L' (W ++ [⟨noNd, r3⟩, ⟨noNd, r4⟩]) (muS μ μ1 W.length) := fun i hi => by
 have g0 : ∀ j, j < W.length → hd (W ++ [⟨noNd, r3⟩, ⟨noNd, r4⟩]) j = hd W j := fun j hj => by simp [hd, List.getD, List.getElem?_append_left hj]
 have g1 : hd (W ++ [⟨noNd, r3⟩, ⟨noNd, r4⟩]) W.length = ⟨noNd, r3⟩ := by simp [hd, List.getD]
 have g2 : hd (W ++ [⟨noNd, r3⟩, ⟨noNd, r4⟩]) (W.length + 1) = ⟨noNd, r4⟩ := by simp [hd, List.getD]
 rcases hr i hi with ⟨j, t, hj, e1, e2⟩ | ⟨e1, t, e2⟩ | ⟨e1, e2⟩
 ·have e : muS μ μ1 W.length i = μ j := by rw [muS, e1]; rfl
  rw [e, e2];obtain ⟨t', e3, e4⟩ := h j hj;refine ⟨min t t', ?_, ?_⟩
  ·rw [e3, List.take_take]
   cases hb : (μ j).1 with
   |true => rw [hb] at e4; simp only [cond_true] at e4 ⊢; rw [g0 _ e4]
   |false => rfl
  ·cases hb : (μ j).1 with
   |true => rw [hb] at e4; simp only [cond_true] at e4 ⊢; rw [List.length_append]; omega
   |false => rw [hb] at e4; exact e4
 ·have e : muS μ μ1 W.length i = (true, W.length) := by rw [muS, e1]; rfl
  rw [e];exact ⟨t, by simp only [cond_true]; rw [g1]; exact e2, by simp⟩
 ·have e : muS μ μ1 W.length i = (true, W.length + 1) := by rw [muS, e1]; rfl
  rw [e];exact ⟨r4.length, by simp only [cond_true]; rw [g2, List.take_length]; exact e2, by simp⟩
theorem muQ_lt (m : Nat) (L : List Hm) (κ : Nat → Nat × Nat) (i : Nat) (h : (κ i).1 < m) : SV.ltL m (muQ L κ i) := by simp [muQ, SV.ltL, SV.lt, h]
end Go.Proofs

namespace Go.Proofs
open Go.Sk
def shK (a b c : Nat) (μ : Nat → Fin 5 × Nat) (i : Nat) : Nat × Nat := (if (μ i).1.val = 1 then a else if (μ i).1.val = 3 then b else c, (μ i).2)
theorem shK_ren (ρ : Nat → Nat) (L : List Hm) (a b c : Nat) (μ : Nat → Fin 5 × Nat) (i : Nat) : SV.renL ρ (muQ L (shK a b c μ) i) = muQ L (shK (ρ a) (ρ b) (ρ c) μ) i := by
 simp only [muQ, SV.renL, SV.ren, shK]
 split
 ·rfl
 ·split <;> rfl
theorem shK_lt {m : Nat} (L : List Hm) {a b c : Nat} (ha : a < m) (hb : b < m) (hc : c < m) (μ : Nat → Fin 5 × Nat) (i : Nat) : SV.ltL m (muQ L (shK a b c μ) i) := by
 simp only [muQ, SV.ltL, SV.lt, true_and, and_true, shK]
 split
 ·exact ha
 ·split
  ·exact hb
  ·exact hc
theorem shK_ltI (m : Nat) (L : List Hm) (a b c : Nat) (μ : Nat → Fin 5 × Nat) (i : Nat) (h : a < m ∧ b < m ∧ c < m) : SV.ltL m (muQ L (shK a b c μ) i) := shK_lt L h.1 h.2.1 h.2.2 μ i
theorem row4_sc (x : Nd) (f k o n : Nat) : ∀ s ∈ [SV.int .i64 x.id, .str x.key, .int .u32 x.word, .slc false f k o n], s.scalar = true := fun s hs => by
 simp only [List.mem_cons, List.not_mem_nil, or_false] at hs;rcases hs with rfl | rfl | rfl | rfl <;> rfl
theorem wkR_row {l L : List Hm} {r3 r4 : List Rw} {μ : Nat → Fin 5 × Nat} {F : Nat → List SV} (hF : ∀ i, i < L.length → F i = muR μ L i) (hR : ResR l L r3 r4 μ) (ρ : Nat → Nat) {a b c m : Nat} (ha : ρ 1 = a) (hb : ρ 3 = b) (hc : ρ 4 = c) (hm : a < m ∧ b < m ∧ c < m) (q : Nat) (hq : q < L.length) :
  SV.wkL (SV.renL ρ (F q)) (muQ L (shK a b c μ) q) ∧ (∀ s ∈ muQ L (shK a b c μ) q, s.scalar = true) ∧ SV.ltL m (muQ L (shK a b c μ) q) := by
 refine ⟨?_, row4_sc _ _ _ _ _, shK_ltI m L a b c μ q hm⟩;rw [hF q hq]
 have e : (ρ (μ q).1.val, (μ q).2) = shK a b c μ q := by
  rcases hR q hq with ⟨j, t, _, e1, _⟩ | ⟨e1, _⟩ | ⟨e1, _⟩
  ·rw [shK, e1]; exact congrArg (·, j + 1) ha
  ·rw [shK, e1]; exact congrArg (·, 0) hb
  ·rw [shK, e1]; exact congrArg (·, 0) hc
 have e2 := congrArg Prod.fst e;have e3 := congrArg Prod.snd e;dsimp only at e2 e3;simp only [muR, muQ, SV.renL, SV.ren];rw [e2, e3];exact ⟨rfl, rfl, rfl, rfl, trivial⟩
theorem sameR_spec (a b l : List Hm) (r3 r4 : List Rw) (μ : Nat → Fin 5 × Nat) (hab : vls a = vls b) (ha : HmB a) (hb : HmB b) (hR : ResR l b r3 r4 μ) (n : Nat) (hn : a.length = n) (k : Nat) (hk : l.length = k) (n3 n4 : Nat) (h3 : r3.length = n3) (h4 : r4.length = n4) (e : Int) :
  zf Tryz.prog 16 [.slc false 0 0 0 n, .int .i64 e, .slc false 2 0 0 n, .int .i64 e] ⟨6, [(0, Sk.one (.row ⟨false, false, 54, 4, n, hmR false 1 a⟩)), (1, (n + 1, fam false 56 2 (hmF false a))), (2, Sk.one (.row ⟨false, false, 54, 4, n, muQ b (shK 3 4 5 μ)⟩)), (3, (k + 1, fam false 56 2 (hmF false l))), (4, Sk.one (.row ⟨false, false, 56, 2, n3, rws r3⟩)), (5, Sk.one (.row ⟨false, false, 56, 2, n4, rws r4⟩))]⟩ (fun s H1 => s = .bool true ∧ H1 = ⟨6, []⟩) := by
 subst hk h3 h4;refine sameQ_spec a b hab ha hb n hn e [(3, (l.length + 1, fam false 56 2 (hmF false l))), (4, Sk.one (.row ⟨false, false, 56, 2, r3.length, rws r3⟩)), (5, Sk.one (.row ⟨false, false, 56, 2, r4.length, rws r4⟩))] 6 (by decide) (shK 3 4 5 μ) (fun i hi => ?_) (fun x hx k => ?_) _ (fun _ _ => rfl)
 ·rcases hR i hi with ⟨j, t, hj, e1, e2⟩ | ⟨e1, t, e2⟩ | ⟨e1, e2⟩
  ·have e : shK 3 4 5 μ i = (3, j + 1) := by rw [shK, e1]; rfl
   rw [e];refine ⟨Nat.le_refl _, (by decide : 3 < 6), _, _, rfl, Nat.succ_lt_succ hj, (hm l j).full, t, ?_, e2⟩
   show fam false _ 2 (hmF false l) (j + 1) = _
   rw [z19]; rfl
  ·have e : shK 3 4 5 μ i = (4, 0) := by rw [shK, e1]; rfl
   rw [e];exact ⟨(by decide : 3 ≤ 4), (by decide : 4 < 6), _, _, rfl, Nat.zero_lt_one, r3, t, rfl, e2⟩
  ·have e : shK 3 4 5 μ i = (5, 0) := by rw [shK, e1]; rfl
   rw [e];exact ⟨(by decide : 3 ≤ 5), (by decide : 5 < 6), _, _, rfl, Nat.zero_lt_one, r4, r4.length, rfl, by rw [e2, List.take_length]⟩
 ·simp only [List.mem_cons, List.not_mem_nil, or_false] at hx;rcases hx with rfl | rfl | rfl
  ·exact z1i false _ _ l k
  ·rfl
  ·rfl
theorem QK.src {p : Prop} {os : List (Nat × Nat × (Nat → Sk.Obj))} {l : List Hm} {r r6 : List Rw} {b : Nat} {x : Hm} {κ : Fin 7 × Nat} (h : QK p l r r6 b x κ) (nm : Nat → Nat) (h3 : Sk.find os (nm 3) = some (l.length + 1, fam false 56 2 (hmF false l)))
  (h4 : Sk.find os (nm 4) = some (1, fun _ => .row ⟨false, false, 56, 2, r.length, rws r⟩)) (h6 : Sk.find os (nm 6) = some (1, fun _ => .row ⟨false, false, 56, 2, r6.length, rws r6⟩)) :
  ∃ c0 F0, Sk.find os (nm κ.1.val) = some (c0, F0) ∧ κ.2 < c0 ∧ ∃ (s : List Rw) (t : Nat), F0 κ.2 = .row ⟨false, false, 56, 2, s.length, rws s⟩ ∧ x.full = s.take t := by
 rcases h.1 with ⟨m, t, hm1, rfl, e⟩ | ⟨rfl, _, t, e⟩ | ⟨rfl, e⟩
 ·refine ⟨_, _, h3, Nat.succ_lt_succ hm1, (hm l m).full, t, ?_, e⟩;rw [z19]; rfl
 ·exact ⟨_, _, h4, Nat.zero_lt_one, r, t, rfl, e⟩
 ·exact ⟨_, _, h6, Nat.zero_lt_one, r6, r6.length, rfl, by rw [e, List.take_length]⟩
theorem PK.of (p : Prop) (l : List Hm) (r : List Rw) {b : Nat} (h : ∀ i, (hm l i).off = 0 ∧ ((hm l i).full.length : Int) ≤ b) (i : Nat) (hi : i < l.length) : PK p l r b (hm l i) (⟨3, by decide⟩, i + 1) := by
 have := h i;exact ⟨.inl ⟨i, (hm l i).full.length, hi, rfl, by rw [List.take_length]⟩, by omega, by omega⟩
theorem QK.hmB {p : Prop} {l : List Hm} {r r6 : List Rw} {b n : Nat} {f : Nat → Hm} {κ : Nat → Fin 7 × Nat} (h : ∀ i, i < n → QK p l r r6 b (f i) (κ i)) (hn : n ≤ 100) (hb : b < 3000) : HmB (hmk n f) :=
 HmB.hmk hn fun q hq => by have := (h q hq).2; omega
theorem hmB_of {l : List Hm} {n b : Int} (hn : (l.length : Int) ≤ n) (h : ∀ i, (hm l i).off = 0 ∧ ((hm l i).full.length : Int) ≤ b) (h1 : n ≤ 100) (h2 : b ≤ 3000) : HmB l := by
 refine ⟨by omega, fun x hx => ?_⟩;obtain ⟨i, hi, rfl⟩ := List.getElem_of_mem hx;have := h i;rw [← hm_lt hi];omega
end Go.Proofs
