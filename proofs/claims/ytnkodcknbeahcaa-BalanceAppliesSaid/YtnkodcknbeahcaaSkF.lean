/-
  A frame for walks, sixth part: built values; one function over all quiet operations.
  Conditions: none; definitions and lemmas over any program.
-/
import Derived.Test.YtnkodcknbeahcaaSkE
set_option linter.unusedSimpArgs false
set_option linter.unusedVariables false
namespace Go.Sk
open Go.RowKit

/-! ### Built values -/
def spl {α : Type} (cs : List α) (off : Nat) (ps : List α) : List α := cs.take off ++ ps ++ cs.drop (off + ps.length)

theorem spl_length {α : Type} (cs : List α) (off : Nat) (ps : List α) (h : off + ps.length ≤ cs.length) : (spl cs off ps).length = cs.length := by
  simp [spl]; omega

theorem fold_set (ps : List Value) : ∀ (arr : Array Value) (off k : Nat), off + k + ps.length ≤ arr.size →
    ((ps.zipIdx k).foldl (fun cs (x : Value × Nat) => cs.setIfInBounds (off + x.2) x.1) arr).toList = spl arr.toList (off + k) ps := by
  induction ps with
  | nil => intro arr off k _; simp [spl]
  | cons p ps ih =>
    intro arr off k h
    simp only [List.length_cons] at h
    rw [List.zipIdx_cons, List.foldl_cons, ih _ _ _ (by simp; omega)]
    simp only [spl, Array.toList_setIfInBounds, List.length_cons]
    apply List.ext_getElem?
    intro i
    simp only [List.getElem?_append, List.getElem?_take, List.getElem?_drop, List.length_append, List.length_take, List.length_set, Array.length_toList, List.getElem?_set, List.length_cons]
    have e1 : min (off + (k + 1)) arr.size = off + k + 1 := by omega
    have e2 : min (off + k) arr.size = off + k := by omega
    simp only [e1, e2]
    rcases Nat.lt_trichotomy i (off + k) with h1 | h1 | h1
    · simp [show i < off + k + 1 + ps.length by omega, show i < off + k + 1 by omega, show i < off + (k + 1) by omega, show i < off + k + (ps.length + 1) by omega, h1, show ¬ off + k = i by omega]
    · subst h1
      simp [show off + k < off + k + 1 + ps.length by omega, show off + k < off + (k + 1) by omega, show off + k < arr.size by omega]
    · by_cases h2 : i < off + k + 1 + ps.length
      · simp only [h2, show ¬ i < off + k + 1 by omega, show i < off + k + (ps.length + 1) by omega, show ¬ i < off + k by omega, if_true, if_false]
        rw [show i - (off + k) = (i - (off + k + 1)) + 1 by omega, List.getElem?_cons_succ]
      · simp only [h2, show ¬ i < off + k + (ps.length + 1) by omega, if_false]
        rw [show off + (k + 1) + ps.length + (i - (off + k + 1 + ps.length)) = i by omega, show off + k + (ps.length + 1) + (i - (off + k + (ps.length + 1))) = i by omega, if_neg (by omega)]

def okCells : SV → Bool
  | .agg _ => true
  | s => s.scalar

theorem cells_den {β : Env} {s : SV} {v : Value} (hs : okCells s = true) (h : den β s v) : denL β s.cells v.cells.toList := by
  cases s
  case agg l =>
    simp only [den] at h
    obtain ⟨vs, hvs, rfl⟩ := h
    simpa [SV.cells, Value.cells] using hvs
  all_goals
    have h1 : v.oneCell' = true := (fun h' => den_scalar h' h) hs
    have hc : v.cells = #[v] := by cases v <;> first | rfl | simp [Value.oneCell'] at h1
    rw [hc]
    exact ⟨v, [], h, rfl, rfl⟩

theorem cells_lt {m : Nat} {s : SV} (h : s.lt m) : SV.ltL m s.cells := by
  cases s <;> simp only [SV.cells, SV.ltL] <;> first | exact h | exact ⟨h, trivial⟩

def fillS (place : Nat → Option (Nat × Nat)) (cs : List SV) : List (Nat × SV) → Option (List SV)
  | [] => some cs
  | (i, s) :: r =>
    match place i with
    | some (off, sz) => if okCells s = true ∧ s.cells.length = sz ∧ off + sz ≤ cs.length then fillS place (spl cs off s.cells) r else none
    | none => none

theorem fillS_ok {β : Env} {m : Nat} (place : Nat → Option (Nat × Nat)) : ∀ (ps : List (Nat × SV)) (pv : List (Nat × Value)) (cs cs' : List SV) (arr : Array Value),
    ps.map (·.1) = pv.map (·.1) → denL β (ps.map (·.2)) (pv.map (·.2)) → SV.ltL m (ps.map (·.2)) → denL β cs arr.toList → SV.ltL m cs → fillS place cs ps = some cs' →
    ∃ arr', Instr.fill place arr pv = some arr' ∧ denL β cs' arr'.toList ∧ SV.ltL m cs'
  | [], pv, cs, cs', arr, h1, _, _, h4, h5, h6 => by
    cases pv with
    | cons => simp at h1
    | nil => simp only [fillS, Option.some.injEq] at h6; subst h6; exact ⟨arr, rfl, h4, h5⟩
  | (i, s) :: ps, pv, cs, cs', arr, h1, h2, h3, h4, h5, h6 => by
    cases pv with
    | nil => simp at h1
    | cons p pv =>
      obtain ⟨i', v⟩ := p
      simp only [List.map_cons, List.cons.injEq] at h1
      obtain ⟨rfl, h1⟩ := h1
      simp only [List.map_cons, denL, List.cons.injEq] at h2
      obtain ⟨v', r', hd, hr, rfl, rfl⟩ := h2
      simp only [List.map_cons, SV.ltL] at h3
      simp only [fillS] at h6
      split at h6
      · rename_i off sz hp
        split at h6
        · rename_i hc
          obtain ⟨c1, c2, c3⟩ := hc
          have hcd := cells_den c1 hd
          have hlen := denL_length hcd
          have hlen2 := denL_length h4
          simp only [Array.length_toList] at hlen hlen2
          simp only [Instr.fill, hp]
          rw [if_neg (by simp; omega)]
          have hfs := fold_set v.cells.toList arr off 0 (by simp; omega)
          simp only [Nat.add_zero] at hfs
          have hnew : denL β (spl cs off s.cells) (Array.foldl (fun cs (x : Value × Nat) => cs.setIfInBounds (off + x.2) x.1) arr v.cells.zipIdx).toList := by
            rw [← Array.foldl_toList, Array.toList_zipIdx, hfs]
            unfold spl
            rw [show v.cells.toList.length = s.cells.length by simpa using hlen]
            exact denL_append (denL_append (denL_take _ h4) hcd) (denL_drop _ h4)
          refine fillS_ok place ps pv _ cs' _ h1 hr h3.2 hnew ?_ h6
          refine SV.ltL_of_get fun j u hu => ?_
          unfold spl at hu
          rcases List.mem_append.1 (List.mem_of_getElem? hu) with hm | hm
          · rcases List.mem_append.1 hm with hm | hm
            · obtain ⟨q, hq⟩ := List.getElem?_of_mem hm
              exact SV.ltL_get (ltL_take off h5) q u hq
            · obtain ⟨q, hq⟩ := List.getElem?_of_mem hm
              exact SV.ltL_get (cells_lt h3.1) q u hq
          · obtain ⟨q, hq⟩ := List.getElem?_of_mem hm
            exact SV.ltL_get (ltL_drop _ h5) q u hq
        · cases h6
      · cases h6

def zeroOf (P : Program) (t : TypeId) : Option (List SV) := ((P.info? t).bind (·.zero)).map fun v => v.cells.toList.map ofConst1

theorem ofConst1_denL (β : Env) (l : List Value) : denL β (l.map ofConst1) l := by
  induction l with
  | nil => simp [denL]
  | cons v l ih => exact ⟨v, l, ofConst1_den β v, ih, rfl⟩
theorem ofConst1_ltL (m : Nat) (l : List Value) : SV.ltL m (l.map ofConst1) := by
  induction l with
  | nil => simp [SV.ltL]
  | cons v l ih => exact ⟨ofConst1_lt m v, ih⟩

theorem zeroOf_run {P : Program} {t : TypeId} {l : List SV} (h : zeroOf P t = some l) : ∃ z, Yld P (zeroValue t) z ∧ l = z.cells.toList.map ofConst1 := by
  unfold zeroOf at h
  cases hi : P.info? t with
  | none => simp [hi] at h
  | some i =>
    cases hz : i.zero with
    | none => simp [hi, hz] at h
    | some z =>
      simp [hi, hz] at h
      exact ⟨z, fun w => by simp [zeroValue, typeInfo, hi, hz], h.symm⟩

/-- The parts of a built value: the numbers as they stand, the operands evaluated. -/
def partsK (fr : Fr) (G : Bool) : List (Nat × Operand) → (List (Nat × SV) → Prop) → Prop
  | [], k => k []
  | (i, x) :: l, k => opdK fr G x fun s => partsK fr G l fun r => k ((i, s) :: r)

theorem partsK_ok {X : Cx} {β : Env} {m : Nat} {fr : Fr} {a : Act} (hF : FrOk X β m fr a) {G : Bool} : ∀ {l : List (Nat × Operand)} {k : List (Nat × SV) → Prop}, partsK fr G l k →
    ∃ ss, k ss ∧ ss.map (·.1) = l.map (·.1) ∧ (G = true → denL β (ss.map (·.2)) (l.map fun p => a.eval p.2) ∧ SV.ltL m (ss.map (·.2)))
  | [], k, h => ⟨[], h, rfl, fun _ => ⟨rfl, trivial⟩⟩
  | (i, x) :: l, k, h => by
    obtain ⟨s, h1, h2⟩ := opdK_ok hF h
    obtain ⟨r, h3, h4, h5⟩ := partsK_ok hF h1
    exact ⟨(i, s) :: r, h3, by simp [h4], fun hG => ⟨⟨_, _, (h2 hG).1, (h5 hG).1, rfl⟩, (h2 hG).2, (h5 hG).2⟩⟩

def placeS (offs : List (Nat × Option Bool × Nat)) (i : Nat) : Option (Nat × Nat) := (offs[i]?).map fun x => (x.1, x.2.2)

def buildK (P : Program) (G : Bool) (t : TypeId) (ps : List (Nat × SV)) (k : SV → Prop) : Prop :=
  match zeroOf P t, (tyOf P t).kd with
  | some z, .struct =>
    match fillS (placeS (tyOf P t).offs) z ps with
    | some cs => (G = true → (tyOf P t).ok = true ∧ (tyOf P t).offs.all (fun x => x.2.2 != 0) = true) ∧ k (.agg cs)
    | none => False
  | some z, .array _ e =>
    match fillS (fun i => some (i * szOf P e, szOf P e)) z ps with
    | some cs => (G = true → (tyOf P t).ok = true ∧ szOf P e ≠ 0) ∧ k (.agg cs)
    | none => False
  | _, _ => False

theorem fieldsMap {P : Program} (fs : List Field) (h : ∀ f ∈ fs, szOf P f.type ≠ 0) (w : World) :
    (fs.mapM (fun f => do pure (f.offset, ← sizeOf f.type) : Field → Sem (Nat × Nat))).run P w = .ok (fs.map fun f => (f.offset, szOf P f.type)) w := by
  induction fs with
  | nil => simp
  | cons f fs ih =>
    obtain ⟨i, hi, hs⟩ := szOf_pos (h f (by simp))
    have ih' := ih (fun g hg => h g (by simp [hg]))
    simp only [List.mapM_cons, Sem.run_bind, Sem.run_pure, Result.andThen_ok, sizeOf_run hi, hs, ih', List.map_cons]

theorem buildK_ok {P : Program} {β : Env} {m : Nat} {G : Bool} {t : TypeId} {ps : List (Nat × SV)} {pv : List (Nat × Value)} {k : SV → Prop} (h : buildK P G t ps k)
    (he : ps.map (·.1) = pv.map (·.1)) (hv : G = true → denL β (ps.map (·.2)) (pv.map (·.2)) ∧ SV.ltL m (ps.map (·.2))) :
    ∃ s', k s' ∧ (G = true → s'.lt m ∧ ∃ v', den β s' v' ∧ Yld P (Instr.build t pv.toArray) v') := by
  unfold buildK at h
  split at h
  · rename_i z hz hkd
    split at h
    · rename_i cs hcs
      refine ⟨_, h.2, fun hG => ?_⟩
      obtain ⟨hok, hall⟩ := h.1 hG
      obtain ⟨hd, hl⟩ := hv hG
      obtain ⟨zv, hzr, rfl⟩ := zeroOf_run hz
      obtain ⟨inf, d, e1, e2, e3⟩ := tyOf_ok hok
      rw [e3] at hkd hall hcs
      obtain ⟨fs, rfl⟩ := kdOf_struct hkd
      obtain ⟨arr', ha, hda, hla⟩ := fillS_ok (β := β) (m := m) (placeS (offsOf P (.struct fs))) ps pv _ cs zv.cells he hd hl (ofConst1_denL β _) (ofConst1_ltL m _) hcs
      refine ⟨by simpa only [SV.lt] using hla, .agg arr', by simp only [den]; exact ⟨_, hda, by simp⟩, fun w => ?_⟩
      have hf : ∀ f ∈ fs.toList, szOf P f.type ≠ 0 := fun f hf => by
        simp only [offsOf, List.all_map, List.all_eq_true, Function.comp, bne_iff_ne, ne_eq] at hall
        exact hall f hf
      have hm := fieldsMap fs.toList hf w
      have hma : (fs.mapM (fun f => do pure (f.offset, ← sizeOf f.type) : Field → Sem (Nat × Nat))).run P w = .ok (fs.map fun f => (f.offset, szOf P f.type)) w := by
        rw [Array.mapM_eq_mapM_toList]
        simp only [Sem.run_map, hm, Result.andThen_ok]
        rw [← Array.toList_map, Array.toArray_toList]
      have hpl : (fun i => (fs.map fun f => (f.offset, szOf P f.type))[i]?) = placeS (offsOf P (.struct fs)) := by
        funext i
        simp only [placeS, offsOf, List.getElem?_map, Array.getElem?_map, Array.getElem?_toList, Option.map_map]
        cases fs[i]? <;> rfl
      simp only [Instr.build, Sem.run_bind, hzr w, Result.andThen_ok, run_underlying e2, hma, hpl, ha]
      simp
    · exact h.elim
  · rename_i z n e hz hkd
    split at h
    · rename_i cs hcs
      refine ⟨_, h.2, fun hG => ?_⟩
      obtain ⟨hok, hsz⟩ := h.1 hG
      obtain ⟨hd, hl⟩ := hv hG
      obtain ⟨zv, hzr, rfl⟩ := zeroOf_run hz
      obtain ⟨inf, d, e1, e2, e3⟩ := tyOf_ok hok
      rw [e3] at hkd
      have := kdOf_array hkd
      subst this
      obtain ⟨ei, hei, hei2⟩ := szOf_pos hsz
      obtain ⟨arr', ha, hda, hla⟩ := fillS_ok (β := β) (m := m) _ ps pv _ cs zv.cells he hd hl (ofConst1_denL β _) (ofConst1_ltL m _) hcs
      refine ⟨by simpa only [SV.lt] using hla, .agg arr', by simp only [den]; exact ⟨_, hda, by simp⟩, fun w => ?_⟩
      rw [← hei2] at ha
      simp only [Instr.build, Sem.run_bind, hzr w, Result.andThen_ok, run_underlying e2, sizeOf_run hei, ha]
      simp
    · exact h.elim
  · exact h.elim

/-! ### All quiet operations -/
def optK (fr : Fr) (G : Bool) (x : Option Operand) (k : Option SV → Prop) : Prop :=
  match x with
  | none => k none
  | some x => opdK fr G x fun s => k (some s)

theorem optK_ok {X : Cx} {β : Env} {m : Nat} {fr : Fr} {a : Act} (hF : FrOk X β m fr a) {G : Bool} {x : Option Operand} {k : Option SV → Prop} (h : optK fr G x k) :
    ∃ s, k s ∧ (G = true → denO β s (x.map a.eval)) := by
  cases x with
  | none => exact ⟨none, h, fun _ => trivial⟩
  | some x =>
    obtain ⟨s, h1, h2⟩ := opdK_ok hF h
    exact ⟨some s, h1, fun hG => (h2 hG).1⟩

def qop (P : Program) (wr : Bool) (H : AH) (W : List Nat) (fr : Fr) (G : Bool) (op : Op) (k : SV → Prop) : Prop :=
  match op with
  | .move x => opdK fr G x k
  | .assign x => opdK fr G x k
  | .pick c a b =>
    opdK fr G c fun sc =>
      match sc with
      | .bool bc =>
        opdK fr (G && bc) a fun sa => opdK fr (G && !bc) b fun sb =>
          match sa, sb with
          | .bool x, .bool y => k (.bool (cond bc x y))
          | _, _ => False
      | _ => False
  | .load t x => opdK fr G x fun s => loadK P H W G t s k
  | .nilCheck x => opdK fr G x fun s =>
    match s with
    | .ptr id kk i j => k (.ptr id kk i j)
    | .fn f l => k (.fn f l)
    | _ => False
  | .binOp op t x y _ => opdK fr G x fun sx => opdK fr G y fun sy => binK P wr G op t sx sy k
  | .unOp op _ x => opdK fr G x fun s => unK wr G op s k
  | .convert src dst x => opdK fr G x fun s => convK P wr G src dst s k
  | .fieldAddr t x f => opdK fr G x fun s => faddrK P G t f s k
  | .field t x f => opdK fr G x fun s => fieldK P G t f s k
  | .indexAddr t x i => opdK fr G x fun s => opdK fr G i fun si => iaddrK P H G t s si k
  | .index t x i => opdK fr G x fun s => opdK fr G i fun si => indexK P G t s si k
  | .slice t x lo hi mx => opdK fr G x fun s => optK fr G lo fun l => optK fr G hi fun h => optK fr G mx fun m => sliceK P H G t s l h m k
  | .extract x i => opdK fr G x fun s =>
    match s with
    | .tup l => match l[i]? with | some s => k s | none => False
    | _ => False
  | .makeFunc (.func f) first cap =>
    match first with
    | ⟨[]⟩ => opdsK fr G cap.toList fun ss => k (.fn f ss)
    | _ => False
  | .build t ps => partsK fr G ps.toList fun ss => buildK P G t ss k
  | .call { callee := .builtin .len, args := ⟨[x]⟩, argTypes := ⟨[t]⟩ } => opdK fr G x fun s => lenK P G t s k
  | .call { callee := .builtin .max, args, argTypes := _ } => opdsK fr G args.toList fun ss => mmK max ss k
  | .call { callee := .builtin .min, args, argTypes := _ } => opdsK fr G args.toList fun ss => mmK min ss k
  | _ => False

theorem equal_bool {P : Program} {t : TypeId} (h : P.underlying t = some .bool) (p q : Bool) (w : World) : (Op.equal t (.bool p) (.bool q)).run P w = .ok (p == q) w := by
  have : ∀ d, (Op.equalIn (d + 1) t (.bool p) (.bool q)).run P w = .ok (p == q) w := fun d => by simp [Op.equalIn, run_underlying h]
  exact this 9999

/-- What a quiet operation yields, in every world of a class. -/
def Good (X : Cx) (β : Env) (H : AH) (C : World → Prop) (o : Oper) (a : Act) (s : SV) : Prop :=
  s.lt H.nxt ∧ ∃ v, den β s v ∧ ∀ w', C w' → (execOp a.eval o).run X.P w' = .ok (.value v) w'

theorem good_of_yld {X : Cx} {β : Env} {H : AH} {C : World → Prop} {o : Oper} {a : Act} {s : SV} {v : Value} {e : Sem Value} (hl : s.lt H.nxt) (hd : den β s v) (he : execOp a.eval o = (do pure (.value (← e)))) (hy : Yld X.P e v) : Good X β H C o a s :=
  ⟨hl, v, hd, fun w' _ => by rw [he]; simp [hy w']⟩

/-- In every world in which no block but those of W has changed; in every world at all, if the operation is no load. -/
theorem qop_ok {X : Cx} {β : Env} {H : AH} {w : World} (hS : St X β H w) {W : List Nat} {C : World → Prop} {fr : Fr} {a : Act} (hF : FrOk X β H.nxt fr a) {G : Bool} {o : Oper} {k : SV → Prop} (hC : ∀ t x, o.op = .load t x → ∀ w', C w' → Kp w (inW β H W) w') (h : qop X.P X.wrap H W fr G o.op k) :
    ∃ s, k s ∧ (G = true → Good X β H C o a s) := by
  unfold qop at h
  split at h
  · -- move
    rename_i x hop
    obtain ⟨s, h1, h2⟩ := opdK_ok hF h
    refine ⟨s, h1, fun hG => ⟨(h2 hG).2, _, (h2 hG).1, fun w' _ => by simp [execOp, hop]⟩⟩
  · rename_i x hop
    obtain ⟨s, h1, h2⟩ := opdK_ok hF h
    refine ⟨s, h1, fun hG => ⟨(h2 hG).2, _, (h2 hG).1, fun w' _ => by simp [execOp, hop]⟩⟩
  · -- pick
    rename_i c x y hop
    obtain ⟨sc, h, hc⟩ := opdK_ok hF h
    split at h
    · rename_i bc
      obtain ⟨sa, h, ha⟩ := opdK_ok hF h
      obtain ⟨sb, h, hb⟩ := opdK_ok hF h
      obtain ⟨xb, rfl⟩ : ∃ xb, sa = .bool xb := by cases sa <;> first | exact ⟨_, rfl⟩ | exact h.elim
      obtain ⟨yb, rfl⟩ : ∃ yb, sb = .bool yb := by cases sb <;> first | exact ⟨_, rfl⟩ | exact h.elim
      refine ⟨_, h, fun hG => ⟨trivial, .bool (cond bc xb yb), rfl, fun w' _ => ?_⟩⟩
      have hcv := (hc hG).1
      simp only [den] at hcv
      cases bc with
      | true =>
        have := (ha (by simp [hG])).1
        simp only [den] at this
        simp [execOp, hop, hcv, asBool, this]
      | false =>
        have := (hb (by simp [hG])).1
        simp only [den] at this
        simp [execOp, hop, hcv, asBool, this]
    · exact h.elim
  · -- load
    rename_i t x hop
    obtain ⟨s, h, hx⟩ := opdK_ok hF h
    obtain ⟨s', hk, hs⟩ := loadK_ok (v := a.eval x) hS h (fun hG => (hx hG).1)
    refine ⟨s', hk, fun hG => ?_⟩
    obtain ⟨hl, v', hd, hr⟩ := hs hG
    exact ⟨hl, v', hd, fun w' hw' => by simp [execOp, hop, hr w' (hC _ _ hop w' hw')]⟩
  · -- nilCheck
    rename_i x hop
    obtain ⟨s, h, hx⟩ := opdK_ok hF h
    split at h
    · refine ⟨_, h, fun hG => ⟨(hx hG).2, _, (hx hG).1, fun w' _ => ?_⟩⟩
      have := (hx hG).1
      simp only [den] at this
      obtain ⟨L, _, e⟩ := this
      simp [execOp, hop, e]
    · refine ⟨_, h, fun hG => ⟨(hx hG).2, _, (hx hG).1, fun w' _ => ?_⟩⟩
      have := (hx hG).1
      simp only [den] at this
      obtain ⟨vs, _, e⟩ := this
      simp [execOp, hop, e]
    · exact h.elim
  · -- binOp
    rename_i op t x y t' hop
    obtain ⟨sx, h1, hx⟩ := opdK_ok hF h
    obtain ⟨sy, h2, hy⟩ := opdK_ok hF h1
    clear h h1
    have h := h2
    clear h2
    have guardOk : ∀ (v u : Value), (∀ w, (eqGuard op t x y v u).run X.P w = .ok () w) → a.eval x = v → a.eval y = u → ∀ r, Yld X.P (binOp op t v u) r → ∀ w', (execOp a.eval o).run X.P w' = .ok (.value r) w' := fun v u hg e1 e2 r hr w' => by
      simp [execOp, hop, e1, e2, hg w', hr w']
    unfold binK at h
    split at h
    · rename_i kd p kd' q
      have gi : ∀ w, (eqGuard op t x y (.int kd p) (.int kd' q)).run X.P w = .ok () w := fun w => by
        unfold eqGuard; cases op <;> simp
      have sh : ∀ (op' : BinOp), (op' = .shl ∨ op' = .shr) → op = op' → shiftK G op' kd p q k → ∃ s, k s ∧ (G = true → Good X β H C o a s) := fun op' ho he h => by
        subst he
        unfold shiftK at h
        split at h
        · refine ⟨_, h.2, fun hG => ⟨trivial, _, rfl, fun w' _ => guardOk _ _ gi (hx hG).1 (hy hG).1 _ (fun w => ?_) w'⟩⟩
          have := h.1 hG
          simp [binOp, Op.shift, show ¬ q < 0 by omega]
        · refine ⟨_, h.2, fun hG => ⟨trivial, _, rfl, fun w' _ => guardOk _ _ gi (hx hG).1 (hy hG).1 _ (fun w => ?_) w'⟩⟩
          have := h.1 hG
          simp [binOp, Op.shift, show ¬ q < 0 by omega]
        · exact h.elim
      unfold binII at h
      split at h
      · exact sh _ (.inl rfl) rfl h
      · exact sh _ (.inr rfl) rfl h
      · rename_i n1 n2
        obtain ⟨s, hk, hs⟩ := intK_ok ⟨n1, n2⟩ h.2
        refine ⟨s, hk, fun hG => ?_⟩
        obtain ⟨hl, v, hd, hyd⟩ := hs hG
        have hkk := h.1 hG
        subst hkk
        refine ⟨hl _, v, hd β, fun w' _ => guardOk _ _ gi (hx hG).1 (hy hG).1 v (fun w => ?_) w'⟩
        have h0 := hyd X.P w
        have ht : binOp op t (.int kd' p) (.int kd' q) = binOp op 0 (.int kd' p) (.int kd' q) := by cases op <;> rfl
        rw [ht]; exact h0
    · rename_i xs ys
      have gi : ∀ w, (eqGuard op t x y (.string xs) (.string ys)).run X.P w = .ok () w := fun w => by
        unfold eqGuard; cases op <;> simp
      have go : ∀ r s, k s → (∀ β, den β s r) → (∀ m, s.lt m) → (G = true → ∀ w, (Op.stringOp op xs ys).run X.P w = .ok r w) → ∃ s, k s ∧ (G = true → Good X β H C o a s) := fun r s hk hd hl hr =>
        ⟨s, hk, fun hG => ⟨hl _, r, hd β, fun w' _ => guardOk _ _ gi (hx hG).1 (hy hG).1 r (fun w => by
          have h0 := hr hG w
          have : binOp op t (.string xs) (.string ys) = Op.stringOp op xs ys := by cases op <;> rfl
          rw [this]; exact h0) w'⟩⟩
      unfold strK at h
      split at h
      · refine go _ _ h.2 (fun _ => rfl) (fun _ => trivial) (fun hG w => ?_)
        have h2 : ((xs.size + ys.size : Nat) : Int) ≤ 9223372036854775807 := (h.1 hG).2
        have h3 : ¬ (((xs.size + ys.size : Nat) : Int) > IntKind.i64.max) := by
          have : IntKind.i64.max = 9223372036854775807 := by decide
          rw [this]; omega
        simp only [Op.stringOp, if_neg h3]
        rfl
      · exact go _ _ h (fun _ => rfl) (fun _ => trivial) (fun _ w => by simp [Op.stringOp, sEq])
      · exact go _ _ h (fun _ => rfl) (fun _ => trivial) (fun _ w => by simp [Op.stringOp, sEq])
      · exact go _ _ h (fun _ => rfl) (fun _ => trivial) (fun _ w => by simp [Op.stringOp, sLt])
      · exact go _ _ h (fun _ => rfl) (fun _ => trivial) (fun _ w => by simp [Op.stringOp, sLt, sEq])
      · exact go _ _ h (fun _ => rfl) (fun _ => trivial) (fun _ w => by simp [Op.stringOp, sLt, sEq])
      · exact go _ _ h (fun _ => rfl) (fun _ => trivial) (fun _ w => by simp [Op.stringOp, sLt])
      · exact h.elim
    · rename_i p q
      have bl : (tyOf X.P t).kd = .bool → ∀ w, (Op.equal t (.bool p) (.bool q)).run X.P w = .ok (p == q) w := fun hkd w => by
        have hok : (tyOf X.P t).ok = true := by
          unfold tyOf at hkd ⊢
          split
          · rfl
          · rename_i hn; split at hkd
            · rename_i h1 h2; exact (hn _ _ h1 h2).elim
            · cases hkd
        obtain ⟨_, d, _, e2, e3⟩ := tyOf_ok hok
        rw [e3] at hkd
        have := kdOf_bool hkd
        subst this
        exact equal_bool e2 p q w
      unfold binBB at h
      split at h
      · refine ⟨_, h.2, fun hG => ⟨trivial, _, rfl, fun w' _ => guardOk _ _ (fun w => by simp [eqGuard]) (hx hG).1 (hy hG).1 _ (fun w => ?_) w'⟩⟩
        simp [binOp, bl (h.1 hG) w]
      · refine ⟨_, h.2, fun hG => ⟨trivial, _, rfl, fun w' _ => guardOk _ _ (fun w => by simp [eqGuard]) (hx hG).1 (hy hG).1 _ (fun w => ?_) w'⟩⟩
        simp [binOp, bl (h.1 hG) w, bne]
      · exact h.elim
    · rename_i la lb
      have ag : EqT X.P t la lb → (op = .eql ∨ op = .neq) → G = true → ∀ w', ∃ xs ys, a.eval x = .agg xs ∧ a.eval y = .agg ys ∧ (do eqGuard op t x y (.agg xs) (.agg ys); Op.equal t (.agg xs) (.agg ys) : Sem Bool).run X.P w' = .ok (eqL la lb) w' := fun he ho hG w' => by
        have h1 := (hx hG).1
        have h2 := (hy hG).1
        simp only [den] at h1 h2
        obtain ⟨xs, d1, e1⟩ := h1
        obtain ⟨ys, d2, e2⟩ := h2
        exact ⟨_, _, e1, e2, he β xs ys d1 d2 x y op w' ho⟩
      unfold binAA at h
      split at h
      · refine ⟨_, h.2, fun hG => ⟨trivial, .bool (eqL la lb), rfl, fun w' _ => ?_⟩⟩
        obtain ⟨xs, ys, e1, e2, hr⟩ := ag (h.1 hG) (.inl rfl) hG w'
        simp only [execOp, hop, e1, e2, binOp]
        simp only [Sem.run_bind] at hr ⊢
        cases hg : (eqGuard .eql t x y (.agg xs) (.agg ys)).run X.P w' with
        | halt q w2 => rw [hg] at hr; simp at hr
        | ok u w2 =>
          rw [hg] at hr
          simp only [Result.andThen_ok] at hr ⊢
          rw [hr]; rfl
      · refine ⟨_, h.2, fun hG => ⟨trivial, .bool (!eqL la lb), rfl, fun w' _ => ?_⟩⟩
        obtain ⟨xs, ys, e1, e2, hr⟩ := ag (h.1 hG) (.inr rfl) hG w'
        simp only [execOp, hop, e1, e2, binOp]
        simp only [Sem.run_bind] at hr ⊢
        cases hg : (eqGuard .neq t x y (.agg xs) (.agg ys)).run X.P w' with
        | halt q w2 => rw [hg] at hr; simp at hr
        | ok u w2 =>
          rw [hg] at hr
          simp only [Result.andThen_ok] at hr ⊢
          rw [hr]; rfl
      · exact h.elim
    · exact h.elim
  · -- unOp
    rename_i op t x hop
    obtain ⟨s, h, hx⟩ := opdK_ok hF h
    obtain ⟨s', hk, hs⟩ := unK_ok (P := X.P) (m := H.nxt) (v := a.eval x) h (fun hG => (hx hG).1)
    refine ⟨s', hk, fun hG => ?_⟩
    obtain ⟨hl, v', hd, hr⟩ := hs hG
    exact good_of_yld hl hd (by simp only [execOp, hop]) hr
  · rename_i src dst x hop
    obtain ⟨s, h, hx⟩ := opdK_ok hF h
    obtain ⟨s', hk, hs⟩ := convK_ok (m := H.nxt) (v := a.eval x) h (fun hG => (hx hG).1)
    refine ⟨s', hk, fun hG => ?_⟩
    obtain ⟨hl, v', hd, hr⟩ := hs hG
    exact good_of_yld hl hd (by simp only [execOp, hop]) hr
  · rename_i t x f hop
    obtain ⟨s, h, hx⟩ := opdK_ok hF h
    obtain ⟨s', hk, hs⟩ := faddrK_ok (β := β) (m := H.nxt) (v := a.eval x) h hx
    refine ⟨s', hk, fun hG => ?_⟩
    obtain ⟨hl, v', hd, hr⟩ := hs hG
    exact good_of_yld hl hd (by simp only [execOp, hop]) hr
  · rename_i t x f hop
    obtain ⟨s, h, hx⟩ := opdK_ok hF h
    obtain ⟨s', hk, hs⟩ := fieldK_ok (β := β) (m := H.nxt) (v := a.eval x) h hx
    refine ⟨s', hk, fun hG => ?_⟩
    obtain ⟨hl, v', hd, hr⟩ := hs hG
    exact good_of_yld hl hd (by simp only [execOp, hop]) hr
  · rename_i t x i hop
    obtain ⟨s, h, hx⟩ := opdK_ok hF h
    obtain ⟨si, h, hi⟩ := opdK_ok hF h
    obtain ⟨s', hk, hs⟩ := iaddrK_ok (v := a.eval x) (vi := a.eval i) hS h hx (fun hG => (hi hG).1)
    refine ⟨s', hk, fun hG => ?_⟩
    obtain ⟨hl, v', hd, hr⟩ := hs hG
    exact good_of_yld hl hd (by simp only [execOp, hop]) hr
  · rename_i t x i hop
    obtain ⟨s, h, hx⟩ := opdK_ok hF h
    obtain ⟨si, h, hi⟩ := opdK_ok hF h
    obtain ⟨s', hk, hs⟩ := indexK_ok (β := β) (m := H.nxt) (v := a.eval x) (vi := a.eval i) h (fun hG => (hx hG).1) (fun hG => (hi hG).1)
    refine ⟨s', hk, fun hG => ?_⟩
    obtain ⟨hl, v', hd, hr⟩ := hs hG
    exact good_of_yld hl hd (by simp only [execOp, hop]) hr
  · rename_i t x lo hi mx hop
    obtain ⟨s, h, hx⟩ := opdK_ok hF h
    obtain ⟨sl, h, hl⟩ := optK_ok hF h
    obtain ⟨sh, h, hh⟩ := optK_ok hF h
    obtain ⟨sm, h, hm⟩ := optK_ok hF h
    obtain ⟨s', hk, hs⟩ := sliceK_ok (v := a.eval x) hS h hx hl hh hm
    refine ⟨s', hk, fun hG => ?_⟩
    obtain ⟨hl, v', hd, hr⟩ := hs hG
    exact good_of_yld hl hd (by simp only [execOp, hop]) hr
  · -- extract
    rename_i x i hop
    obtain ⟨s, h, hx⟩ := opdK_ok hF h
    split at h
    · rename_i l
      split at h
      · rename_i s' hs'
        refine ⟨s', h, fun hG => ?_⟩
        obtain ⟨hd, hl⟩ := hx hG
        simp only [den, SV.lt] at hd hl
        obtain ⟨vs, hvs, e⟩ := hd
        obtain ⟨u, hu1, hu2⟩ := denL_get hvs _ _ hs'
        refine good_of_yld (e := Instr.extract (a.eval x) i) (SV.ltL_get hl _ _ hs') hu2 (by simp only [execOp, hop]) (fun w => ?_)
        simp [Instr.extract, e, hu1]
      · exact h.elim
    · exact h.elim
  · -- makeFunc
    rename_i f first cap hop
    split at h
    · rename_i first' hfi
      obtain ⟨ss, hk, hs⟩ := opdsK_ok hF h
      refine ⟨_, hk, fun hG => ?_⟩
      refine good_of_yld (e := Instr.makeFunc (.func f) (Array.map a.eval ⟨[]⟩) (cap.map a.eval)) (by simp only [SV.lt]; exact (hs hG).2) (v := .func (.func f) #[] (cap.toList.map a.eval).toArray) (by simp only [den]; exact ⟨_, (hs hG).1, rfl⟩) (by simp only [execOp, hop]) (fun w => ?_)
      simp [Instr.makeFunc]
      rw [← Array.toList_map, Array.toArray_toList]
    · exact h.elim
  · -- build
    rename_i t ps hop
    obtain ⟨ss, h, he, hs⟩ := partsK_ok hF h
    obtain ⟨s', hk, hs'⟩ := buildK_ok (β := β) (m := H.nxt) (pv := (ps.toList.map fun p => (p.1, a.eval p.2))) h (by rw [he, List.map_map]; rfl) (fun hG => by rw [List.map_map]; exact hs hG)
    refine ⟨s', hk, fun hG => ?_⟩
    obtain ⟨hl, v', hd, hr⟩ := hs' hG
    refine good_of_yld hl hd ?_ hr
    simp only [execOp, hop]
    have : (ps.map fun x => (x.1, a.eval x.2)) = (ps.toList.map fun p => (p.1, a.eval p.2)).toArray := by
      rw [← List.map_toArray]
    rw [← this]
  · -- len
    rename_i x t hop
    obtain ⟨s, h, hx⟩ := opdK_ok hF h
    obtain ⟨s', hk, hs⟩ := lenK_ok (ty := o.type) (m := H.nxt) (v := a.eval x) h (fun hG => (hx hG).1)
    refine ⟨s', hk, fun hG => ?_⟩
    obtain ⟨hl, v', hd, hr⟩ := hs hG
    exact ⟨hl, v', hd, fun w' _ => by simp [execOp, hop, resolve, invoke, builtin, hr w']⟩
  · rename_i args ats hop
    obtain ⟨ss, h, hx⟩ := opdsK_ok hF h
    obtain ⟨s', hk, hs⟩ := mmK_max (P := X.P) (m := H.nxt) (ats := ats) (ty := o.type) h (fun hG => (hx hG).1)
    refine ⟨s', hk, fun hG => ?_⟩
    obtain ⟨hl, v', hd, hr⟩ := hs hG
    refine ⟨hl, v', hd, fun w' _ => ?_⟩
    have he : args.map a.eval = (args.toList.map a.eval).toArray := by rw [← List.map_toArray]
    simp only [execOp, hop, resolve, he, invoke, builtin, Sem.run_bind, Sem.run_pure, Result.andThen_ok, hr w']
  · rename_i args ats hop
    obtain ⟨ss, h, hx⟩ := opdsK_ok hF h
    obtain ⟨s', hk, hs⟩ := mmK_min (P := X.P) (m := H.nxt) (ats := ats) (ty := o.type) h (fun hG => (hx hG).1)
    refine ⟨s', hk, fun hG => ?_⟩
    obtain ⟨hl, v', hd, hr⟩ := hs hG
    refine ⟨hl, v', hd, fun w' _ => ?_⟩
    have he : args.map a.eval = (args.toList.map a.eval).toArray := by rw [← List.map_toArray]
    simp only [execOp, hop, resolve, he, invoke, builtin, Sem.run_bind, Sem.run_pure, Result.andThen_ok, hr w']
  · exact h.elim

end Go.Sk
