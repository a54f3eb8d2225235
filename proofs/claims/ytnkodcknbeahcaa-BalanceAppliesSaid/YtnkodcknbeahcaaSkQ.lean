/-
  A frame for walks, seventeenth part: how regions are reckoned by simp: what comes behind an operation is not looked into before the operation has been run.
  Conditions: none; definitions and lemmas over any program.
-/
import Derived.Test.YtnkodcknbeahcaaSkP
set_option linter.unusedSimpArgs false
set_option linter.unusedVariables false
namespace Go.Sk
open Go.RowKit

section
variable {P : Program} {wr G dr : Bool} {m0 : Nat} {W Wq : List Nat} {H : AH} {fr : Fr} {ops : Array Oper}
@[congr] theorem opdK_c {x : Operand} {k : SV → Prop} : opdK fr G x k = opdK fr G x k := rfl
@[congr] theorem opdsK_c {x : List Operand} {k : List SV → Prop} : opdsK fr G x k = opdsK fr G x k := rfl
@[congr] theorem partsK_c {x : List (Nat × Operand)} {k : List (Nat × SV) → Prop} : partsK fr G x k = partsK fr G x k := rfl
@[congr] theorem optK_c {x : Option Operand} {k : Option SV → Prop} : optK fr G x k = optK fr G x k := rfl
@[congr] theorem qop_c {op : Op} {k : SV → Prop} : qop P wr H W fr G op k = qop P wr H W fr G op k := rfl
@[congr] theorem eop_c {op : Op} {k : SV → AH → Prop} : eop P m0 dr W H fr op k = eop P m0 dr W H fr op k := rfl
@[congr] theorem stp_c {o : Oper} {K : Fr → AH → Prop} : stp P wr m0 dr W Wq ops o fr H K = stp P wr m0 dr W Wq ops o fr H K := rfl
@[congr] theorem runL_c {l : List Oper} {K : Fr → AH → Prop} : runL P wr m0 ops l fr H K = runL P wr m0 ops l fr H K := rfl
@[congr] theorem runO_c {W U : List (List Nat)} {l : List (Nat × Oper)} {K : Fr → AH → Prop} : runO P wr m0 W U ops l fr H K = runO P wr m0 W U ops l fr H K := rfl
@[congr] theorem grdK_c {g : Nat × Bool} {k : Bool → Prop} : grdK ops fr g k = grdK ops fr g k := rfl
@[congr] theorem loadK_c {t : TypeId} {s : SV} {k : SV → Prop} : loadK P H W G t s k = loadK P H W G t s k := rfl
@[congr] theorem binK_c {op : BinOp} {t : TypeId} {x y : SV} {k : SV → Prop} : binK P wr G op t x y k = binK P wr G op t x y k := rfl
@[congr] theorem binII_c {op : BinOp} {kd kd' : IntKind} {a b : Int} {k : SV → Prop} : binII wr G op kd a kd' b k = binII wr G op kd a kd' b k := rfl
@[congr] theorem binBB_c {op : BinOp} {t : TypeId} {a b : Bool} {k : SV → Prop} : binBB P G op t a b k = binBB P G op t a b k := rfl
@[congr] theorem binAA_c {op : BinOp} {t : TypeId} {a b : List SV} {k : SV → Prop} : binAA P G op t a b k = binAA P G op t a b k := rfl
@[congr] theorem intK_c {op : BinOp} {kd : IntKind} {a b : Int} {k : SV → Prop} : intK wr G op kd a b k = intK wr G op kd a b k := rfl
@[congr] theorem arithK_c {kd : IntKind} {a : Int} {k : SV → Prop} : arithK wr G kd a k = arithK wr G kd a k := rfl
@[congr] theorem shiftK_c {op : BinOp} {kd : IntKind} {a b : Int} {k : SV → Prop} : shiftK G op kd a b k = shiftK G op kd a b k := rfl
@[congr] theorem strK_c {op : BinOp} {a b : ByteArray} {k : SV → Prop} : strK G op a b k = strK G op a b k := rfl
@[congr] theorem unK_c {op : UnOp} {s : SV} {k : SV → Prop} : unK wr G op s k = unK wr G op s k := rfl
@[congr] theorem convK_c {t t' : TypeId} {s : SV} {k : SV → Prop} : convK P wr G t t' s k = convK P wr G t t' s k := rfl
@[congr] theorem faddrK_c {t : TypeId} {f : Nat} {s : SV} {k : SV → Prop} : faddrK P G t f s k = faddrK P G t f s k := rfl
@[congr] theorem fieldK_c {t : TypeId} {f : Nat} {s : SV} {k : SV → Prop} : fieldK P G t f s k = fieldK P G t f s k := rfl
@[congr] theorem partK_c {l : List SV} {x : Option (Nat × Option Bool × Nat)} {k : SV → Prop} : partK G l x k = partK G l x k := rfl
@[congr] theorem iaddrK_c {t : TypeId} {s i : SV} {k : SV → Prop} : iaddrK P H G t s i k = iaddrK P H G t s i k := rfl
@[congr] theorem indexK_c {t : TypeId} {s i : SV} {k : SV → Prop} : indexK P G t s i k = indexK P G t s i k := rfl
@[congr] theorem sliceK_c {t : TypeId} {s : SV} {a b c : Option SV} {k : SV → Prop} : sliceK P H G t s a b c k = sliceK P H G t s a b c k := rfl
@[congr] theorem bndK_c {x : Option SV} {d : Nat} {k : Nat → Prop} : bndK G x d k = bndK G x d k := rfl
@[congr] theorem lenK_c {t : TypeId} {s : SV} {k : SV → Prop} : lenK P G t s k = lenK P G t s k := rfl
@[congr] theorem mmK_c {f : Int → Int → Int} {l : List SV} {k : SV → Prop} : mmK f l k = mmK f l k := rfl
@[congr] theorem buildK_c {t : TypeId} {l : List (Nat × SV)} {k : SV → Prop} : buildK P G t l k = buildK P G t l k := rfl
@[congr] theorem allocK_c {t : TypeId} {k : SV → AH → Prop} : allocK P H t k = allocK P H t k := rfl
@[congr] theorem boxK_c {t : TypeId} {s : SV} {k : SV → AH → Prop} : boxK H t s k = boxK H t s k := rfl
@[congr] theorem bsliceK_c {t : TypeId} {n : Nat} {l : List (Nat × SV)} {k : SV → AH → Prop} : bsliceK P H t n l k = bsliceK P H t n l k := rfl
@[congr] theorem storeK_c {t : TypeId} {a b : SV} {k : SV → AH → Prop} : storeK P H dr W t a b k = storeK P H dr W t a b k := rfl
@[congr] theorem mkK_c {t : TypeId} {a b : SV} {k : SV → AH → Prop} : mkK P H t a b k = mkK P H t a b k := rfl
@[congr] theorem srcK_c {n : Nat} {a : SV} {k : Nat → (Nat → List SV) → Prop} : srcK H n a k = srcK H n a k := rfl
@[congr] theorem appendK_c {t t' : TypeId} {a b : SV} {k : SV → AH → Prop} : appendK P m0 dr W H t t' a b k = appendK P m0 dr W H t t' a b k := rfl
@[congr] theorem callK_c {f : FuncId} {l : List SV} {k : SV → AH → Prop} : callK P f l H dr W k = callK P f l H dr W k := rfl
@[congr] theorem resK_c {l : List ResultVar} {k : List SV → Prop} : resK P H fr l k = resK P H fr l k := rfl
end

/-- Only some slots are carried on. -/
def prune (keep : List Nat) (fr : Fr) : Fr :=
  match keep with
  | [] => []
  | t :: l => match get fr t with
    | some s => (t, s) :: prune l fr
    | none => prune l fr

theorem prune_get : ∀ {keep : List Nat} {fr : Fr} {t : Nat} {s : SV}, get (prune keep fr) t = some s → get fr t = some s
  | [], _, _, _, h => by simp [prune, get] at h
  | u :: l, fr, t, s, h => by
    unfold prune at h
    split at h
    · rename_i s0 hs0
      simp only [get] at h
      split at h
      · rename_i he
        cases h; subst he
        exact hs0
      · exact prune_get h
    · exact prune_get h

theorem At.prune {X : Cx} {K : Fr → AH → Prop} {keep : List Nat} {a : Act} {w : World} (h : At X (fun fr H => K (prune keep fr) H) a w) : At X K a w := by
  obtain ⟨β, fr, H, h1, h2, h3⟩ := h
  exact ⟨β, _, H, h1, ⟨h2.defers, h2.size, fun t s hs => h2.get t s (prune_get hs)⟩, h3⟩

section
variable {X : Cx} {Q : Exit → Fr → AH → Prop} {fr : Fr} {H : AH}

theorem Cw.reg {id : Nat} {l : List Oper} (keep : List Nat) (hd : dstOk X.n l = true) (h : runL X.P X.wrap X.m0 l.toArray l fr H (fun fr H => Q .normal (prune keep fr) H)) : Cw X (.region id l.toArray false) Q fr H := fun _ _ _ hF hS =>
  wp_region_list (by simpa using runL_ok (Q := lift X Q) (fun _ _ h => At.prune (K := Q .normal) h) _ hd hS hF h)

theorem Cw.conv {c : Code} {Q' : Exit → Fr → AH → Prop} (h : Cw X c Q fr H) (hq : ∀ e a w, lift X Q e a w → lift X Q' e a w) : Cw X c Q' fr H := fun β a w hF hS => Code.wp_mono hq (h β a w hF hS)

theorem Cw.regDraw {id : Nat} {l : List Oper} (keep ord : List Nat) (A W U : List (List Nat)) (l' : List (Nat × Oper)) (hm : X.P.follows .mixedOrders = true)
    (hd : dstOk X.n l = true) (hlen : ord.length = l.length) (hlt : ord.all (fun i => decide (i < l.length)) = true) (hns : Region.noSelect l.toArray = true) (hA : afterOk l.toArray A = true) (hE : effOk l.toArray A W U = true) (hWn : W.all (fun l => l.all fun i => decide (i < H.nxt)) = true)
    (hl' : (ord.map fun i => (i, l.toArray.getD i default)) = l')
    (hs : sched l.toArray l' (Array.replicate l.length false) false = true)
    (h : runO X.P X.wrap X.m0 W U l.toArray l' fr H (fun fr H => Q .normal (prune keep fr) H)) : Cw X (.region id l.toArray true) Q fr H := by
  subst hl'
  refine Cw.conv (Cw.regionDraw (Q := fun e fr H => match e with | .normal => Q .normal (prune keep fr) H | e => Q e fr H) ord A W U hm (by simpa using hd) (by simpa using hlen) (by simpa using hlt) hns hA hE hWn (by simpa using hs) h) ?_
  intro e a w hh
  cases e with
  | normal => exact At.prune (K := Q .normal) hh
  | _ => exact hh

end

/-- What a function does, from a walk of its body; the numbers written out. -/
theorem FSpec.ofN {P : Program} {f : FuncId} {fn : Func} {c : Code} {args : List SV} {H0 : AH} {R : SV → AH → Prop} (wr : Bool) (n : Nat) (rs : List ResultVar) (hf : P.funcs[f]? = some fn) (hb : fn.body = some c) (hn : (fn.name == "runtime.NumGoroutine") = false) (hnt : fn.ntmps = n) (hrs : fn.results = rs.toArray) (ha : Nat.ble args.length n = true)
    (h : ∀ w0 own0 β0, Cw ⟨P, n, w0, own0, H0.nxt, β0, wr⟩ c (PostF ⟨P, n, w0, own0, H0.nxt, β0, wr⟩ H0 rs R) (argFr 0 args) H0) : FSpec P f args H0 R := by
  subst hnt
  refine FSpec.of wr hf hb hn (Nat.le_of_ble_eq_true ha) fun w0 own0 β0 => ?_
  have : fn.results.toList = rs := by rw [hrs]
  rw [this]
  exact h w0 own0 β0

end Go.Sk
