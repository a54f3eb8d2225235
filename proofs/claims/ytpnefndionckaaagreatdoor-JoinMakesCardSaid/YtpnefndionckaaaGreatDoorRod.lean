/-
  Walks and plain facts, joined: part 4 of 12.
  Conditions: those that each statement names.
-/
import Derived.Test.YtpnefndionckaaaGreatDoorRoc
set_option linter.unusedSimpArgs false
set_option linter.unusedVariables false
set_option linter.defProp false
set_option maxRecDepth 4000
set_option maxHeartbeats 8000000
namespace Go.Proofs
open Tryz
open Go.Sk
section
def z2c (x:Int):Bool:=decide (0<=x/\x<=13\/x=18)
def headBad (cs:List Cl)(ps:List Pr):Bool:=decide ((cs.length:Int)<2)||decide (66<(cs.length:Int))||decide ((ps.length:Int)<1)||decide (8<(ps.length:Int))|| !sEq (cl cs 0).key ⟨#[]⟩|| !sEq (cl cs 1).key ⟨#[]⟩
def badK (n m:Int)(c:Cl):Bool:=decide (c.left<0)||decide (n<=c.left)||decide (c.right<0)||decide (n<=c.right)||decide (c.lock<0)||decide (m<c.lock)|| !okKey c.key
def dupC (cs:List Cl)(i:Nat):Bool:=decide (1<(i:Int)) && z57 (i-2) fun k=>sameKey (cl cs i) (cl cs (2+k))
def badQ (n:Int)(x:Pr):Bool:=decide (min (min (min x.cell x.pred) x.succ) x.next<0)||decide (n<=max (max (max x.cell x.pred) x.succ) x.next)||decide (x.kind<0)||decide (3<x.kind)
def badH (x:Pr):Bool:= !z2c x.phase||((x.kind==0) !=(x.phase==0))
def cellsK (cs:List Cl)(ps:List Pr):Bool:= !headBad cs ps && !z57 cs.length (fun i=>badK cs.length ps.length (cl cs i)||dupC cs i) && !z57 ps.length (fun i=>badQ cs.length (pr ps i))
def z2w (cs:List Cl)(ps:List Pr):Bool:= !z57 ps.length (fun i=>badH (pr ps i)) && cellsK cs ps
structure PrOk (n:Nat) (x:Pr):Prop where
 cell:0<=x.cell/\x.cell<n
 pred:0<=x.pred/\x.pred<n
 succ:0<=x.succ/\x.succ<n
 next:0<=x.next/\x.next<n
structure Vld (cs:List Cl) (ps:List Pr):Prop where
 two:2<=cs.length
 big:cs.length<=66
 uQ:1<=ps.length
 eight:ps.length<=8
 cell:∀i,i<cs.length->(0<=(cl cs i).left/\(cl cs i).left<cs.length)/\(0<=(cl cs i).right/\(cl cs i).right<cs.length)/\0<=(cl cs i).lock/\(cl cs i).lock<=ps.length
 proc:∀i,i<ps.length->PrOk cs.length (pr ps i)
 phase:∀i,i<ps.length->z2c (pr ps i).phase=true
 kind:∀i,i<ps.length->0<=(pr ps i).kind/\(pr ps i).kind<=3/\((pr ps i).kind=0↔(pr ps i).phase=0)
theorem vld_of {cs:List Cl}{ps:List Pr}(h:z2w cs ps=true):Vld cs ps:=by
 simp only[z2w,cellsK,qh,qk] at h;obtain⟨h4,⟨h1,h2⟩,h3⟩:=h;have h2':=z3d.1 h2;have h3':=z3d.1 h3;have h4':=z3d.1 h4;simp only[headBad,qi,qg] at h1;refine⟨by omega,by omega,by omega,by omega,fun i hi=> ?_,fun i hi=> ?_,fun i hi=> ?_,fun i hi=> ?_⟩
 ·have:=h2' i hi;rw[qi] at this;have:=this.1;simp only[badK,qi,qg] at this;omega
 ·have:=h3' i hi;simp only[badQ,qi,qg] at this;refine⟨by omega,by omega,by omega,by omega⟩
 ·have:=h4' i hi;simp only[badH,qi,qq] at this;exact this.1
 ·have h5:=h3' i hi;have h6:=h4' i hi;simp only[badQ,qi,qg] at h5;simp only[badH,qi,qu] at h6;have h7:=h6.2;rw[Qj] at h7;simp only[qy] at h7;exact⟨by omega,by omega,h7⟩
theorem dst_of {cs:List Cl}{ps:List Pr}(h:z2w cs ps=true):Dst cs:=by
 simp only[z2w,cellsK,qh,qk] at h;have hc:=z3d.1 h.2.1.2
 have key:∀i j:Nat,2<=i->i<j->j<cs.length->(cl cs i).key=(cl cs j).key->False:=by
  intro i j h1 h2 h3 h4;have:=hc j h3;rw[qi] at this;have hd:=this.2;rw[dupC,qG (by omega:1<(j:Int)),Qb] at hd;have:=z3d.1 hd (i-2) (by omega);rw[sameKey,show 2+(i-2)=i by omega,sEq_iff,h4] at this;simp at this
 intro i j h1 h2 h3 h4 h5;rcases jf i j with h|h|h
 ·exact(key i j h1 h h4 h5).elim
 ·exact h
 ·exact(key j i h3 h h2 h5.symm).elim
theorem valid_mk {cs ds:List Cl}{ps qs:List Pr}(hv:z2w cs ps=true)(hk:z3w cs ds)(hl:qs.length=ps.length)
  (hc:∀i,i<cs.length->(0<=(cl ds i).left/\(cl ds i).left<cs.length)/\(0<=(cl ds i).right/\(cl ds i).right<cs.length)/\0<=(cl ds i).lock/\(cl ds i).lock<=ps.length)
  (hp:∀i,i<ps.length->PrOk cs.length (pr qs i)/\z2c (pr qs i).phase=true/\0<=(pr qs i).kind/\(pr qs i).kind<=3/\((pr qs i).kind=0↔(pr qs i).phase=0)):z2w ds qs=true:=by
 simp only[z2w,cellsK,qh,qk] at hv ⊢;obtain⟨h4,⟨h1,h2⟩,h3⟩:=hv;have h2':=z3d.1 h2;refine⟨z3d.2 fun i hi=> ?_,⟨?_,z3d.2 fun i hi=> ?_⟩,z3d.2 fun i hi=> ?_⟩
 ·rw[hl] at hi;obtain⟨_,a5,a6,a7,a8⟩:=hp i hi;simp only[badH,qi,qu];refine⟨by rw[a5];rfl,?_⟩;rw[Qj];simpa using a8
 ·simp only[headBad,hk.len,hl,hk.key] at h1 ⊢;exact h1
 ·rw[hk.len] at hi ⊢;have h4:=h2' i hi;have h5:=hc i hi;rw[qi] at h4 ⊢;refine⟨?_,?_⟩
  ·have h6:=h4.1;simp only[badK,qi,qg,hk.key,hl] at h6 ⊢;exact⟨⟨⟨⟨⟨⟨by omega,by omega⟩,by omega⟩,by omega⟩,by omega⟩,by omega⟩,h6.2⟩
  ·have h6:=h4.2;simp only[dupC,sameKey,hk.key] at h6 ⊢;exact h6
 ·rw[hl] at hi;obtain⟨⟨a1,a2,a3,a4⟩,a5,a6,a7,a8⟩:=hp i hi;simp only[badQ,qi,qg,hk.len];exact⟨⟨⟨by omega,by omega⟩,by omega⟩,by omega⟩
def lf (cs:List Cl)(i:Int):Int:=(cl cs i.toNat).left
def setU (cs:List Cl)(c:Int):List Cl:=cs.set c.toNat {cl cs c.toNat with gone:=false}
def setK (cs:List Cl)(c v:Int):List Cl:=cs.set c.toNat {cl cs c.toNat with lock:=v}
def z4g (cs:List Cl)(c v:Int):List Cl:=cs.set c.toNat {cl cs c.toNat with left:=v}
def unlk1 (p:Nat)(c:Cl):Cl:=if c.lock=(p:Int)+1 then {c with lock:=0} else c
def unlk (cs:List Cl)(p:Nat):List Cl:=cs.map (unlk1 p)
theorem z2s (cs:List Cl)(c v:Int):(z2p cs c v).length=cs.length:=by simp[z2p]
theorem z5a (cs:List Cl)(c v:Int):(z4g cs c v).length=cs.length:=by simp[z4g]
theorem key_setG (cs:List Cl)(c:Int):z3w cs (setG cs c):=z3w.set rfl
theorem key_setU (cs:List Cl)(c:Int):z3w cs (setU cs c):=z3w.set rfl
theorem key_setK (cs:List Cl)(c v:Int):z3w cs (setK cs c v):=z3w.set rfl
theorem z58 (cs:List Cl)(c v:Int):z3w cs (z4g cs c v):=z3w.set rfl
theorem cl_unlk (cs:List Cl)(p i:Nat):cl (unlk cs p) i=unlk1 p (cl cs i):=by
 unfold unlk cl
 by_cases h:i<cs.length
 ·simp[List.getD,h]
 ·rw[List.getD,List.getD,qQ (by simpa using h),qQ (by simpa using h)]
  show noCl=unlk1 p noCl
  unfold unlk1 noCl
  split
  ·rename_i e;dsimp only at e;omega
  ·rfl
theorem key_unlk (cs:List Cl)(p:Nat):z3w cs (unlk cs p):=⟨by simp[unlk],fun i=>by rw[cl_unlk,unlk1];split<;>rfl⟩
theorem rt_unlk (cs:List Cl)(p:Nat)(i:Int):rt (unlk cs p) i=rt cs i:=by simp only[rt];rw[cl_unlk,unlk1];split<;>rfl
theorem gn_unlk (cs:List Cl)(p:Nat)(i:Int):gn (unlk cs p) i=gn cs i:=by simp only[gn];rw[cl_unlk,unlk1];split<;>rfl
theorem lf_unlk (cs:List Cl)(p:Nat)(i:Int):lf (unlk cs p) i=lf cs i:=by simp only[lf];rw[cl_unlk,unlk1];split<;>rfl
theorem lk_unlk (cs:List Cl)(p:Nat)(i:Int):lkK (unlk cs p) i=if lkK cs i=(p:Int)+1 then 0 else lkK cs i:=by by_cases h:(cl cs i.toNat).lock=(p:Int)+1<;>simp[lkK,cl_unlk,unlk1,h]
theorem lf_setR {cs:List Cl}{c i v:Int}(hc:0<=c/\c<cs.length)(hi:0<=i):lf (z2p cs c v) i=lf cs i:=by
 simp only[lf,z2p];rw[cl_up hc hi];split
 ·rename_i e;subst e;rfl
 ·rfl
theorem rt_setG {cs:List Cl}{c i:Int}(hc:0<=c/\c<cs.length)(hi:0<=i):rt (setG cs c) i=rt cs i:=by
 simp only[rt,setG];rw[cl_up hc hi];split
 ·rename_i e;subst e;rfl
 ·rfl
theorem gn_setG {cs:List Cl}{c i:Int}(hc:0<=c/\c<cs.length)(hi:0<=i):gn (setG cs c) i=if i=c then true else gn cs i:=by
 simp only[gn,setG];rw[cl_up hc hi];split<;>rfl
theorem lk_setG {cs:List Cl}{c i:Int}(hc:0<=c/\c<cs.length)(hi:0<=i):lkK (setG cs c) i=lkK cs i:=by
 simp only[lkK,setG];rw[cl_up hc hi];split
 ·rename_i e;subst e;rfl
 ·rfl
theorem lf_setG {cs:List Cl}{c i:Int}(hc:0<=c/\c<cs.length)(hi:0<=i):lf (setG cs c) i=lf cs i:=by
 simp only[lf,setG];rw[cl_up hc hi];split
 ·rename_i e;subst e;rfl
 ·rfl
theorem rt_setU {cs:List Cl}{c i:Int}(hc:0<=c/\c<cs.length)(hi:0<=i):rt (setU cs c) i=rt cs i:=by
 simp only[rt,setU];rw[cl_up hc hi];split
 ·rename_i e;subst e;rfl
 ·rfl
theorem gn_setU {cs:List Cl}{c i:Int}(hc:0<=c/\c<cs.length)(hi:0<=i):gn (setU cs c) i=if i=c then false else gn cs i:=by
 simp only[gn,setU];rw[cl_up hc hi];split<;>rfl
theorem lk_setU {cs:List Cl}{c i:Int}(hc:0<=c/\c<cs.length)(hi:0<=i):lkK (setU cs c) i=lkK cs i:=by
 simp only[lkK,setU];rw[cl_up hc hi];split
 ·rename_i e;subst e;rfl
 ·rfl
theorem lf_setU {cs:List Cl}{c i:Int}(hc:0<=c/\c<cs.length)(hi:0<=i):lf (setU cs c) i=lf cs i:=by
 simp only[lf,setU];rw[cl_up hc hi];split
 ·rename_i e;subst e;rfl
 ·rfl
theorem rt_setK {cs:List Cl}{c i v:Int}(hc:0<=c/\c<cs.length)(hi:0<=i):rt (setK cs c v) i=rt cs i:=by
 simp only[rt,setK];rw[cl_up hc hi];split
 ·rename_i e;subst e;rfl
 ·rfl
theorem gn_setK {cs:List Cl}{c i v:Int}(hc:0<=c/\c<cs.length)(hi:0<=i):gn (setK cs c v) i=gn cs i:=by
 simp only[gn,setK];rw[cl_up hc hi];split
 ·rename_i e;subst e;rfl
 ·rfl
theorem lk_setK {cs:List Cl}{c i v:Int}(hc:0<=c/\c<cs.length)(hi:0<=i):lkK (setK cs c v) i=if i=c then v else lkK cs i:=by
 simp only[lkK,setK];rw[cl_up hc hi];split<;>rfl
theorem lf_setK {cs:List Cl}{c i v:Int}(hc:0<=c/\c<cs.length)(hi:0<=i):lf (setK cs c v) i=lf cs i:=by
 simp only[lf,setK];rw[cl_up hc hi];split
 ·rename_i e;subst e;rfl
 ·rfl
theorem z37 {cs:List Cl}{c i v:Int}(hc:0<=c/\c<cs.length)(hi:0<=i):rt (z4g cs c v) i=rt cs i:=by
 simp only[rt,z4g];rw[cl_up hc hi];split
 ·rename_i e;subst e;rfl
 ·rfl
theorem z4k {cs:List Cl}{c i v:Int}(hc:0<=c/\c<cs.length)(hi:0<=i):gn (z4g cs c v) i=gn cs i:=by
 simp only[gn,z4g];rw[cl_up hc hi];split
 ·rename_i e;subst e;rfl
 ·rfl
theorem lk_setF {cs:List Cl}{c i v:Int}(hc:0<=c/\c<cs.length)(hi:0<=i):lkK (z4g cs c v) i=lkK cs i:=by
 simp only[lkK,z4g];rw[cl_up hc hi];split
 ·rename_i e;subst e;rfl
 ·rfl
theorem lf_setF {cs:List Cl}{c i v:Int}(hc:0<=c/\c<cs.length)(hi:0<=i):lf (z4g cs c v) i=if i=c then v else lf cs i:=by
 simp only[lf,z4g];rw[cl_up hc hi];split<;>rfl
def findK (cs:List Cl)(x:Pr):Pr:=
 if z1l cs x.succ x.cell then {x with pred:=x.succ,succ:=(cl cs x.succ.toNat).right}
 else if x.kind=3 then {x with phase:=4} else {x with phase:=2}
def failK (cs:List Cl)(x:Pr):Bool:=gn cs x.pred||gn cs x.succ||rt cs x.pred !=x.succ
def checkK (cs:List Cl)(x:Pr):Pr:=
 if x.kind=3 then {x with res:=x.succ==x.cell && !gn cs x.cell,phase:=18}
 else if failK cs x then {x with phase:=5}
 else if x.kind==1 && !(x.succ==x.cell) then {x with phase:=6}
 else if x.kind==2 && x.succ==x.cell then {x with phase:=9}
 else {x with phase:=13}
def waitK (cs:List Cl)(x:Pr):Bool:=(x.phase==2 && lkK cs x.pred !=0)||(x.phase==3 && lkK cs x.succ !=0)||(x.phase==9 && lkK cs (rt cs x.cell) !=0)
def z1z (cs:List Cl)(p:Nat)(x:Pr):List Cl:=
 if x.phase=2 then if lkK cs x.pred=0 then setK cs x.pred (p+1) else cs
 else if x.phase=3 then if lkK cs x.succ=0 then setK cs x.succ (p+1) else cs
 else if x.phase=5 then unlk cs p
 else if x.phase=6 then z2p (z4g cs x.cell x.pred) x.cell x.succ
 else if x.phase=7 then setU (z2p cs x.pred x.cell) x.cell
 else if x.phase=8 then z4g cs x.succ x.cell
 else if x.phase=9 then if lkK cs (rt cs x.cell)=0 then setK cs (rt cs x.cell) (p+1) else cs
 else if x.phase=10 then setG cs x.cell
 else if x.phase=11 then z2p cs x.pred x.next
 else if x.phase=12 then z4g cs x.next x.pred
 else if x.phase=13 then unlk cs p else cs
def z20 (cs:List Cl)(x:Pr):Pr:=
 if x.phase=1 then findK cs x
 else if x.phase=2 then if lkK cs x.pred=0 then {x with phase:=3} else x
 else if x.phase=3 then if lkK cs x.succ=0 then {x with phase:=4} else x
 else if x.phase=4 then checkK cs x
 else if x.phase=5 then {x with pred:=0,succ:=rt cs 0,phase:=1}
 else if x.phase=6 then {x with phase:=7}
 else if x.phase=7 then {x with phase:=8}
 else if x.phase=8 then {x with res:=true,phase:=13}
 else if x.phase=9 then if lkK cs (rt cs x.cell)=0 then {x with next:=rt cs x.cell,phase:=10} else x
 else if x.phase=10 then {x with phase:=11}
 else if x.phase=11 then {x with phase:=12}
 else if x.phase=12 then {x with res:=true,phase:=13}
 else if x.phase=13 then {x with phase:=18} else x
def z3v (cs:List Cl)(x:Pr):Bool:=decide (1<=x.phase/\x.phase<=13) && !waitK cs x
inductive Tr (cs:List Cl) (p:Nat) (x:Pr):List Cl->Pr->Prop
 |adv (h:x.phase=1) (hl:z1l cs x.succ x.cell=true):Tr cs p x cs {x with pred:=x.succ,succ:=rt cs x.succ}
 |seek (h:x.phase=1) (hl:z1l cs x.succ x.cell=false) (hk:x.kind=3):Tr cs p x cs {x with phase:=4}
 |aim (h:x.phase=1) (hl:z1l cs x.succ x.cell=false) (hk:x.kind≠3):Tr cs p x cs {x with phase:=2}
 |lockP (h:x.phase=2) (hf:lkK cs x.pred=0):Tr cs p x (setK cs x.pred (p+1)) {x with phase:=3}
 |lockS (h:x.phase=3) (hf:lkK cs x.succ=0):Tr cs p x (setK cs x.succ (p+1)) {x with phase:=4}
 |found (h:x.phase=4) (hk:x.kind=3):Tr cs p x cs {x with res:=x.succ==x.cell && !gn cs x.cell,phase:=18}
 |again (h:x.phase=4) (hk:x.kind≠3) (hb:failK cs x=true):Tr cs p x cs {x with phase:=5}
 |ins (h:x.phase=4) (hk:x.kind=1) (hb:failK cs x=false) (hs:x.succ≠x.cell):Tr cs p x cs {x with phase:=6}
 |rem (h:x.phase=4) (hk:x.kind=2) (hb:failK cs x=false) (hs:x.succ=x.cell):Tr cs p x cs {x with phase:=9}
 |no (h:x.phase=4) (hk:x.kind≠3) (hb:failK cs x=false) (h1:x.kind=1->x.succ=x.cell) (h2:x.kind=2->x.succ≠x.cell):Tr cs p x cs {x with phase:=13}
 |retry (h:x.phase=5):Tr cs p x (unlk cs p) {x with pred:=0,succ:=rt cs 0,phase:=1}
 |link0 (h:x.phase=6):Tr cs p x (z2p (z4g cs x.cell x.pred) x.cell x.succ) {x with phase:=7}
 |link1 (h:x.phase=7):Tr cs p x (setU (z2p cs x.pred x.cell) x.cell) {x with phase:=8}
 |link2 (h:x.phase=8):Tr cs p x (z4g cs x.succ x.cell) {x with res:=true,phase:=13}
 |lockN (h:x.phase=9) (hf:lkK cs (rt cs x.cell)=0):Tr cs p x (setK cs (rt cs x.cell) (p+1)) {x with next:=rt cs x.cell,phase:=10}
 |un0 (h:x.phase=10):Tr cs p x (setG cs x.cell) {x with phase:=11}
 |un1 (h:x.phase=11):Tr cs p x (z2p cs x.pred x.next) {x with phase:=12}
 |un2 (h:x.phase=12):Tr cs p x (z4g cs x.next x.pred) {x with res:=true,phase:=13}
 |rel (h:x.phase=13):Tr cs p x (unlk cs p) {x with phase:=18}
theorem Tr.of {cs:List Cl}{p:Nat}{x:Pr}(h:z3v cs x=true):Tr cs p x (z1z cs p x) (z20 cs x):=by
 rw[z3v,qh,qj,qk] at h;obtain⟨⟨h1,h2⟩,hw⟩:=h;simp only[waitK,qi,qv,qy,qu] at hw;have hp:x.phase=1\/x.phase=2\/x.phase=3\/x.phase=4\/x.phase=5\/x.phase=6\/x.phase=7\/x.phase=8\/x.phase=9\/x.phase=10\/x.phase=11\/x.phase=12\/x.phase=13:=by omega
 rcases hp with h|h|h|h|h|h|h|h|h|h|h|h|h
 ·rw[show z1z cs p x=cs by simp[z1z,h],show z20 cs x=findK cs x by simp[z20,h],findK]
  split
  ·exact .adv h ‹_›
  ·rename_i hl;have hl:z1l cs x.succ x.cell=false:=by simpa using hl
   split
   ·exact .seek h hl ‹_›
   ·exact .aim h hl ‹_›
 ·have hf:=hw.1.1 h;rw[show z1z cs p x=setK cs x.pred (p+1) by simp[z1z,h,hf],show z20 cs x={x with phase:=3} by simp[z20,h,hf]];exact .lockP h hf
 ·have hf:=hw.1.2 h;rw[show z1z cs p x=setK cs x.succ (p+1) by simp[z1z,h,hf],show z20 cs x={x with phase:=4} by simp[z20,h,hf]];exact .lockS h hf
 ·rw[show z1z cs p x=cs by simp[z1z,h],show z20 cs x=checkK cs x by simp[z20,h],checkK]
  split
  ·exact .found h ‹_›
  ·rename_i hk
   split
   ·exact .again h hk ‹_›
   ·rename_i hb;have hb:failK cs x=false:=by simpa using hb
    split
    ·rename_i g;simp only[qh,qy,qk,qz] at g;exact .ins h g.1 hb g.2
    ·rename_i g
     split
     ·rename_i g2;simp only[qh,qy] at g2;exact .rem h g2.1 hb g2.2
     ·rename_i g2;refine .no h hk hb (fun e=> ?_) fun e e2=>g2 (by rw[e,e2];simp);refine Decidable.byContradiction fun e2=>g ?_;rw[e];simpa using e2
 ·rw[show z1z cs p x=unlk cs p by simp[z1z,h],show z20 cs x={x with pred:=0,succ:=rt cs 0,phase:=1} by simp[z20,h]];exact .retry h
 ·rw[show z1z cs p x=z2p (z4g cs x.cell x.pred) x.cell x.succ by simp[z1z,h],show z20 cs x={x with phase:=7} by simp[z20,h]];exact .link0 h
 ·rw[show z1z cs p x=setU (z2p cs x.pred x.cell) x.cell by simp[z1z,h],show z20 cs x={x with phase:=8} by simp[z20,h]];exact .link1 h
 ·rw[show z1z cs p x=z4g cs x.succ x.cell by simp[z1z,h],show z20 cs x={x with res:=true,phase:=13} by simp[z20,h]];exact .link2 h
 ·have hf:=hw.2 h;rw[show z1z cs p x=setK cs (rt cs x.cell) (p+1) by simp[z1z,h,hf],show z20 cs x={x with next:=rt cs x.cell,phase:=10} by simp[z20,h,hf]];exact .lockN h hf
 ·rw[show z1z cs p x=setG cs x.cell by simp[z1z,h],show z20 cs x={x with phase:=11} by simp[z20,h]];exact .un0 h
 ·rw[show z1z cs p x=z2p cs x.pred x.next by simp[z1z,h],show z20 cs x={x with phase:=12} by simp[z20,h]];exact .un1 h
 ·rw[show z1z cs p x=z4g cs x.next x.pred by simp[z1z,h],show z20 cs x={x with res:=true,phase:=13} by simp[z20,h]];exact .un2 h
 ·rw[show z1z cs p x=unlk cs p by simp[z1z,h],show z20 cs x={x with phase:=18} by simp[z20,h]];exact .rel h
end
section
def TT (cs:List Cl)(i:Int):Prop:=0<=i/\i<cs.length/\(i=1\/z1l cs i (rt cs i)=true)
structure Core (cs:List Cl) (l:List Int):Prop where
 seg:Seg cs 0 l 1
 two:2<=cs.length
 g0:gn cs 0=false
 g1:gn cs 1=false
 rng:∀i,i∈l->0<=i/\i<cs.length
 clo:∀i,TT cs i->i≠1->TT cs (rt cs i)
 inl:∀i:Int,2<=i->i<cs.length->gn cs i=false->i∈l
theorem Core.rng0 {cs:List Cl}{l:List Int}(h:Core cs l){i:Int}(hi:i∈0::l):0<=i/\i<cs.length:=by
 have:=h.two;rcases qw.1 hi with e|e
 ·omega
 ·exact h.rng i e
theorem Core.at {cs:List Cl}{l:List Int}(h:Core cs l){p:Int}(hp:p∈0::l)(h1:p≠1):
  ∃A B,l=A++rt cs p::B/\Seg cs 0 A p/\Seg cs p (rt cs p::B) 1:=by
 obtain⟨A,B,e,hA,hB⟩:=h.seg.split hp
 cases B with
 |nil=>exact absurd hB h1
 |cons y B=>
  have:=hB.2.1;subst this;exact⟨A,B,e,hA,hB⟩
theorem Core.next_mem {cs:List Cl}{l:List Int}(h:Core cs l){p:Int}(hp:p∈0::l)(h1:p≠1):rt cs p∈l/\z1l cs p (rt cs p)=true:=by
 obtain⟨A,B,e,_,hB⟩:=h.at hp h1;exact⟨by rw[e];exact Qg _ (qm ..),hB.2.2.1⟩
theorem Core.mem_T {cs:List Cl}{l:List Int}(h:Core cs l){i:Int}(hi:i∈0::l):TT cs i:=by
 have hr:=h.rng0 hi;refine⟨hr.1,hr.2,?_⟩
 by_cases h1:i=1
 ·exact .inl h1
 ·exact .inr (h.next_mem hi h1).2
theorem Core.live {cs:List Cl}{l:List Int}(h:Core cs l){i:Int}(h0:0<=i)(hn:i<cs.length)(hg:gn cs i=false):i∈0::l:=by
 by_cases e0:i=0
 ·subst e0;exact qm ..
 by_cases e1:i=1
 ·subst e1;exact h.seg.ends
 exact qo _ (h.inl i (by omega) hn hg)
theorem Core.above {cs:List Cl}{l:List Int}(h:Core cs l){a b:Int}(ha:a∈0::l)(h1:a≠1)(hb:b∈0::l):b=a\/z1l cs b a=true\/b=rt cs a\/z1l cs (rt cs a) b=true:=by
 obtain⟨A,B,e,hA,hB⟩:=h.at ha h1;rw[e] at hb;rcases qw.1 hb with e1|e1
 ·rcases hA.mem_le (x:=b) (by rw[e1];exact qm ..) with g|g
  ·exact .inl g
  ·exact .inr (.inl g)
 ·rcases qR.1 e1 with e2|e2
  ·rcases hA.mem_le (x:=b) (qo _ e2) with g|g
   ·exact .inl g
   ·exact .inr (.inl g)
  ·rcases qw.1 e2 with e3|e3
   ·exact .inr (.inr (.inl e3))
   ·exact .inr (.inr (.inr (hB.2.2.2.ge e3)))
theorem Core.gap {cs:List Cl}{l:List Int}(h:Core cs l){a c:Int}(ha:a∈0::l)(h1:z1l cs a c=true)(h2:z1l cs c (rt cs a)=true):c∉0::l:=by
 intro hc;have hne:a≠1:=(z1p.1 h1).2.1;rcases h.above ha hne hc with e|e|e|e
 ·exact z4z h1 e.symm
 ·have:=less_asym h1;rw[e] at this;cases this
 ·exact z4z h2 e
 ·have:=less_asym h2;rw[e] at this;cases this
theorem Core.gap_uniq {cs:List Cl}{l:List Int}(h:Core cs l){a b c:Int}(ha:a∈0::l)(hb:b∈0::l)(h1:z1l cs a c=true)(h2:z1l cs c (rt cs a)=true)(h3:z1l cs b c=true)(h4:z1l cs c (rt cs b)=true):a=b:=by
 have key:∀{a b:Int},a∈0::l->b∈0::l->z1l cs a c=true->z1l cs c (rt cs a)=true->z1l cs b c=true->b=a\/z1l cs b a=true:=fun {a b} ha hb h1 h2 h3=>by
  rcases h.above ha (z1p.1 h1).2.1 hb with e|e|e|e
  ·exact .inl e
  ·exact .inr e
  ·have:=less_asym h3;rw[<-e] at h2;rw[h2] at this;cases this
  ·have:=z2o h3 (z2o h2 e);rw[lessC_irr] at this;cases this
 rcases key ha hb h1 h2 h3 with e|e
 ·exact e.symm
 ·rcases key hb ha h3 h4 h1 with e'|e'
  ·exact e'
  ·have:=less_asym e;rw[e'] at this;cases this
theorem Core.inj {cs:List Cl}{l:List Int}(h:Core cs l){a b:Int}(ha:a∈0::l)(hb:b∈0::l)(h1:a≠1)(h2:b≠1)(e:rt cs a=rt cs b):a=b:=by
 have key:∀{a b:Int},a∈0::l->b∈0::l->a≠1->b≠1->rt cs a=rt cs b->b=a\/z1l cs b a=true:=fun {a b} ha hb h1 h2 e=>by
  have hb2:=(h.next_mem hb h2).2;rcases h.above ha h1 hb with g|g|g|g
  ·exact .inl g
  ·exact .inr g
  ·rw[e] at g;rw[<-g,lessC_irr] at hb2;cases hb2
  ·rw[e] at g;have:=less_asym hb2;rw[g] at this;cases this
 rcases key ha hb h1 h2 e with g|g
 ·exact g.symm
 ·rcases key hb ha h2 h1 e.symm with g'|g'
  ·exact g'
  ·have:=less_asym g;rw[g'] at this;cases this
theorem TT.same {cs ds:List Cl}(hk:z3w cs ds){i:Int}(hr:rt ds i=rt cs i):TT ds i↔TT cs i:=by
 unfold TT;rw[hk.len,hr,hk.less]
theorem Core.same {cs ds:List Cl}{l:List Int}(h:Core cs l)(hk:z3w cs ds)(hr:∀i:Int,0<=i->rt ds i=rt cs i)(hg:∀i:Int,0<=i->gn ds i=gn cs i):Core ds l:=by
 refine⟨h.seg.frame hk fun x hx _=>hr x (h.rng0 hx).1,by rw[hk.len];exact h.two,by rw[hg 0 (by omega)];exact h.g0,by rw[hg 1 (by omega)];exact h.g1,fun i hi=>by rw[hk.len];exact h.rng i hi,fun i hi h1=> ?_,fun i h2 hn hgi=> ?_⟩
 ·have hi':=(TT.same hk (hr i hi.1)).1 hi;have h3:=h.clo i hi' h1;rw[hr i hi.1];exact(TT.same hk (hr _ h3.1)).2 h3
 ·rw[hk.len] at hn;rw[hg i (by omega)] at hgi;exact h.inl i h2 hn hgi
theorem Core.mark {cs:List Cl}{l:List Int}(h:Core cs l){c:Int}(hc:2<=c/\c<cs.length):Core (setG cs c) l:=by
 have hr:0<=c/\c<cs.length:=⟨by omega,hc.2⟩;have hk:=key_setG cs c;refine⟨h.seg.frame hk fun x hx _=>rt_setG hr (h.rng0 hx).1,by rw[hk.len];exact h.two,?_,?_,fun i hi=>by rw[hk.len];exact h.rng i hi,fun i hi h1=> ?_,fun i h2 hn hgi=> ?_⟩
 ·rw[gn_setG hr (by omega),qb (by omega)];exact h.g0
 ·rw[gn_setG hr (by omega),qb (by omega)];exact h.g1
 ·have hi':=(TT.same hk (rt_setG hr hi.1)).1 hi;have h3:=h.clo i hi' h1;rw[rt_setG hr hi.1];exact(TT.same hk (rt_setG hr h3.1)).2 h3
 ·rw[hk.len] at hn;rw[gn_setG hr (by omega)] at hgi
  split at hgi
  ·cases hgi
  ·exact h.inl i h2 hn hgi
theorem Core.lay {cs:List Cl}{l:List Int}(h:Core cs l){c a s:Int}(hc:2<=c/\c<cs.length)(hn:c∉0::l)(hs:TT cs s)(hcs:z1l cs c s=true):Core (z2p (z4g cs c a) c s) l/\∀i,TT (z2p (z4g cs c a) c s) i↔TT cs i\/i=c:=by
 have hr:0<=c/\c<cs.length:=⟨by omega,hc.2⟩;have hkF:=z58 cs c a;have hrF:0<=c/\c<(z4g cs c a).length:=by rw[hkF.len];exact hr
 have hk:z3w cs (z2p (z4g cs c a) c s):=hkF.trans (z4c _ c s);have hrt:∀i:Int,0<=i->rt (z2p (z4g cs c a) c s) i=if i=c then s else rt cs i:=fun i hi=>by rw[rt_setR hrF hi,z37 hr hi]
 have hgn:∀i:Int,0<=i->gn (z2p (z4g cs c a) c s) i=gn cs i:=fun i hi=>by rw[gn_setR hrF hi,z4k hr hi]
 have hT:∀i,TT (z2p (z4g cs c a) c s) i↔TT cs i\/i=c:=fun i=>by
  by_cases e:i=c
  ·subst e;refine⟨fun _=> .inr rfl,fun _=>⟨hr.1,by rw[hk.len];exact hr.2,.inr ?_⟩⟩;rw[hrt i hr.1,qf rfl,hk.less];exact hcs
  ·constructor
   ·intro hi;exact .inl ((TT.same hk (by rw[hrt i hi.1,qb e])).1 hi)
   ·rintro(hi|hi)
    ·exact(TT.same hk (by rw[hrt i hi.1,qb e])).2 hi
    ·exact absurd hi e
 refine⟨⟨h.seg.frame hk fun x hx _=> ?_,by rw[hk.len];exact h.two,by rw[hgn 0 (by omega)];exact h.g0,by rw[hgn 1 (by omega)];exact h.g1,fun i hi=>by rw[hk.len];exact h.rng i hi,fun i hi h1=> ?_,fun i h2 hn hgi=> ?_⟩,hT⟩
 ·rw[hrt x (h.rng0 hx).1,qb (show¬x=c from fun e=>hn (e ▸ hx))]
 ·rw[hrt i hi.1]
  split
  ·exact(hT s).2 (.inl hs)
  ·rename_i e;rcases(hT i).1 hi with g|g
   ·exact(hT _).2 (.inl (h.clo i g h1))
   ·exact absurd g e
 ·rw[hk.len] at hn;rw[hgn i (by omega)] at hgi;exact h.inl i h2 hn hgi
theorem Core.insert {cs:List Cl}{l:List Int}(h:Core cs l){p c:Int}(hp:p∈0::l)(hc:2<=c/\c<cs.length)(hpc:z1l cs p c=true)(hcs:z1l cs c (rt cs p)=true)(hrc:rt cs c=rt cs p):
  ∃A B,l=A++rt cs p::B/\Core (setU (z2p cs p c) c) (A++c::rt cs p::B)/\∀i,TT (setU (z2p cs p c) c) i↔TT cs i:=by
 have h1:p≠1:=(z1p.1 hpc).2.1;obtain⟨A,B,e,hA,hB⟩:=h.at hp h1;have hr:=h.rng0 hp;have hcr:0<=c/\c<cs.length:=⟨by omega,hc.2⟩;have hcn:=h.gap hp hpc hcs;have hkR:=z4c cs p c;have hcR:0<=c/\c<(z2p cs p c).length:=by rw[hkR.len];exact hcr
 have hk:z3w cs (setU (z2p cs p c) c):=hkR.trans (key_setU _ c);have hrt:∀i:Int,0<=i->rt (setU (z2p cs p c) c) i=if i=p then c else rt cs i:=fun i hi=>by rw[rt_setU hcR hi,rt_setR hr hi]
 have hgn:∀i:Int,0<=i->gn (setU (z2p cs p c) c) i=if i=c then false else gn cs i:=fun i hi=>by rw[gn_setU hcR hi,gn_setR hr hi]
 have hT:∀i,TT (setU (z2p cs p c) c) i↔TT cs i:=fun i=>by
  by_cases e:i=p
  ·subst e;refine⟨fun _=>h.mem_T hp,fun _=>⟨hr.1,by rw[hk.len];exact hr.2,.inr ?_⟩⟩;rw[hrt i hr.1,qf rfl,hk.less];exact hpc
  ·constructor
   ·intro hi;exact(TT.same hk (by rw[hrt i hi.1,qb e])).1 hi
   ·intro hi;exact(TT.same hk (by rw[hrt i hi.1,qb e])).2 hi
 have hcT:TT cs c:=⟨hcr.1,hcr.2,.inr (by rw[hrc];exact hcs)⟩;obtain⟨b1,b2,b3,b4⟩:=hB;have hmem:∀x,x∈A++rt cs p::B->x∈l:=fun x hx=>by rw[e];exact hx
 refine⟨A,B,e,⟨Seg.append.2 ⟨p,hA.frame hk fun x hx hxp=> ?_,⟨h1,?_,?_,⟨by omega,?_,?_,b4.frame hk fun x hx _=> ?_⟩⟩⟩,by rw[hk.len];exact h.two,?_,?_,fun i hi=> ?_,fun i hi h1'=> ?_,fun i h2 hn hgi=> ?_⟩,hT⟩
 ·have hx0:x∈0::l:=by
   rcases qw.1 hx with e1|e1
   ·rw[e1];exact qm ..
   ·rw[e];exact qo _ (Qx _ e1)
  rw[hrt x (h.rng0 hx0).1,qb hxp]
 ·rw[hrt p hr.1,qf rfl]
 ·rw[hk.less];exact hpc
 ·rw[hrt c hcr.1,qb (z4z hpc).symm,hrc]
 ·rw[hk.less];exact hcs
 ·have hx0:x∈0::l:=qo _ (hmem x (Qg _ hx))
  have hxp:x≠p:=by
   rcases qw.1 hx with e1|e1
   ·exact e1 ▸ (z4z b3).symm
   ·exact(z4z (z2o b3 (b4.ge e1))).symm
  rw[hrt x (h.rng0 hx0).1,qb hxp]
 ·rw[hgn 0 (by omega),qb (by omega)];exact h.g0
 ·rw[hgn 1 (by omega),qb (by omega)];exact h.g1
 ·rw[hk.len];rcases qR.1 hi with hi|hi
  ·exact h.rng i (hmem i (Qx _ hi))
  ·rcases qw.1 hi with e1|e1
   ·exact e1 ▸ hcr
   ·exact h.rng i (hmem i (Qg _ e1))
 ·have hi':=(hT i).1 hi;rw[hrt i hi.1]
  split
  ·exact(hT c).2 hcT
  ·exact(hT _).2 (h.clo i hi' h1')
 ·rw[hk.len] at hn;rw[hgn i (by omega)] at hgi
  split at hgi
  ·rename_i e1;subst e1;exact Qg _ (qm ..)
  ·have:=h.inl i h2 hn hgi;rw[e] at this;rcases qR.1 this with e1|e1
   ·exact Qx _ e1
   ·exact Qg _ (qo _ e1)
theorem Core.unlink {cs:List Cl}{l:List Int}(h:Core cs l){p c:Int}(hp:p∈0::l)(h1:p≠1)(hs:rt cs p=c)(hg:gn cs c=true):
  ∃A B,l=A++c::rt cs c::B/\Core (z2p cs p (rt cs c)) (A++rt cs c::B)/\∀i,TT (z2p cs p (rt cs c)) i↔TT cs i:=by
 obtain⟨A,B,e,hA,hB⟩:=h.at hp h1;rw[hs] at e hB;have hr:=h.rng0 hp;have hs1:c≠1:=by intro e1;rw[e1,h.g1] at hg;cases hg
 have hk:=z4c cs p (rt cs c);obtain⟨b1,b2,b3,b4⟩:=hB
 cases B with
 |nil=>exact absurd b4 hs1
 |cons y B=>
  have b5:=b4.2.1;subst b5;obtain⟨b6,b7,b8,b9⟩:=b4;have hpn:=z2o b3 b8;have hrt:∀i:Int,0<=i->rt (z2p cs p (rt cs c)) i=if i=p then rt cs c else rt cs i:=fun i hi=>rt_setR hr hi;have hgn:∀i:Int,0<=i->gn (z2p cs p (rt cs c)) i=gn cs i:=fun i hi=>gn_setR hr hi
  have hT:∀i,TT (z2p cs p (rt cs c)) i↔TT cs i:=fun i=>by
   by_cases e:i=p
   ·subst e;refine⟨fun _=>h.mem_T hp,fun _=>⟨hr.1,by rw[hk.len];exact hr.2,.inr ?_⟩⟩;rw[hrt i hr.1,qf rfl,hk.less];exact hpn
   ·constructor
    ·intro hi;exact(TT.same hk (by rw[hrt i hi.1,qb e])).1 hi
    ·intro hi;exact(TT.same hk (by rw[hrt i hi.1,qb e])).2 hi
  have hmem:∀x,x∈A++rt cs c::B->x∈l:=fun x hx=>by
   rw[e];rcases qR.1 hx with hx|hx
   ·exact Qx _ hx
   ·exact Qg _ (qo _ hx)
  have hnp:∀x,x∈rt cs c::B->x≠p:=fun x hx=>by
   rcases qw.1 hx with e1|e1
   ·exact e1 ▸ (z4z hpn).symm
   ·exact(z4z (z2o hpn (b9.ge e1))).symm
  have hcl:c∈l:=by rw[e];exact Qg _ (qm ..)
  refine⟨A,B,e,⟨Seg.append.2 ⟨p,hA.frame hk fun x hx hxp=> ?_,⟨h1,?_,?_,b9.frame hk fun x hx _=> ?_⟩⟩,by rw[hk.len];exact h.two,?_,?_,fun i hi=>by rw[hk.len];exact h.rng i (hmem i hi),fun i hi h1'=> ?_,fun i h2 hn hgi=> ?_⟩,hT⟩
  ·have hx0:x∈0::l:=by
    rcases qw.1 hx with e1|e1
    ·rw[e1];exact qm ..
    ·rw[e];exact qo _ (Qx _ e1)
   rw[hrt x (h.rng0 hx0).1,qb hxp]
  ·rw[hrt p hr.1,qf rfl]
  ·rw[hk.less];exact hpn
  ·rw[hrt x (h.rng x (hmem x (Qg _ hx))).1,qb (hnp x hx)]
  ·rw[hgn 0 (by omega)];exact h.g0
  ·rw[hgn 1 (by omega)];exact h.g1
  ·have hi':=(hT i).1 hi;rw[hrt i hi.1]
   split
   ·exact(hT _).2 (h.clo c (h.mem_T (qo _ hcl)) hs1)
   ·exact(hT _).2 (h.clo i hi' h1')
  ·rw[hk.len] at hn;rw[hgn i (by omega)] at hgi;have:=h.inl i h2 hn hgi;rw[e] at this;rcases qR.1 this with e1|e1
   ·exact Qx _ e1
   ·rcases qw.1 e1 with e2|e2
    ·rw[e2,hg] at hgi;cases hgi
    ·exact Qg _ e2
end
section
def hol (x:Pr)(i:Int):Bool:= !(x.kind==3|| !z48 x||x.phase==1||x.phase==2) && (i==x.pred||(i==x.succ && x.phase !=3)||(i==x.next && x.next !=0 && decide (10<=x.phase/\x.phase<=13)))
structure PI (cs:List Cl) (x:Pr):Prop where
 c2:2<=x.cell
 pT:TT cs x.pred
 pl:z1l cs x.pred x.cell=true
 sT:TT cs x.succ
 nx:x.phase<=9->x.next=0
 ge:x.phase≠1->z1l cs x.succ x.cell=false
 k3:x.phase≠1->x.phase≠4->x.kind≠3
 gp:6<=x.phase->x.phase<=12->gn cs x.pred=false
 i67:x.phase=6\/x.phase=7->x.kind=1/\z1l cs x.cell x.succ=true/\gn cs x.succ=false/\rt cs x.pred=x.succ
 i7:x.phase=7->rt cs x.cell=x.succ/\lf cs x.cell=x.pred
 i8:x.phase=8->x.kind=1/\z1l cs x.cell x.succ=true/\gn cs x.succ=false/\rt cs x.pred=x.cell/\rt cs x.cell=x.succ
 r9:x.phase=9\/x.phase=10\/x.phase=11->x.kind=2/\x.succ=x.cell/\rt cs x.pred=x.cell
 r90:x.phase=9\/x.phase=10->gn cs x.cell=false
 r10:x.phase=10\/x.phase=11->x.next=rt cs x.cell/\gn cs x.next=false/\z1l cs x.cell x.next=true
 r11:x.phase=11->gn cs x.cell=true
 r12:x.phase=12->x.kind=2/\rt cs x.pred=x.next/\gn cs x.next=false/\z1l cs x.pred x.next=true
structure Inv (cs:List Cl) (ps:List Pr) (l:List Int):Prop where
 vb:z2w cs ps=true
 core:Core cs l
 gin:∀i,i∈l->gn cs i=true->∃q,q<ps.length/\(pr ps q).phase=11/\(pr ps q).cell=i
 lks:∀i:Int,0<=i->i<cs.length->∀q,q<ps.length->(lkK cs i=(q:Int)+1↔hol (pr ps q) i=true)
 prc:∀q,q<ps.length->z48 (pr ps q)=true->PI cs (pr ps q)
 lef:∀i,i∈0::l->i≠1->lf cs (rt cs i)=i\/∃q,q<ps.length/\((pr ps q).phase=8/\(pr ps q).cell=i/\(pr ps q).succ=rt cs i\/(pr ps q).phase=12/\(pr ps q).pred=i/\(pr ps q).next=rt cs i)
theorem act_iff {x:Pr}:z48 x=true↔x.phase≠0/\x.phase≠18:=by simp[z48]
theorem hol_pred {x:Pr}(ha:3<=x.phase)(h18:x.phase≠18)(hk:x.kind≠3):hol x x.pred=true:=by
 have h0:z48 x=true:=act_iff.2 ⟨by omega,h18⟩;simp[hol,h0,hk];omega
theorem hol_succ {x:Pr}(ha:4<=x.phase)(h18:x.phase≠18)(hk:x.kind≠3):hol x x.succ=true:=by
 have h0:z48 x=true:=act_iff.2 ⟨by omega,h18⟩;simp[hol,h0,hk];omega
theorem hol_next {x:Pr}(ha:10<=x.phase)(hb:x.phase<=13)(hn:x.next≠0)(hk:x.kind≠3):hol x x.next=true:=by
 have h0:z48 x=true:=act_iff.2 ⟨by omega,by omega⟩;simp[hol,h0,hk,hn];omega
theorem Inv.excl {cs:List Cl}{ps:List Pr}{l:List Int}(h:Inv cs ps l){p q:Nat}(hp:p<ps.length)(hq:q<ps.length)(hne:q≠p){i:Int}(h1:hol (pr ps p) i=true)(h2:hol (pr ps q) i=true)(h0:0<=i)(hn:i<cs.length):False:=by
 have e1:=(h.lks i h0 hn p hp).2 h1;have e2:=(h.lks i h0 hn q hq).2 h2;omega
theorem PI.mono {cs ds:List Cl}{x:Pr}(h:PI cs x)(hk:z3w cs ds)(hT:∀i,TT cs i->TT ds i)
  (hp:6<=x.phase->x.phase<=12->gn ds x.pred=gn cs x.pred/\rt ds x.pred=rt cs x.pred)
  (hs:6<=x.phase->x.phase<=8->gn ds x.succ=gn cs x.succ)
  (h9:x.phase=9\/x.phase=10\/x.phase=11->gn ds x.cell=gn cs x.cell)
  (hc:x.phase=7\/x.phase=8\/x.phase=10\/x.phase=11->rt ds x.cell=rt cs x.cell)
  (h7:x.phase=7->lf ds x.cell=lf cs x.cell)
  (hn:10<=x.phase->x.phase<=12->gn ds x.next=gn cs x.next):PI ds x:=by
 refine⟨h.c2,hT _ h.pT,by rw[hk.less];exact h.pl,hT _ h.sT,h.nx,fun e=>by rw[hk.less];exact h.ge e,h.k3,fun e1 e2=>by rw[(hp e1 e2).1];exact h.gp e1 e2,fun e=> ?_,fun e=> ?_,fun e=> ?_,fun e=> ?_,fun e=> ?_,fun e=> ?_,fun e=> ?_,fun e=> ?_⟩
 ·have:=h.i67 e;rw[hk.less,hs (by omega) (by omega),(hp (by omega) (by omega)).2];exact this
 ·rw[hc (by omega),h7 e];exact h.i7 e
 ·rw[hk.less,hs (by omega) (by omega),(hp (by omega) (by omega)).2,hc (by omega)];exact h.i8 e
 ·rw[(hp (by omega) (by omega)).2];exact h.r9 e
 ·rw[h9 (by omega)];exact h.r90 e
 ·rw[hc (by omega),hn (by omega) (by omega),hk.less];exact h.r10 e
 ·rw[h9 (by omega)];exact h.r11 e
 ·rw[(hp (by omega) (by omega)).2,hn (by omega) (by omega),hk.less];exact h.r12 e
theorem Inv.next {cs ds:List Cl}{ps:List Pr}{l l':List Int}(h:Inv cs ps l){p:Nat}{y:Pr}(hp:p<ps.length)(hk:z3w cs ds)
  (hc:∀i:Int,0<=i->i<cs.length->(0<=lf ds i/\lf ds i<cs.length)/\(0<=rt ds i/\rt ds i<cs.length))
  (hl:∀i:Int,0<=i->i<cs.length->lkK ds i=if hol y i=true then(p:Int)+1 else if lkK cs i=(p:Int)+1 then 0 else lkK cs i)
  (hl0:∀i:Int,0<=i->i<cs.length->hol y i=true->lkK cs i=0\/lkK cs i=(p:Int)+1)
  (hy:PrOk cs.length y) (hyk:y.kind=(pr ps p).kind) (hph:1<=y.phase/\(y.phase<=13\/y.phase=18)) (ha:z48 (pr ps p)=true)
  (hcore:Core ds l')
  (hg:∀i,i∈l'->gn ds i=true->∃q,q<ps.length/\((q≠p/\(pr ps q).phase=11/\(pr ps q).cell=i)\/(q=p/\y.phase=11/\y.cell=i)))
  (hPo:∀q,q≠p->q<ps.length->z48 (pr ps q)=true->PI ds (pr ps q))
  (hPI:z48 y=true->PI ds y)
  (hlef:∀i,i∈0::l'->i≠1->lf ds (rt ds i)=i\/∃q,q<ps.length/\((q≠p/\((pr ps q).phase=8/\(pr ps q).cell=i/\(pr ps q).succ=rt ds i\/(pr ps q).phase=12/\(pr ps q).pred=i/\(pr ps q).next=rt ds i))\/(q=p/\(y.phase=8/\y.cell=i/\y.succ=rt ds i\/y.phase=12/\y.pred=i/\y.next=rt ds i)))):Inv ds (ps.set p y) l':=by
 have hv:=vld_of h.vb;refine⟨?_,hcore,fun i hi hgi=> ?_,fun i h0 hn q hq=> ?_,fun q h1 h2=> ?_,fun i hi h1=> ?_⟩
 ·refine valid_mk h.vb hk (by simp) (fun i hi=> ?_) fun i hi=> ?_
  ·have h1:=hc i (by omega) (by omega);have h2:=hl i (by omega) (by omega);have h3:=hv.cell i hi;have h3':0<=lkK cs (i:Int)/\lkK cs (i:Int)<=ps.length:=h3.2.2
   have h4:0<=lkK ds (i:Int)/\lkK ds (i:Int)<=ps.length:=by
    rw[h2]
    split
    ·omega
    ·split<;>omega
   exact⟨h1.1,h1.2,h4⟩
  ·by_cases e:p=i
   ·subst e;rw[z3i hp,hyk];have h3:=hv.kind p hi;refine⟨hy,by simp only[z2c,qj];omega,h3.1,h3.2.1,fun e=> ?_,fun e=>absurd e (by omega)⟩;have:=h3.2.2.1 e;exact absurd this (act_iff.1 ha).1
   ·rw[z2b e];have h3:=hv.kind i hi;exact⟨hv.proc i hi,hv.phase i hi,h3.1,h3.2.1,h3.2.2⟩
 ·obtain⟨q,h1,h2⟩:=hg i hi hgi;refine⟨q,by simpa using h1,?_⟩;rcases h2 with⟨e,h2⟩|⟨e,h2⟩
  ·rw[z2b (Qv e)];exact h2
  ·subst e;rw[z3i hp];exact h2
 ·rw[hk.len] at hn;rw[qC] at hq;have h1:=hl i h0 hn;have h2:=h.lks i h0 hn
  by_cases e:p=q
  ·subst e;rw[z3i hp,h1]
   split
   ·rename_i g;simp[g]
   ·rename_i g
    split
    ·simp[g];omega
    ·rename_i g2;simp[g,g2]
  ·rw[z2b e,h1,<-h2 q hq]
   split
   ·rename_i g;have:=hl0 i h0 hn g;omega
   ·split<;>omega
 ·rw[qC] at h1
  by_cases e:p=q
  ·subst e;rw[z3i hp] at h2 ⊢;exact hPI h2
  ·rw[z2b e] at h2 ⊢;exact hPo q (Qv e) h1 h2
 ·rcases hlef i hi h1 with g|⟨q,g1,g2⟩
  ·exact .inl g
  ·refine .inr ⟨q,by simpa using g1,?_⟩;rcases g2 with⟨e,g2⟩|⟨e,g2⟩
   ·rw[z2b (Qv e)];exact g2
   ·subst e;rw[z3i hp];exact g2
theorem rt_in {cs:List Cl}{ps:List Pr}(hv:Vld cs ps){i:Int}(h0:0<=i)(hn:i<cs.length):0<=rt cs i/\rt cs i<cs.length:=(hv.cell i.toNat (by omega)).2.1
theorem lf_in {cs:List Cl}{ps:List Pr}(hv:Vld cs ps){i:Int}(h0:0<=i)(hn:i<cs.length):0<=lf cs i/\lf cs i<cs.length:=(hv.cell i.toNat (by omega)).1
theorem Inv.quiet {cs ds:List Cl}{ps:List Pr}{l:List Int}(h:Inv cs ps l){p:Nat}{y:Pr}(hp:p<ps.length)(hk:z3w cs ds)
  (hsm:∀i:Int,0<=i->rt ds i=rt cs i/\gn ds i=gn cs i/\lf ds i=lf cs i)
  (hl:∀i:Int,0<=i->i<cs.length->lkK ds i=if hol y i=true then(p:Int)+1 else if lkK cs i=(p:Int)+1 then 0 else lkK cs i)
  (hl0:∀i:Int,0<=i->i<cs.length->hol y i=true->lkK cs i=0\/lkK cs i=(p:Int)+1)
  (hy:PrOk cs.length y) (hyk:y.kind=(pr ps p).kind) (hph:1<=y.phase/\(y.phase<=13\/y.phase=18)) (ha:z48 (pr ps p)=true)
  (h8:(pr ps p).phase≠8) (h11:(pr ps p).phase≠11) (h12:(pr ps p).phase≠12)
  (hPI:z48 y=true->PI cs y):Inv ds (ps.set p y) l:=by
 have hv:=vld_of h.vb;have hT:∀i,TT cs i->TT ds i:=fun i hi=>(TT.same hk (hsm i hi.1).1).2 hi;have hmono:∀{x:Pr},PI cs x->PrOk cs.length x->PI ds x:=fun {x} g ok=>g.mono hk hT (fun _ _=>⟨(hsm _ ok.pred.1).2.1,(hsm _ ok.pred.1).1⟩) (fun _ _=>(hsm _ ok.succ.1).2.1) (fun _=>(hsm _ ok.cell.1).2.1) (fun _=>(hsm _ ok.cell.1).1) (fun _=>(hsm _ ok.cell.1).2.2) fun _ _=>(hsm _ ok.next.1).2.1;refine h.next hp hk (fun i h0 hn=> ?_) hl hl0 hy hyk hph ha (h.core.same hk (fun i hi=>(hsm i hi).1) fun i hi=>(hsm i hi).2.1) (fun i hi hg=> ?_) (fun q _ h1 h2=>hmono (h.prc q h1 h2) (hv.proc q h1)) (fun e=>hmono (hPI e) hy) fun i hi h1=> ?_
 ·rw[(hsm i h0).1,(hsm i h0).2.2];exact⟨lf_in hv h0 hn,rt_in hv h0 hn⟩
 ·rw[(hsm i (h.core.rng i hi).1).2.1] at hg;obtain⟨q,g1,g2,g3⟩:=h.gin i hi hg;exact⟨q,g1,.inl ⟨fun e=>h11 (e ▸ g2),g2,g3⟩⟩
 ·have h0:=h.core.rng0 hi;have h2:=rt_in hv h0.1 h0.2;rw[(hsm i h0.1).1,(hsm _ h2.1).2.2];rcases h.lef i hi h1 with g|⟨q,g1,g2⟩
  ·exact .inl g
  ·refine .inr ⟨q,g1,.inl ⟨fun e=> ?_,g2⟩⟩;subst e;rcases g2 with g2|g2
   ·exact h8 g2.1
   ·exact h12 g2.1
end
section
theorem z5o {cs ds:List Cl}{ps:List Pr}{l:List Int}(h:Inv cs ps l){p:Nat}{y:Pr}(hp:p<ps.length)(hh:∀i,hol y i=hol (pr ps p) i)(hd:∀i:Int,0<=i->lkK ds i=lkK cs i):
  (∀i:Int,0<=i->i<cs.length->lkK ds i=if hol y i=true then(p:Int)+1 else if lkK cs i=(p:Int)+1 then 0 else lkK cs i)/\∀i:Int,0<=i->i<cs.length->hol y i=true->lkK cs i=0\/lkK cs i=(p:Int)+1:=by
 refine⟨fun i h0 hn=> ?_,fun i h0 hn g=> ?_⟩
 ·have h1:=h.lks i h0 hn p hp;rw[hd i h0,hh]
  by_cases g:hol (pr ps p) i=true
  ·rw[qf g];exact h1.2 g
  ·rw[qb g,qb fun e=>g (h1.1 e)]
 ·rw[hh] at g;exact .inr ((h.lks i h0 hn p hp).2 g)
theorem hl_lock {cs:List Cl}{ps:List Pr}{l:List Int}(h:Inv cs ps l){p:Nat}{y:Pr}(hp:p<ps.length){c:Int}(hc:0<=c/\c<cs.length)(hf:lkK cs c=0)(hh:∀i,hol y i=(hol (pr ps p) i||i==c)):
  (∀i:Int,0<=i->i<cs.length->lkK (setK cs c (p+1)) i=if hol y i=true then(p:Int)+1 else if lkK cs i=(p:Int)+1 then 0 else lkK cs i)/\∀i:Int,0<=i->i<cs.length->hol y i=true->lkK cs i=0\/lkK cs i=(p:Int)+1:=by
 refine⟨fun i h0 hn=> ?_,fun i h0 hn g=> ?_⟩
 ·have h1:=h.lks i h0 hn p hp;rw[lk_setK hc h0,hh]
  by_cases e:i=c
  ·subst e;simp
  ·rw[qb e];have e':(i==c)=false:=by simpa using e
   rw[e',ji]
   by_cases g:hol (pr ps p) i=true
   ·rw[qf g];exact h1.2 g
   ·rw[qb g,qb fun e=>g (h1.1 e)]
 ·rw[hh] at g
  by_cases e:i=c
  ·subst e;exact .inl hf
  ·have e':(i==c)=false:=by simpa using e
   rw[e',ji] at g;exact .inr ((h.lks i h0 hn p hp).2 g)
theorem hl_free {cs:List Cl}{p:Nat}{y:Pr}(hh:∀i,hol y i=false):
  (∀i:Int,0<=i->i<cs.length->lkK (unlk cs p) i=if hol y i=true then(p:Int)+1 else if lkK cs i=(p:Int)+1 then 0 else lkK cs i)/\∀i:Int,0<=i->i<cs.length->hol y i=true->lkK cs i=0\/lkK cs i=(p:Int)+1:=by
 refine⟨fun i h0 hn=> ?_,fun i h0 hn g=> ?_⟩
 ·rw[lk_unlk,hh];rfl
 ·rw[hh] at g;cases g
theorem k3' {a:Int}(h:a≠3):(a==3)=false:=by simpa using h
theorem n0' {a:Int}(h:a≠0):(a !=0)=true:=by simpa using h
theorem fail_iff {cs:List Cl}{x:Pr}:failK cs x=false↔gn cs x.pred=false/\gn cs x.succ=false/\rt cs x.pred=x.succ:=by
 simp[failK,and_assoc]
structure Beside (cs:List Cl) (ps:List Pr) (l:List Int) (p q:Nat):Prop where
 z:PI cs (pr ps q)
 ok:PrOk cs.length (pr ps q)
 pm:6<=(pr ps q).phase->(pr ps q).phase<=12->(pr ps q).pred∈0::l
 cn:(pr ps q).phase=6\/(pr ps q).phase=7->(pr ps q).cell∉0::l
 cm:8<=(pr ps q).phase->(pr ps q).phase<=11->(pr ps q).cell∈0::l
 hp:6<=(pr ps q).phase->(pr ps q).phase<=12->hol (pr ps q) (pr ps q).pred=true
 hs:6<=(pr ps q).phase->(pr ps q).phase<=12->hol (pr ps q) (pr ps q).succ=true
 hn:10<=(pr ps q).phase->(pr ps q).phase<=12->hol (pr ps q) (pr ps q).next=true
theorem Inv.beside {cs:List Cl}{ps:List Pr}{l:List Int}(h:Inv cs ps l)(p:Nat){q:Nat}(hq:q<ps.length)(ha:z48 (pr ps q)=true):Beside cs ps l p q:=by
 have hz:=h.prc q hq ha;have ok:=(vld_of h.vb).proc q hq;have pm:6<=(pr ps q).phase->(pr ps q).phase<=12->(pr ps q).pred∈0::l:=fun e1 e2=>h.core.live ok.pred.1 ok.pred.2 (hz.gp e1 e2);have hne:(pr ps q).pred≠1:=(z1p.1 hz.pl).2.1;refine⟨hz,ok,pm,fun e=> ?_,fun e1 e2=> ?_,fun e1 e2=>hol_pred (by omega) (by omega) (hz.k3 (by omega) (by omega)),fun e1 e2=>hol_succ (by omega) (by omega) (hz.k3 (by omega) (by omega)),fun e1 e2=>hol_next (by omega) (by omega) ?_ (hz.k3 (by omega) (by omega))⟩
 ·obtain⟨_,g2,_,g4⟩:=hz.i67 e;exact h.core.gap (pm (by omega) (by omega)) hz.pl (g4 ▸ g2)
 ·have h1:=(h.core.next_mem (pm (by omega) (by omega)) hne).1
  by_cases e:(pr ps q).phase=8
  ·rw[(hz.i8 e).2.2.2.1] at h1;exact qo _ h1
  ·rw[(hz.r9 (by omega)).2.2] at h1;exact qo _ h1
 ·by_cases e:(pr ps q).phase=12
  ·exact(z1p.1 (hz.r12 e).2.2.2).2.2.1
  ·exact(z1p.1 (hz.r10 (by omega)).2.2).2.2.1
theorem Inv.step {cs ds:List Cl}{ps:List Pr}{l:List Int}{y:Pr}(h:Inv cs ps l){p:Nat}(hp:p<ps.length)(ha:z48 (pr ps p)=true)(t:Tr cs p (pr ps p) ds y):∃l',Inv ds (ps.set p y) l':=by
 have hv:=vld_of h.vb;have hx:=h.prc p hp ha;have ok:=hv.proc p hp;have two:=h.core.two;have h0r:0<=(0:Int)/\(0:Int)<cs.length:=by omega
 have hB:=h.beside p hp ha;have ex:∀q,q≠p->q<ps.length->∀{a b:Int},hol (pr ps p) a=true->hol (pr ps q) b=true->0<=a/\a<cs.length->b≠a:=fun q h1 h2 {a b} g1 g2 g3 e=>h.excl hp h2 h1 g1 (e ▸ g2) g3.1 g3.2;have same0:∀i:Int,0<=i->rt cs i=rt cs i/\gn cs i=gn cs i/\lf cs i=lf cs i:=fun _ _=>⟨rfl,rfl,rfl⟩;have hp1:(pr ps p).pred≠1:=(z1p.1 hx.pl).2.1;have hd:=dst_of h.vb
 cases t with
 |adv e hl=>
  have hs1:(pr ps p).succ≠1:=(z1p.1 hl).2.1;obtain⟨g1,g2⟩:=z5o h hp (y:={pr ps p with pred:=(pr ps p).succ,succ:=rt cs (pr ps p).succ}) (fun i=>by simp[hol,e]) (fun _ _=>rfl)
  exact⟨l,h.quiet hp (.refl _) same0 g1 g2 ⟨ok.cell,ok.succ,rt_in hv ok.succ.1 ok.succ.2,ok.next⟩ rfl (by dsimp only;omega) ha (by omega) (by omega) (by omega)
   fun _=>⟨hx.c2,hx.sT,hl,h.core.clo _ hx.sT hs1,hx.nx,fun g=>absurd e g,fun g=>absurd e g,fun g=>by dsimp only at g;omega,fun g=>by dsimp only at g;omega,fun g=>by dsimp only at g;omega,fun g=>by dsimp only at g;omega,fun g=>by dsimp only at g;omega,fun g=>by dsimp only at g;omega,fun g=>by dsimp only at g;omega,fun g=>by dsimp only at g;omega,fun g=>by dsimp only at g;omega⟩⟩
 |seek e hl hk=>
  obtain⟨g1,g2⟩:=z5o h hp (y:={pr ps p with phase:=4}) (fun i=>by simp[hol,e,hk]) (fun _ _=>rfl)
  exact⟨l,h.quiet hp (.refl _) same0 g1 g2 ⟨ok.cell,ok.pred,ok.succ,ok.next⟩ rfl (by dsimp only;omega) ha (by omega) (by omega) (by omega)
   fun _=>⟨hx.c2,hx.pT,hx.pl,hx.sT,fun _=>hx.nx (by omega),fun _=>hl,fun _ g=>absurd rfl g,fun g=>by dsimp only at g;omega,fun g=>by dsimp only at g;omega,fun g=>by dsimp only at g;omega,fun g=>by dsimp only at g;omega,fun g=>by dsimp only at g;omega,fun g=>by dsimp only at g;omega,fun g=>by dsimp only at g;omega,fun g=>by dsimp only at g;omega,fun g=>by dsimp only at g;omega⟩⟩
 |aim e hl hk=>
  obtain⟨g1,g2⟩:=z5o h hp (y:={pr ps p with phase:=2}) (fun i=>by simp[hol,e]) (fun _ _=>rfl)
  exact⟨l,h.quiet hp (.refl _) same0 g1 g2 ⟨ok.cell,ok.pred,ok.succ,ok.next⟩ rfl (by dsimp only;omega) ha (by omega) (by omega) (by omega)
   fun _=>⟨hx.c2,hx.pT,hx.pl,hx.sT,fun _=>hx.nx (by omega),fun _=>hl,fun _ _=>hk,fun g=>by dsimp only at g;omega,fun g=>by dsimp only at g;omega,fun g=>by dsimp only at g;omega,fun g=>by dsimp only at g;omega,fun g=>by dsimp only at g;omega,fun g=>by dsimp only at g;omega,fun g=>by dsimp only at g;omega,fun g=>by dsimp only at g;omega,fun g=>by dsimp only at g;omega⟩⟩
 |lockP e hf=>
  have k3:=hx.k3 (by omega) (by omega);obtain⟨g1,g2⟩:=hl_lock h hp (y:={pr ps p with phase:=3}) ok.pred hf (fun i=>by simp[hol,e,k3,z48])
  exact⟨l,h.quiet hp (key_setK ..) (fun i hi=>⟨rt_setK ok.pred hi,gn_setK ok.pred hi,lf_setK ok.pred hi⟩) g1 g2 ⟨ok.cell,ok.pred,ok.succ,ok.next⟩ rfl (by dsimp only;omega) ha (by omega) (by omega) (by omega)
   fun _=>⟨hx.c2,hx.pT,hx.pl,hx.sT,fun _=>hx.nx (by omega),fun _=>hx.ge (by omega),fun _ _=>k3,fun g=>by dsimp only at g;omega,fun g=>by dsimp only at g;omega,fun g=>by dsimp only at g;omega,fun g=>by dsimp only at g;omega,fun g=>by dsimp only at g;omega,fun g=>by dsimp only at g;omega,fun g=>by dsimp only at g;omega,fun g=>by dsimp only at g;omega,fun g=>by dsimp only at g;omega⟩⟩
 |lockS e hf=>
  have k3:=hx.k3 (by omega) (by omega);obtain⟨g1,g2⟩:=hl_lock h hp (y:={pr ps p with phase:=4}) ok.succ hf (fun i=>by simp[hol,e,k3' k3,z48])
  exact⟨l,h.quiet hp (key_setK ..) (fun i hi=>⟨rt_setK ok.succ hi,gn_setK ok.succ hi,lf_setK ok.succ hi⟩) g1 g2 ⟨ok.cell,ok.pred,ok.succ,ok.next⟩ rfl (by dsimp only;omega) ha (by omega) (by omega) (by omega)
   fun _=>⟨hx.c2,hx.pT,hx.pl,hx.sT,fun _=>hx.nx (by omega),fun _=>hx.ge (by omega),fun _ _=>k3,fun g=>by dsimp only at g;omega,fun g=>by dsimp only at g;omega,fun g=>by dsimp only at g;omega,fun g=>by dsimp only at g;omega,fun g=>by dsimp only at g;omega,fun g=>by dsimp only at g;omega,fun g=>by dsimp only at g;omega,fun g=>by dsimp only at g;omega,fun g=>by dsimp only at g;omega⟩⟩
 |found e hk=>
  obtain⟨g1,g2⟩:=z5o h hp (y:={pr ps p with res:=(pr ps p).succ==(pr ps p).cell && !gn cs (pr ps p).cell,phase:=18}) (fun i=>by simp[hol,hk]) (fun _ _=>rfl)
  exact⟨l,h.quiet hp (.refl _) same0 g1 g2 ⟨ok.cell,ok.pred,ok.succ,ok.next⟩ rfl (by dsimp only;omega) ha (by omega) (by omega) (by omega)
   fun g=>by simp[z48] at g⟩
 |again e hk hb=>
  have nx:=hx.nx (by omega);obtain⟨g1,g2⟩:=z5o h hp (y:={pr ps p with phase:=5}) (fun i=>by simp[hol,e,z48]) (fun _ _=>rfl)
  exact⟨l,h.quiet hp (.refl _) same0 g1 g2 ⟨ok.cell,ok.pred,ok.succ,ok.next⟩ rfl (by dsimp only;omega) ha (by omega) (by omega) (by omega)
   fun _=>⟨hx.c2,hx.pT,hx.pl,hx.sT,fun _=>nx,fun _=>hx.ge (by omega),fun _ _=>hk,fun g=>by dsimp only at g;omega,fun g=>by dsimp only at g;omega,fun g=>by dsimp only at g;omega,fun g=>by dsimp only at g;omega,fun g=>by dsimp only at g;omega,fun g=>by dsimp only at g;omega,fun g=>by dsimp only at g;omega,fun g=>by dsimp only at g;omega,fun g=>by dsimp only at g;omega⟩⟩
 |ins e hk hb hs=>
  have nx:=hx.nx (by omega);obtain⟨b1,b2,b3⟩:=fail_iff.1 hb;have hcs:=hd.total ok.succ ok.cell hs (hx.ge (by omega));obtain⟨g1,g2⟩:=z5o h hp (y:={pr ps p with phase:=6}) (fun i=>by simp[hol,e,z48]) (fun _ _=>rfl)
  exact⟨l,h.quiet hp (.refl _) same0 g1 g2 ⟨ok.cell,ok.pred,ok.succ,ok.next⟩ rfl (by dsimp only;omega) ha (by omega) (by omega) (by omega)
   fun _=>⟨hx.c2,hx.pT,hx.pl,hx.sT,fun _=>nx,fun _=>hx.ge (by omega),fun _ _=>by rw[hk];decide,fun _ _=>b1,fun _=>⟨hk,hcs,b2,b3⟩,fun g=>by dsimp only at g;omega,fun g=>by dsimp only at g;omega,fun g=>by dsimp only at g;omega,fun g=>by dsimp only at g;omega,fun g=>by dsimp only at g;omega,fun g=>by dsimp only at g;omega,fun g=>by dsimp only at g;omega⟩⟩
 |rem e hk hb hs=>
  have nx:=hx.nx (by omega);obtain⟨b1,b2,b3⟩:=fail_iff.1 hb;obtain⟨g1,g2⟩:=z5o h hp (y:={pr ps p with phase:=9}) (fun i=>by simp[hol,e,z48]) (fun _ _=>rfl)
  exact⟨l,h.quiet hp (.refl _) same0 g1 g2 ⟨ok.cell,ok.pred,ok.succ,ok.next⟩ rfl (by dsimp only;omega) ha (by omega) (by omega) (by omega)
   fun _=>⟨hx.c2,hx.pT,hx.pl,hx.sT,fun _=>nx,fun _=>hx.ge (by omega),fun _ _=>by rw[hk];decide,fun _ _=>b1,fun g=>by dsimp only at g;omega,fun g=>by dsimp only at g;omega,fun g=>by dsimp only at g;omega,fun _=>⟨hk,hs,hs ▸ b3⟩,fun _=>hs ▸ b2,fun g=>by dsimp only at g;omega,fun g=>by dsimp only at g;omega,fun g=>by dsimp only at g;omega⟩⟩
 |no e hk hb c1 c2=>
  have nx:=hx.nx (by omega);obtain⟨g1,g2⟩:=z5o h hp (y:={pr ps p with phase:=13}) (fun i=>by simp[hol,e,z48,nx]) (fun _ _=>rfl)
  exact⟨l,h.quiet hp (.refl _) same0 g1 g2 ⟨ok.cell,ok.pred,ok.succ,ok.next⟩ rfl (by dsimp only;omega) ha (by omega) (by omega) (by omega)
   fun _=>⟨hx.c2,hx.pT,hx.pl,hx.sT,fun _=>nx,fun _=>hx.ge (by omega),fun _ _=>hk,fun _ g=>by dsimp only at g;omega,fun g=>by dsimp only at g;omega,fun g=>by dsimp only at g;omega,fun g=>by dsimp only at g;omega,fun g=>by dsimp only at g;omega,fun g=>by dsimp only at g;omega,fun g=>by dsimp only at g;omega,fun g=>by dsimp only at g;omega,fun g=>by dsimp only at g;omega⟩⟩
 |retry e=>
  have nx:=hx.nx (by omega);have hT0:TT cs 0:=h.core.mem_T (qm ..);obtain⟨g1,g2⟩:=hl_free (cs:=cs) (p:=p) (y:={pr ps p with pred:=0,succ:=rt cs 0,phase:=1}) (fun i=>by simp[hol]);have c2:=hx.c2
  exact⟨l,h.quiet hp (key_unlk ..) (fun i _=>⟨rt_unlk ..,gn_unlk ..,lf_unlk ..⟩) g1 g2 ⟨ok.cell,h0r,rt_in hv h0r.1 h0r.2,ok.next⟩ rfl (by dsimp only;omega) ha (by omega) (by omega) (by omega)
   fun _=>⟨c2,hT0,z1p.2 ⟨by show(0:Int)≠(pr ps p).cell;omega,by show(0:Int)≠1;omega,by show(pr ps p).cell≠0;omega,.inl rfl⟩,h.core.clo 0 hT0 (by omega),fun _=>nx,fun g=>absurd rfl g,fun g=>absurd rfl g,fun g=>by dsimp only at g;omega,fun g=>by dsimp only at g;omega,fun g=>by dsimp only at g;omega,fun g=>by dsimp only at g;omega,fun g=>by dsimp only at g;omega,fun g=>by dsimp only at g;omega,fun g=>by dsimp only at g;omega,fun g=>by dsimp only at g;omega,fun g=>by dsimp only at g;omega⟩⟩
 |rel e=>
  obtain⟨g1,g2⟩:=hl_free (cs:=cs) (p:=p) (y:={pr ps p with phase:=18}) (fun i=>by simp[hol,z48])
  exact⟨l,h.quiet hp (key_unlk ..) (fun i _=>⟨rt_unlk ..,gn_unlk ..,lf_unlk ..⟩) g1 g2 ⟨ok.cell,ok.pred,ok.succ,ok.next⟩ rfl (by dsimp only;omega) ha (by omega) (by omega) (by omega)
   fun g=>by simp[z48] at g⟩
 |lockN e hf=>
  obtain⟨k2,hsc,hrp⟩:=hx.r9 (.inl e);have nx:=hx.nx (by omega);have hcm:=hB.cm (by omega) (by omega);have hc1:(pr ps p).cell≠1:=by have:=hx.c2;omega
  obtain⟨hnm,hcn⟩:=h.core.next_mem hcm hc1;have hnr:=h.core.rng _ hnm;have hn0:rt cs (pr ps p).cell≠0:=(z1p.1 hcn).2.2.1
  have hgn:gn cs (rt cs (pr ps p).cell)=false:=by
   cases hg:gn cs (rt cs (pr ps p).cell) with
   |false=>rfl
   |true=>
    obtain⟨q,q1,q2,q3⟩:=h.gin _ hnm hg;have hz:=h.prc q q1 (act_iff.2 (by omega));have:=(h.lks _ hnr.1 hnr.2 q q1).2 (by rw[<-q3,<-(hz.r9 (by omega)).2.1];exact hol_succ (by omega) (by omega) (hz.k3 (by omega) (by omega)));omega
  obtain⟨g1,g2⟩:=hl_lock h hp (y:={pr ps p with next:=rt cs (pr ps p).cell,phase:=10}) hnr hf (fun i=>by simp[hol,e,k2,z48,nx,n0' hn0,Bool.or_assoc])
  exact⟨l,h.quiet hp (key_setK ..) (fun i hi=>⟨rt_setK hnr hi,gn_setK hnr hi,lf_setK hnr hi⟩) g1 g2 ⟨ok.cell,ok.pred,ok.succ,hnr⟩ rfl (by dsimp only;omega) ha (by omega) (by omega) (by omega)
   fun _=>⟨hx.c2,hx.pT,hx.pl,hx.sT,fun g=>by dsimp only at g;omega,fun _=>hx.ge (by omega),fun _ _=>by rw[k2];decide,fun _ _=>hx.gp (by omega) (by omega),fun g=>by dsimp only at g;omega,fun g=>by dsimp only at g;omega,fun g=>by dsimp only at g;omega,fun _=>⟨k2,hsc,hrp⟩,fun _=>hx.r90 (.inl e),fun _=>⟨rfl,hgn,hcn⟩,fun g=>by dsimp only at g;omega,fun g=>by dsimp only at g;omega⟩⟩
 |link0 e=>
  obtain⟨k1,hcs,hgs,hrp⟩:=hx.i67 (.inl e);have nx:=hx.nx (by omega);have hcn:=hB.cn (.inl e);have hpm:=hB.pm (by omega) (by omega);have hc2:=hx.c2;obtain⟨hcore,hT⟩:=h.core.lay (a:=(pr ps p).pred) ⟨hc2,ok.cell.2⟩ hcn hx.sT hcs;have hkF:=z58 cs (pr ps p).cell (pr ps p).pred;have hrF:0<=(pr ps p).cell/\(pr ps p).cell<(z4g cs (pr ps p).cell (pr ps p).pred).length:=by rw[hkF.len];exact ok.cell
  have hk:=hkF.trans (z4c _ (pr ps p).cell (pr ps p).succ);have hrt:∀i:Int,0<=i->rt (z2p (z4g cs (pr ps p).cell (pr ps p).pred) (pr ps p).cell (pr ps p).succ) i=if i=(pr ps p).cell then(pr ps p).succ else rt cs i:=fun i hi=>by rw[rt_setR hrF hi,z37 ok.cell hi]
  have hgn:∀i:Int,0<=i->gn (z2p (z4g cs (pr ps p).cell (pr ps p).pred) (pr ps p).cell (pr ps p).succ) i=gn cs i:=fun i hi=>by rw[gn_setR hrF hi,z4k ok.cell hi]
  have hlf:∀i:Int,0<=i->lf (z2p (z4g cs (pr ps p).cell (pr ps p).pred) (pr ps p).cell (pr ps p).succ) i=if i=(pr ps p).cell then(pr ps p).pred else lf cs i:=fun i hi=>by rw[lf_setR hrF hi,lf_setF ok.cell hi]
  obtain⟨g1,g2⟩:=z5o h hp (y:={pr ps p with phase:=7}) (fun i=>by simp[hol,e,z48]) (fun i hi=>(lk_setR (v:=(pr ps p).succ) hrF hi).trans (lk_setF ok.cell hi));have hpc:=z4z hx.pl;have hsc:=z4z hcs;refine⟨l,h.next hp hk (fun i h0 hn=> ?_) g1 g2 ⟨ok.cell,ok.pred,ok.succ,ok.next⟩ rfl (by dsimp only;omega) ha hcore (fun i hi hg=> ?_) (fun q q1 q2 q3=> ?_) (fun _=>⟨hc2,(hT _).2 (.inl hx.pT),by rw[hk.less];exact hx.pl,(hT _).2 (.inl hx.sT),fun _=>nx,fun _=>by rw[hk.less];exact hx.ge (by omega),fun _ _=>by show(pr ps p).kind≠3;rw[k1];decide,fun _ _=>by rw[hgn _ ok.pred.1];exact hx.gp (by omega) (by omega),fun _=>⟨k1,by rw[hk.less];exact hcs,by rw[hgn _ ok.succ.1];exact hgs,?_⟩,fun _=>⟨?_,?_⟩,fun g=>by dsimp only at g;omega,fun g=>by dsimp only at g;omega,fun g=>by dsimp only at g;omega,fun g=>by dsimp only at g;omega,fun g=>by dsimp only at g;omega,fun g=>by dsimp only at g;omega⟩) fun i hi h1=> ?_⟩
  ·rw[hlf i h0,hrt i h0];refine⟨?_,?_⟩
   ·split
    ·exact ok.pred
    ·exact lf_in hv h0 hn
   ·split
    ·exact ok.succ
    ·exact rt_in hv h0 hn
  ·rw[hgn i (h.core.rng i hi).1] at hg;obtain⟨q,f1,f2,f3⟩:=h.gin i hi hg;exact⟨q,f1,.inl ⟨fun g=>by subst g;omega,f2,f3⟩⟩
  ·have b:=h.beside p q2 q3
   have hcne:(pr ps q).phase=7\/(pr ps q).phase=8\/(pr ps q).phase=10\/(pr ps q).phase=11->(pr ps q).cell≠(pr ps p).cell:=fun g g3=>by
    by_cases g7:(pr ps q).phase=7
    ·have f:=b.z.i67 (.inr g7);have:=h.core.gap_uniq (b.pm (by omega) (by omega)) hpm b.z.pl (by rw[f.2.2.2];exact f.2.1) (g3 ▸ hx.pl) (by rw[hrp,g3];exact hcs);exact ex q q1 q2 (hB.hp (by omega) (by omega)) (b.hp (by omega) (by omega)) ok.pred this
    ·exact hcn (g3 ▸ b.cm (by omega) (by omega))
   refine b.z.mono hk (fun i hi=>(hT i).2 (.inl hi)) (fun f1 f2=>⟨hgn _ b.ok.pred.1,?_⟩) (fun _ _=>hgn _ b.ok.succ.1) (fun _=>hgn _ b.ok.cell.1) (fun g=> ?_) (fun g=> ?_) (fun _ _=>hgn _ b.ok.next.1)
   ·rw[hrt _ b.ok.pred.1,qb (show¬(pr ps q).pred=(pr ps p).cell from fun g=>hcn (g ▸ b.pm f1 f2))]
   ·rw[hrt _ b.ok.cell.1,qb (hcne g)]
   ·rw[hlf _ b.ok.cell.1,qb (hcne (.inl g))]
  ·show rt _ (pr ps p).pred=(pr ps p).succ
   rw[hrt _ ok.pred.1,qb hpc];exact hrp
  ·show rt _ (pr ps p).cell=(pr ps p).succ
   rw[hrt _ ok.cell.1,qf rfl]
  ·show lf _ (pr ps p).cell=(pr ps p).pred
   rw[hlf _ ok.cell.1,qf rfl]
  ·have h0:=h.core.rng0 hi;have hne:i≠(pr ps p).cell:=fun g=>hcn (g ▸ hi);have hm:=(h.core.next_mem hi h1).1;have hne2:rt cs i≠(pr ps p).cell:=fun g=>hcn (g ▸ qo _ hm);rw[hrt i h0.1,qb hne,hlf _ (h.core.rng _ hm).1,qb hne2];rcases h.lef i hi h1 with g|⟨q,f1,f2⟩
   ·exact .inl g
   ·exact .inr ⟨q,f1,.inl ⟨fun g=>by subst g;omega,f2⟩⟩
 |link1 e=>
  obtain⟨k1,hcs,hgs,hrp⟩:=hx.i67 (.inr e);obtain⟨hrc,hlc⟩:=hx.i7 e;have nx:=hx.nx (by omega);have hcn:=hB.cn (.inr e);have hpm:=hB.pm (by omega) (by omega);have hc2:=hx.c2;obtain⟨A,B,el,hcore,hT⟩:=h.core.insert hpm ⟨hc2,ok.cell.2⟩ hx.pl (by rw[hrp];exact hcs) (by rw[hrc,hrp]);have hkR:=z4c cs (pr ps p).pred (pr ps p).cell;have hcR:0<=(pr ps p).cell/\(pr ps p).cell<(z2p cs (pr ps p).pred (pr ps p).cell).length:=by rw[hkR.len];exact ok.cell
  have hk:=hkR.trans (key_setU _ (pr ps p).cell);have hrt:∀i:Int,0<=i->rt (setU (z2p cs (pr ps p).pred (pr ps p).cell) (pr ps p).cell) i=if i=(pr ps p).pred then(pr ps p).cell else rt cs i:=fun i hi=>by rw[rt_setU hcR hi,rt_setR ok.pred hi]
  have hgn:∀i:Int,0<=i->gn (setU (z2p cs (pr ps p).pred (pr ps p).cell) (pr ps p).cell) i=if i=(pr ps p).cell then false else gn cs i:=fun i hi=>by rw[gn_setU hcR hi,gn_setR ok.pred hi]
  have hlf:∀i:Int,0<=i->lf (setU (z2p cs (pr ps p).pred (pr ps p).cell) (pr ps p).cell) i=lf cs i:=fun i hi=>by rw[lf_setU hcR hi,lf_setR ok.pred hi]
  obtain⟨g1,g2⟩:=z5o h hp (y:={pr ps p with phase:=8}) (fun i=>by simp[hol,e,z48]) (fun i hi=>by rw[lk_setU hcR hi,lk_setR ok.pred hi]);have hpc:=z4z hx.pl;have hsc:=z4z hcs;have hfal:∀i:Int,0<=i->gn cs i=false->gn (setU (z2p cs (pr ps p).pred (pr ps p).cell) (pr ps p).cell) i=gn cs i:=fun i hi g=>by rw[hgn i hi,g];split<;>rfl
  have hml:∀i,i∈A++(pr ps p).cell::rt cs (pr ps p).pred::B->i=(pr ps p).cell\/i∈l:=fun i hi=>by
   rw[el];rcases qR.1 hi with g|g
   ·exact .inr (Qx _ g)
   ·rcases qw.1 g with g|g
    ·exact .inl g
    ·exact .inr (Qg _ g)
  refine⟨_,h.next hp hk (fun i h0 hn=> ?_) g1 g2 ⟨ok.cell,ok.pred,ok.succ,ok.next⟩ rfl (by dsimp only;omega) ha hcore (fun i hi hg=> ?_) (fun q q1 q2 q3=> ?_) (fun _=>⟨hc2,(hT _).2 hx.pT,by rw[hk.less];exact hx.pl,(hT _).2 hx.sT,fun _=>nx,fun _=>by rw[hk.less];exact hx.ge (by omega),fun _ _=>by show(pr ps p).kind≠3;rw[k1];decide,fun _ _=>by rw[hfal _ ok.pred.1 (hx.gp (by omega) (by omega))];exact hx.gp (by omega) (by omega),fun g=>by dsimp only at g;omega,fun g=>by dsimp only at g;omega,fun _=>⟨k1,by rw[hk.less];exact hcs,by rw[hfal _ ok.succ.1 hgs];exact hgs,?_,?_⟩,fun g=>by dsimp only at g;omega,fun g=>by dsimp only at g;omega,fun g=>by dsimp only at g;omega,fun g=>by dsimp only at g;omega,fun g=>by dsimp only at g;omega⟩) fun i hi h1=> ?_⟩
  ·rw[hlf i h0,hrt i h0];refine⟨lf_in hv h0 hn,?_⟩
   split
   ·exact ok.cell
   ·exact rt_in hv h0 hn
  ·rcases hml i hi with g|g
   ·subst g;rw[hgn _ ok.cell.1,qf rfl] at hg;cases hg
   ·rw[hgn i (h.core.rng i g).1] at hg
    split at hg
    ·cases hg
    obtain⟨q,f1,f2,f3⟩:=h.gin i g hg;exact⟨q,f1,.inl ⟨fun g=>by subst g;omega,f2,f3⟩⟩
  ·have b:=h.beside p q2 q3;refine b.z.mono hk (fun i hi=>(hT i).2 hi) (fun f1 f2=>⟨hfal _ b.ok.pred.1 (b.z.gp f1 f2),?_⟩) (fun f1 f2=>hfal _ b.ok.succ.1 ?_) (fun g=> ?_) (fun g=> ?_) (fun g=>hlf _ b.ok.cell.1) (fun f1 f2=>hfal _ b.ok.next.1 ?_)
   ·rw[hrt _ b.ok.pred.1,qb (ex q q1 q2 (hB.hp (by omega) (by omega)) (b.hp f1 f2) ok.pred)]
   ·by_cases g8:(pr ps q).phase=8
    ·exact(b.z.i8 g8).2.2.1
    ·exact(b.z.i67 (by omega)).2.2.1
   ·rw[hgn _ b.ok.cell.1,qb (show¬(pr ps q).cell=(pr ps p).cell from fun g3=>hcn (g3 ▸ b.cm (by omega) (by omega)))]
   ·rw[hrt _ b.ok.cell.1,qb];intro g3
    by_cases g7:(pr ps q).phase=7
    ·exact b.cn (.inr g7) (g3 ▸ hpm)
    ·by_cases g8:(pr ps q).phase=8
     ·have f:=(b.z.i8 g8).2.2.2.2;rw[g3,hrp] at f;exact ex q q1 q2 (hB.hs (by omega) (by omega)) (b.hs (by omega) (by omega)) ok.succ f.symm
     ·have f:=(b.z.r9 (by omega)).2.1;exact ex q q1 q2 (hB.hp (by omega) (by omega)) (b.hs (by omega) (by omega)) ok.pred (f.trans g3)
   ·by_cases g12:(pr ps q).phase=12
    ·exact(b.z.r12 g12).2.2.1
    ·exact(b.z.r10 (by omega)).2.1
  ·show rt _ (pr ps p).pred=(pr ps p).cell
   rw[hrt _ ok.pred.1,qf rfl]
  ·show rt _ (pr ps p).cell=(pr ps p).succ
   rw[hrt _ ok.cell.1,qb hpc.symm];exact hrc
  ·by_cases hip:i=(pr ps p).pred
   ·subst hip;rw[hrt _ ok.pred.1,qf rfl,hlf _ ok.cell.1];exact .inl hlc
   ·by_cases hic:i=(pr ps p).cell
    ·subst hic;rw[hrt _ ok.cell.1,qb hip,hrc];exact .inr ⟨p,hp,.inr ⟨rfl,.inl ⟨rfl,rfl,rfl⟩⟩⟩
    ·have hi':i∈0::l:=by
      rcases qw.1 hi with g|g
      ·rw[g];exact qm ..
      ·rcases hml i g with g|g
       ·exact absurd g hic
       ·exact qo _ g
     have h0:=h.core.rng0 hi';have hm:=(h.core.next_mem hi' h1).1;rw[hrt i h0.1,qb hip,hlf _ (h.core.rng _ hm).1];rcases h.lef i hi' h1 with g|⟨q,f1,f2⟩
     ·exact .inl g
     ·exact .inr ⟨q,f1,.inl ⟨fun g=>by subst g;omega,f2⟩⟩
 |link2 e=>
  obtain⟨k1,hcs,hgs,hrp,hrc⟩:=hx.i8 e;have nx:=hx.nx (by omega);have hcm:=hB.cm (by omega) (by omega);have hc2:=hx.c2;have hk:=z58 cs (pr ps p).succ (pr ps p).cell;have hsm:=h.core.live ok.succ.1 ok.succ.2 hgs;obtain⟨g1,g2⟩:=z5o h hp (y:={pr ps p with res:=true,phase:=13}) (fun i=>by simp[hol,e,z48,nx]) (fun i hi=>lk_setF (v:=(pr ps p).cell) ok.succ hi);have hT:∀i,TT (z4g cs (pr ps p).succ (pr ps p).cell) i↔TT cs i:=fun i=>⟨fun hi=>(TT.same hk (z37 ok.succ hi.1)).1 hi,fun hi=>(TT.same hk (z37 ok.succ hi.1)).2 hi⟩;refine⟨l,h.next hp hk (fun i h0 hn=> ?_) g1 g2 ⟨ok.cell,ok.pred,ok.succ,ok.next⟩ rfl (by dsimp only;omega) ha (h.core.same hk (fun i hi=>z37 ok.succ hi) fun i hi=>z4k ok.succ hi) (fun i hi hg=> ?_) (fun q q1 q2 q3=> ?_) (fun _=>⟨hc2,(hT _).2 hx.pT,by rw[hk.less];exact hx.pl,(hT _).2 hx.sT,fun _=>nx,fun _=>by rw[hk.less];exact hx.ge (by omega),fun _ _=>by show(pr ps p).kind≠3;rw[k1];decide,fun _ g=>by dsimp only at g;omega,fun g=>by dsimp only at g;omega,fun g=>by dsimp only at g;omega,fun g=>by dsimp only at g;omega,fun g=>by dsimp only at g;omega,fun g=>by dsimp only at g;omega,fun g=>by dsimp only at g;omega,fun g=>by dsimp only at g;omega,fun g=>by dsimp only at g;omega⟩) fun i hi h1=> ?_⟩
  ·rw[lf_setF ok.succ h0,z37 ok.succ h0];refine⟨?_,rt_in hv h0 hn⟩
   split
   ·exact ok.cell
   ·exact lf_in hv h0 hn
  ·rw[z4k ok.succ (h.core.rng i hi).1] at hg;obtain⟨q,f1,f2,f3⟩:=h.gin i hi hg;exact⟨q,f1,.inl ⟨fun g=>by subst g;omega,f2,f3⟩⟩
  ·have b:=h.beside p q2 q3;refine b.z.mono hk (fun i hi=>(hT i).2 hi) (fun f1 f2=>⟨z4k ok.succ b.ok.pred.1,z37 ok.succ b.ok.pred.1⟩) (fun f1 f2=>z4k ok.succ b.ok.succ.1) (fun g=>z4k ok.succ b.ok.cell.1) (fun g=>z37 ok.succ b.ok.cell.1) (fun g=> ?_) (fun f1 f2=>z4k ok.succ b.ok.next.1);rw[lf_setF ok.succ b.ok.cell.1,qb (show¬(pr ps q).cell=(pr ps p).succ from fun g3=>b.cn (.inr g) (g3 ▸ hsm))]
  ·have h0:=h.core.rng0 hi;have hm:=(h.core.next_mem hi h1).1;rw[z37 ok.succ h0.1,lf_setF ok.succ (h.core.rng _ hm).1]
   by_cases hs:rt cs i=(pr ps p).succ
   ·rw[qf hs];exact .inl (h.core.inj hcm hi (by omega) h1 (hrc.trans hs.symm))
   ·rw[qb hs];rcases h.lef i hi h1 with g|⟨q,f1,f2⟩
    ·exact .inl g
    ·refine .inr ⟨q,f1,.inl ⟨fun g=> ?_,f2⟩⟩;subst g;rcases f2 with f2|f2
     ·exact hs f2.2.2.symm
     ·omega
 |un0 e=>
  obtain⟨k2,hsc,hrp⟩:=hx.r9 (.inr (.inl e));obtain⟨hnr,hgn,hcl⟩:=hx.r10 (.inl e);have hc2:=hx.c2;have hk:=key_setG cs (pr ps p).cell
  have hxs:hol (pr ps p) (pr ps p).cell=true:=by
   have:=hB.hs (by omega) (by omega);rw[hsc] at this;exact this
  obtain⟨g1,g2⟩:=z5o h hp (y:={pr ps p with phase:=11}) (fun i=>by simp[hol,e,z48]) (fun i hi=>lk_setG ok.cell hi);have hT:∀i,TT (setG cs (pr ps p).cell) i↔TT cs i:=fun i=>⟨fun hi=>(TT.same hk (rt_setG ok.cell hi.1)).1 hi,fun hi=>(TT.same hk (rt_setG ok.cell hi.1)).2 hi⟩;have hg':∀i:Int,0<=i->i≠(pr ps p).cell->gn (setG cs (pr ps p).cell) i=gn cs i:=fun i hi hne=>by rw[gn_setG ok.cell hi,qb hne]
  refine⟨l,h.next hp hk (fun i h0 hn=> ?_) g1 g2 ⟨ok.cell,ok.pred,ok.succ,ok.next⟩ rfl (by dsimp only;omega) ha (h.core.mark ⟨hc2,ok.cell.2⟩) (fun i hi hg=> ?_) (fun q q1 q2 q3=> ?_) (fun _=>⟨hc2,(hT _).2 hx.pT,by rw[hk.less];exact hx.pl,(hT _).2 hx.sT,fun g=>by dsimp only at g;omega,fun _=>by rw[hk.less];exact hx.ge (by omega),fun _ _=>by show(pr ps p).kind≠3;rw[k2];decide,fun _ _=>by rw[hg' _ ok.pred.1 (z4z hx.pl)];exact hx.gp (by omega) (by omega),fun g=>by dsimp only at g;omega,fun g=>by dsimp only at g;omega,fun g=>by dsimp only at g;omega,fun _=>⟨k2,hsc,by rw[rt_setG ok.cell ok.pred.1];exact hrp⟩,fun g=>by dsimp only at g;omega,fun _=>⟨by rw[rt_setG ok.cell ok.cell.1];exact hnr,by rw[hg' _ ok.next.1 (z4z hcl).symm];exact hgn,by rw[hk.less];exact hcl⟩,fun _=>by rw[gn_setG ok.cell ok.cell.1,qf rfl],fun g=>by dsimp only at g;omega⟩) fun i hi h1=> ?_⟩
  ·rw[lf_setG ok.cell h0,rt_setG ok.cell h0];exact⟨lf_in hv h0 hn,rt_in hv h0 hn⟩
  ·by_cases hic:i=(pr ps p).cell
   ·exact⟨p,hp,.inr ⟨rfl,rfl,hic.symm⟩⟩
   ·rw[hg' i (h.core.rng i hi).1 hic] at hg;obtain⟨q,f1,f2,f3⟩:=h.gin i hi hg;exact⟨q,f1,.inl ⟨fun g=>by subst g;omega,f2,f3⟩⟩
  ·have b:=h.beside p q2 q3;refine b.z.mono hk (fun i hi=>(hT i).2 hi) (fun f1 f2=>⟨hg' _ b.ok.pred.1 (ex q q1 q2 hxs (b.hp f1 f2) ok.cell),rt_setG ok.cell b.ok.pred.1⟩) (fun f1 f2=>hg' _ b.ok.succ.1 (ex q q1 q2 hxs (b.hs f1 (by omega)) ok.cell)) (fun g=>hg' _ b.ok.cell.1 ?_) (fun g=>rt_setG ok.cell b.ok.cell.1) (fun g=>lf_setG ok.cell b.ok.cell.1) (fun f1 f2=>hg' _ b.ok.next.1 (ex q q1 q2 hxs (b.hn f1 f2) ok.cell));rw[<-(b.z.r9 g).2.1];exact ex q q1 q2 hxs (b.hs (by omega) (by omega)) ok.cell
  ·have h0:=h.core.rng0 hi;have hm:=(h.core.next_mem hi h1).1;rw[rt_setG ok.cell h0.1,lf_setG ok.cell (h.core.rng _ hm).1];rcases h.lef i hi h1 with g|⟨q,f1,f2⟩
   ·exact .inl g
   ·exact .inr ⟨q,f1,.inl ⟨fun g=>by subst g;omega,f2⟩⟩
 |un1 e=>
  obtain⟨k2,hsc,hrp⟩:=hx.r9 (.inr (.inr e));obtain⟨hnr,hgn,hcl⟩:=hx.r10 (.inr e);have hgc:=hx.r11 e;have hpm:=hB.pm (by omega) (by omega);have hc2:=hx.c2;obtain⟨A,B,el,hcore,hT⟩:=h.core.unlink hpm hp1 hrp hgc;rw[<-hnr] at el hcore hT;have hk:=z4c cs (pr ps p).pred (pr ps p).next;have hrt:∀i:Int,0<=i->rt (z2p cs (pr ps p).pred (pr ps p).next) i=if i=(pr ps p).pred then(pr ps p).next else rt cs i:=fun i hi=>rt_setR ok.pred hi;have hgn':∀i:Int,0<=i->gn (z2p cs (pr ps p).pred (pr ps p).next) i=gn cs i:=fun i hi=>gn_setR ok.pred hi;have hlf:∀i:Int,0<=i->lf (z2p cs (pr ps p).pred (pr ps p).next) i=lf cs i:=fun i hi=>lf_setR ok.pred hi;obtain⟨g1,g2⟩:=z5o h hp (y:={pr ps p with phase:=12}) (fun i=>by simp[hol,e,z48]) (fun i hi=>lk_setR (v:=(pr ps p).next) ok.pred hi);have hnd:(0::l).Nodup:=h.core.seg.nodup
  have hml:∀i,i∈A++(pr ps p).next::B->i∈l/\i≠(pr ps p).cell:=fun i hi=>by
   rw[el] at hnd ⊢;have hnd2:=(jD.1 hnd).2;have hnd3:=(je.1 hnd2);have hnd4:=jD.1 hnd3.2.1;rcases qR.1 hi with g|g
   ·exact⟨Qx _ g,hnd3.2.2 i g _ (qm ..)⟩
   ·exact⟨Qg _ (qo _ g),fun g2=>hnd4.1 (g2 ▸ g)⟩
  have hpnl:=z2o hx.pl hcl;refine⟨_,h.next hp hk (fun i h0 hn=> ?_) g1 g2 ⟨ok.cell,ok.pred,ok.succ,ok.next⟩ rfl (by dsimp only;omega) ha hcore (fun i hi hg=> ?_) (fun q q1 q2 q3=> ?_) (fun _=>⟨hc2,(hT _).2 hx.pT,by rw[hk.less];exact hx.pl,(hT _).2 hx.sT,fun g=>by dsimp only at g;omega,fun _=>by rw[hk.less];exact hx.ge (by omega),fun _ _=>by show(pr ps p).kind≠3;rw[k2];decide,fun _ _=>by rw[hgn' _ ok.pred.1];exact hx.gp (by omega) (by omega),fun g=>by dsimp only at g;omega,fun g=>by dsimp only at g;omega,fun g=>by dsimp only at g;omega,fun g=>by dsimp only at g;omega,fun g=>by dsimp only at g;omega,fun g=>by dsimp only at g;omega,fun g=>by dsimp only at g;omega,fun _=>⟨k2,?_,by rw[hgn' _ ok.next.1];exact hgn,by rw[hk.less];exact hpnl⟩⟩) fun i hi h1=> ?_⟩
  ·rw[hlf i h0,hrt i h0];refine⟨lf_in hv h0 hn,?_⟩
   split
   ·exact ok.next
   ·exact rt_in hv h0 hn
  ·obtain⟨hil,hic⟩:=hml i hi;rw[hgn' i (h.core.rng i hil).1] at hg;obtain⟨q,f1,f2,f3⟩:=h.gin i hil hg;exact⟨q,f1,.inl ⟨fun g=>by subst g;exact hic f3.symm,f2,f3⟩⟩
  ·have b:=h.beside p q2 q3;refine b.z.mono hk (fun i hi=>(hT i).2 hi) (fun f1 f2=>⟨hgn' _ b.ok.pred.1,?_⟩) (fun f1 f2=>hgn' _ b.ok.succ.1) (fun g=>hgn' _ b.ok.cell.1) (fun g=> ?_) (fun g=>hlf _ b.ok.cell.1) (fun f1 f2=>hgn' _ b.ok.next.1)
   ·rw[hrt _ b.ok.pred.1,qb (ex q q1 q2 (hB.hp (by omega) (by omega)) (b.hp f1 f2) ok.pred)]
   ·rw[hrt _ b.ok.cell.1,qb];intro g3
    by_cases g7:(pr ps q).phase=7
    ·exact b.cn (.inr g7) (g3 ▸ hpm)
    ·by_cases g8:(pr ps q).phase=8
     ·have f:=(b.z.i8 g8).2.2.2.2;rw[g3,hrp,<-hsc] at f;exact ex q q1 q2 (hB.hs (by omega) (by omega)) (b.hs (by omega) (by omega)) ok.succ f.symm
     ·have f:=(b.z.r9 (by omega)).2.1;exact ex q q1 q2 (hB.hp (by omega) (by omega)) (b.hs (by omega) (by omega)) ok.pred (f.trans g3)
  ·show rt _ (pr ps p).pred=(pr ps p).next
   rw[hrt _ ok.pred.1,qf rfl]
  ·by_cases hip:i=(pr ps p).pred
   ·subst hip;refine .inr ⟨p,hp,.inr ⟨rfl,.inr ⟨rfl,rfl,?_⟩⟩⟩;rw[hrt _ ok.pred.1,qf rfl]
   ·have hi':i∈0::l:=by
     rcases qw.1 hi with g|g
     ·rw[g];exact qm ..
     ·exact qo _ (hml i g).1
    have h0:=h.core.rng0 hi';have hm:=(h.core.next_mem hi' h1).1;rw[hrt i h0.1,qb hip,hlf _ (h.core.rng _ hm).1];rcases h.lef i hi' h1 with g|⟨q,f1,f2⟩
    ·exact .inl g
    ·exact .inr ⟨q,f1,.inl ⟨fun g=>by subst g;omega,f2⟩⟩
 |un2 e=>
  obtain⟨k2,hrp,hgn,hpn⟩:=hx.r12 e;have hpm:=hB.pm (by omega) (by omega);have hc2:=hx.c2;have hk:=z58 cs (pr ps p).next (pr ps p).pred;have hnm:=h.core.live ok.next.1 ok.next.2 hgn;obtain⟨g1,g2⟩:=z5o h hp (y:={pr ps p with res:=true,phase:=13}) (fun i=>by simp[hol,e,z48]) (fun i hi=>lk_setF (v:=(pr ps p).pred) ok.next hi);have hT:∀i,TT (z4g cs (pr ps p).next (pr ps p).pred) i↔TT cs i:=fun i=>⟨fun hi=>(TT.same hk (z37 ok.next hi.1)).1 hi,fun hi=>(TT.same hk (z37 ok.next hi.1)).2 hi⟩;refine⟨l,h.next hp hk (fun i h0 hn=> ?_) g1 g2 ⟨ok.cell,ok.pred,ok.succ,ok.next⟩ rfl (by dsimp only;omega) ha (h.core.same hk (fun i hi=>z37 ok.next hi) fun i hi=>z4k ok.next hi) (fun i hi hg=> ?_) (fun q q1 q2 q3=> ?_) (fun _=>⟨hc2,(hT _).2 hx.pT,by rw[hk.less];exact hx.pl,(hT _).2 hx.sT,fun g=>by dsimp only at g;omega,fun _=>by rw[hk.less];exact hx.ge (by omega),fun _ _=>by show(pr ps p).kind≠3;rw[k2];decide,fun _ g=>by dsimp only at g;omega,fun g=>by dsimp only at g;omega,fun g=>by dsimp only at g;omega,fun g=>by dsimp only at g;omega,fun g=>by dsimp only at g;omega,fun g=>by dsimp only at g;omega,fun g=>by dsimp only at g;omega,fun g=>by dsimp only at g;omega,fun g=>by dsimp only at g;omega⟩) fun i hi h1=> ?_⟩
  ·rw[lf_setF ok.next h0,z37 ok.next h0];refine⟨?_,rt_in hv h0 hn⟩
   split
   ·exact ok.pred
   ·exact lf_in hv h0 hn
  ·rw[z4k ok.next (h.core.rng i hi).1] at hg;obtain⟨q,f1,f2,f3⟩:=h.gin i hi hg;exact⟨q,f1,.inl ⟨fun g=>by subst g;omega,f2,f3⟩⟩
  ·have b:=h.beside p q2 q3;refine b.z.mono hk (fun i hi=>(hT i).2 hi) (fun f1 f2=>⟨z4k ok.next b.ok.pred.1,z37 ok.next b.ok.pred.1⟩) (fun f1 f2=>z4k ok.next b.ok.succ.1) (fun g=>z4k ok.next b.ok.cell.1) (fun g=>z37 ok.next b.ok.cell.1) (fun g=> ?_) (fun f1 f2=>z4k ok.next b.ok.next.1);rw[lf_setF ok.next b.ok.cell.1,qb (show¬(pr ps q).cell=(pr ps p).next from fun g3=>b.cn (.inr g) (g3 ▸ hnm))]
  ·have h0:=h.core.rng0 hi;have hm:=(h.core.next_mem hi h1).1;rw[z37 ok.next h0.1,lf_setF ok.next (h.core.rng _ hm).1]
   by_cases hs:rt cs i=(pr ps p).next
   ·rw[qf hs];exact .inl (h.core.inj hpm hi hp1 h1 (hrp.trans hs.symm))
   ·rw[qb hs];rcases h.lef i hi h1 with g|⟨q,f1,f2⟩
    ·exact .inl g
    ·refine .inr ⟨q,f1,.inl ⟨fun g=> ?_,f2⟩⟩;subst g;rcases f2 with f2|f2
     ·omega
     ·exact hs f2.2.2.symm
end
section
def swpI (xs:List Int)(i j:Nat):List Int:=(xs.set i (nth xs j)).set j (nth xs i)
theorem swpI_length (xs:List Int)(i j:Nat):(swpI xs i j).length=xs.length:=by simp[swpI]
def sinkI (lt:Int->Int->Bool):Nat->List Int->List Int
 |0,xs=>xs
 |j+1,xs=>if lt (nth xs (j+1)) (nth xs j) then sinkI lt j (swpI xs (j+1) j) else xs
theorem sinkI_length (lt:Int->Int->Bool):∀j xs,(sinkI lt j xs).length=xs.length
 |0,_=>rfl
 |j+1,xs=>by simp only[sinkI];split;rw[sinkI_length lt j,swpI_length];rfl
def insIK (lt:Int->Int->Bool):Nat->Nat->List Int->List Int
 |0,_,xs=>xs
 |k+1,i,xs=>insIK lt k (i+1) (sinkI lt i xs)
def srtI (lt:Int->Int->Bool)(xs:List Int):List Int:=insIK lt (xs.length-1) 1 xs
theorem insI_length (lt:Int->Int->Bool):∀k i xs,(insIK lt k i xs).length=xs.length
 |0,_,_=>rfl
 |k+1,i,xs=>by rw[insIK,insI_length lt k,sinkI_length]
theorem srtI_length (lt:Int->Int->Bool)(xs:List Int):(srtI lt xs).length=xs.length:=insI_length ..
def cmpI (cs:List Cl)(a b:Int):Int:=if z1l cs a b then -1 else 1
def MemOk (n:Nat)(xs:List Int):Prop:=∀i,i<xs.length->0<=nth xs i/\nth xs i<n
def insV (lt:Int->Int->Bool)(x:Int):List Int->List Int
 |[]=>[x]
 |y::t=>if lt x y then y::insV lt x t else x::y::t
def insR (lt:Int->Int->Bool)(l:List Int)(x:Int):List Int:=(insV lt x l.reverse).reverse
def srtR (lt:Int->Int->Bool)(xs:List Int):List Int:=xs.foldl (insR lt) []
theorem insV_length (lt:Int->Int->Bool)(x:Int):∀l,(insV lt x l).length=l.length+1
 |[]=>rfl
 |y::t=>by simp only[insV];split<;>simp[insV_length lt x t]
theorem insR_length (lt:Int->Int->Bool)(l:List Int)(x:Int):(insR lt l x).length=l.length+1:=by simp[insR,insV_length]
theorem insV_mem {lt:Int->Int->Bool}{x z:Int}:∀{l:List Int},z∈insV lt x l↔z=x\/z∈l
 |[]=>by simp[insV]
 |y::t=>by
  simp only[insV]
  split
  ·simp only[qw,insV_mem (l:=t)]
   constructor<;>(intro h;rcases h with h|h|h<;>simp[h])
  ·simp
theorem insR_mem {lt:Int->Int->Bool}{x z:Int}{l:List Int}:z∈insR lt l x↔z=x\/z∈l:=by simp[insR,insV_mem]
theorem insV_congr {lt lt':Int->Int->Bool}{x:Int}:∀{l:List Int},(∀y∈l,lt x y=lt' x y)->insV lt x l=insV lt' x l
 |[],_=>rfl
 |y::t,h=>by
  simp only[insV,h y (qm ..),insV_congr (l:=t) fun z hz=>h z (qo _ hz)]
theorem insR_congr {lt lt':Int->Int->Bool}{x:Int}{l:List Int}(h:∀y∈l,lt x y=lt' x y):insR lt l x=insR lt' l x:=by
 rw[insR,insV_congr fun y hy=>h y (List.mem_reverse.1 hy),insR]
theorem insR_snoc (lt:Int->Int->Bool)(l:List Int)(x y:Int):insR lt (l++[y]) x=if lt x y then insR lt l x++[y] else l++[y]++[x]:=by
 simp only[insR,List.reverse_append,List.reverse_cons,List.reverse_nil,jq,QO,insV]
 split<;>simp
theorem insR_zero {lt:Int->Int->Bool}{x a:Int}(h:lt x a=false)(l:List Int):insR lt (a::l) x=a::insR lt l x:=by
 have:∀r:List Int,insV lt x (r++[a])=insV lt x r++[a]:=fun r=>by
  induction r with
  |nil=>simp[insV,h]
  |cons y t ih=>simp only[QO,insV,ih];split<;>simp
 simp[insR,this]
def insAtI (l:List Int)(k:Nat)(x:Int):List Int:=l.take k++[x]++l.drop k
theorem insR_at {lt:Int->Int->Bool}{x:Int}(l:List Int):∀(k:Nat),k<=l.length->(∀q,k<=q->q<l.length->lt x (nth l q)=true)->(0<k->lt x (nth l (k-1))=false)->insR lt l x=insAtI l k x:=by
 induction hn:l.length generalizing l with
 |zero=>
  intro k hk _ _;have:l=[]:=List.length_eq_zero_iff.1 hn;subst this;simp[insR,insV,insAtI]
 |succ n ih=>
  intro k hk h1 h2;have hne:l≠[]:=by intro h;simp[h] at hn
  obtain⟨a,y,rfl⟩:∃a y,l=a++[y]:=⟨l.dropLast,l.getLast hne,(List.dropLast_concat_getLast hne).symm⟩;have ha:a.length=n:=by simpa using hn
  have hy:nth (a++[y]) n=y:=by rw[z5q (by omega),ha,jb];rfl
  rw[insR_snoc]
  by_cases hk2:k=n+1
  ·have:=h2 (by omega);rw[show k-1=n by omega,hy] at this;rw[this,qb qn,insAtI,hk2,Qo (by simp;omega),jS (by simp;omega),jg]
  ·have:=h1 n (by omega) (by omega);rw[hy] at this;rw[qf this,ih a ha k (by omega) (fun q q1 q2=>by have:=h1 q q1 (by omega);rwa [z3g (by omega)] at this) (fun h0=>by have:=h2 h0;rwa [z3g (by omega)] at this)];simp only[insAtI,QB];rw[List.take_append_of_le_length (by omega),List.drop_append_of_le_length (by omega)]
theorem nth_mid (A:List Int)(x:Int)(B:List Int):nth (A++x::B) A.length=x:=by rw[z5q (by omega),jb];rfl
theorem sink_ins (lt:Int->Int->Bool):∀(j:Nat) (A:List Int) (x:Int) (B:List Int),A.length=j->sinkI lt j (A++x::B)=insR lt A x++B:=by
 intro j
 induction j with
 |zero=>
  intro A x B h;have:A=[]:=List.length_eq_zero_iff.1 h;subst this;simp[sinkI,insR,insV]
 |succ j ih=>
  intro A x B h;have hne:A≠[]:=by intro h';simp[h'] at h
  obtain⟨a,y,rfl⟩:∃a y,A=a++[y]:=⟨A.dropLast,A.getLast hne,(List.dropLast_concat_getLast hne).symm⟩;have ha:a.length=j:=by simpa using h
  have h1:nth (a++[y]++x::B) (j+1)=x:=by rw[<-h];exact nth_mid ..
  have h2:nth (a++[y]++x::B) j=y:=by rw[QB,<-ha];exact nth_mid ..
  rw[insR_snoc];simp only[sinkI,h1,h2]
  by_cases c:lt x y=true
  ·rw[qf c,qf c]
   have:swpI (a++[y]++x::B) (j+1) j=a++x::(y::B):=by
    unfold swpI;rw[h1,h2];subst ha;rw[QB,List.set_append_right _ _ (by omega),List.set_append_right _ _ (by omega)];simp
   rw[this,ih a x (y::B) ha];simp
  ·rw[qb c,qb c];simp
theorem insI_fold (lt:Int->Int->Bool):∀(t:List Int) (A:List Int),insIK lt t.length A.length (A++t)=t.foldl (insR lt) A
 |[],A=>by simp[insIK]
 |x::t,A=>by
  simp only[QI,insIK,JB];rw[sink_ins lt A.length A x t rfl,<-insI_fold lt t (insR lt A x),insR_length]
theorem srtI_srtR (lt:Int->Int->Bool)(xs:List Int):srtI lt xs=srtR lt xs:=by
 cases xs with
 |nil=>rfl
 |cons x t=>
  have:=insI_fold lt t [x];simp only[srtI,srtR,QI,Nat.add_sub_cancel,JB];exact this
theorem srtR_mem {lt:Int->Int->Bool}{z:Int}(xs:List Int):z∈srtR lt xs↔z∈xs:=by
 have:∀(xs a:List Int),z∈xs.foldl (insR lt) a↔z∈xs\/z∈a:=fun xs=>by
  induction xs with
  |nil=>simp
  |cons x t ih=>
   intro a;simp only[JB,ih,insR_mem,qw]
   constructor
   ·rintro(h|h|h)
    ·exact .inl (.inr h)
    ·exact .inl (.inl h)
    ·exact .inr h
   ·rintro((h|h)|h)
    ·exact .inr (.inl h)
    ·exact .inl h
    ·exact .inr (.inr h)
 simp[srtR,this]
theorem srtR_snoc (lt:Int->Int->Bool)(xs:List Int)(x:Int):srtR lt (xs++[x])=insR lt (srtR lt xs) x:=by simp[srtR]
theorem srtR_length (lt:Int->Int->Bool)(xs:List Int):(srtR lt xs).length=xs.length:=by rw[<-srtI_srtR,srtI_length]
def kAt (l:List ByteArray)(i:Nat):ByteArray:=l.getD i ⟨#[]⟩
def bAt (l:List Bool)(i:Nat):Bool:=l.getD i false
def mems (inn:List Bool):Nat->List Int
 |0=>[]
 |i+1=>if bAt inn i then mems inn i++[(i:Int)+2] else mems inn i
theorem z59 {inn:List Bool}{z:Int}:∀{i:Nat},z∈mems inn i↔∃j,j<i/\bAt inn j=true/\z=(j:Int)+2
 |0=>by simp[mems]
 |i+1=>by
  simp only[mems]
  split
  ·rename_i h;rw[qR,z59 (i:=i),qL]
   constructor
   ·rintro(⟨j,h1,h2,h3⟩|h1)
    ·exact⟨j,by omega,h2,h3⟩
    ·exact⟨i,by omega,h,h1⟩
   ·rintro⟨j,h1,h2,h3⟩
    by_cases e:j=i
    ·subst e;exact .inr h3
    ·exact .inl ⟨j,by omega,h2,h3⟩
  ·rename_i h;rw[z59 (i:=i)]
   constructor
   ·rintro⟨j,h1,h2,h3⟩;exact⟨j,by omega,h2,h3⟩
   ·rintro⟨j,h1,h2,h3⟩
    by_cases e:j=i
    ·subst e;exact absurd h2 h
    ·exact⟨j,by omega,h2,h3⟩
theorem mems_length (inn:List Bool):∀i,(mems inn i).length<=i
 |0=>qd _
 |i+1=>by
  have:=mems_length inn i;simp only[mems]
  split
  ·simp;omega
  ·omega
theorem bl_irr':∀x:List UInt8,Go.Op.bytesLess x x=false:=fun x=>by
 induction x with
 |nil=>rfl
 |cons a t ih=>simp[Go.Op.bytesLess,ih]
def ltK (keys:List ByteArray)(a b:Int):Bool:=sLt (kAt keys (a.toNat-2)) (kAt keys (b.toNat-2))
theorem lessC_zero (cs:List Cl)(a:Int):z1l cs a 0=false:=by simp[z1l]
theorem insV_pw {lt:Int->Int->Bool}(ht:∀a b c,lt a b=true->lt b c=true->lt a c=true){x:Int}:∀{l:List Int},l.Pairwise (fun a b=>lt b a=true)->(∀y∈l,lt x y=false->lt y x=true)->(insV lt x l).Pairwise (fun a b=>lt b a=true)
 |[],_,_=>by simp[insV]
 |y::t,hp,hx=>by
  obtain⟨h1,h2⟩:=Qu.1 hp;simp only[insV]
  split
  ·rename_i h;rw[Qu];refine⟨fun z hz=> ?_,insV_pw ht h2 fun z hz=>hx z (qo _ hz)⟩;rcases insV_mem.1 hz with e|e
   ·exact e ▸ h
   ·exact h1 z e
  ·rename_i h;have h3:=hx y (qm ..) (by simpa using h);rw[Qu];refine⟨fun z hz=> ?_,hp⟩;rcases qw.1 hz with e|e
   ·exact e ▸ h3
   ·exact ht _ _ _ (h1 z e) h3
theorem insR_pw {lt:Int->Int->Bool}(ht:∀a b c,lt a b=true->lt b c=true->lt a c=true){x:Int}{l:List Int}(hp:l.Pairwise (fun a b=>lt a b=true))(hx:∀y∈l,lt x y=false->lt y x=true):(insR lt l x).Pairwise (fun a b=>lt a b=true):=by
 rw[insR,List.pairwise_reverse];exact insV_pw ht (List.pairwise_reverse.2 hp) fun y hy=>hx y (List.mem_reverse.1 hy)
end
section
def kindBad (kind:Int):Bool:=decide (kind<1)||decide (3<kind)
theorem kindBad_eq (kind:Int):(kind !=1 && kind !=2 && kind !=3)=kindBad kind:=by
 rw[Qj];simp only[kindBad,qh,qr,qX,ne_eq,qj];omega
def z4v (cs:List Cl)(ps:List Pr)(p kind cell:Int):Int:=
 if !z2w cs ps then 1 else if decide (p<0)||decide ((ps.length:Int)<=p) then 2
 else if decide (cell<2)||decide ((cs.length:Int)<=cell) then 6 else if kindBad kind then 1
 else if z48 (pr ps p.toNat) then 7 else 0
def startP (cs:List Cl)(ps:List Pr)(p kind cell:Int):List Pr:=ps.set p.toNat ⟨kind,cell,1,0,(cl cs 0).right,0,false⟩
def z5i (cs:List Cl)(ps:List Pr)(p kind cell:Int):List Cl×List Pr:=if z4v cs ps p kind cell=0 then(cs,startP cs ps p kind cell) else([],[])
theorem startP_length (cs:List Cl)(ps:List Pr)(p kind cell:Int):(startP cs ps p kind cell).length=ps.length:=by simp[startP]
theorem startE_zero {cs:List Cl}{ps:List Pr}{p kind cell:Int}(h:z4v cs ps p kind cell=0):z2w cs ps=true/\(0<=p/\p<ps.length)/\(2<=cell/\cell<cs.length)/\(1<=kind/\kind<=3)/\z48 (pr ps p.toNat)=false:=by
 unfold z4v at h
 split at h
 ·cases h
 rename_i h1
 split at h
 ·cases h
 rename_i h2
 split at h
 ·cases h
 rename_i h3
 split at h
 ·cases h
 rename_i h4
 split at h
 ·cases h
 rename_i h5;simp only[kindBad,qr,qj,qk,Bool.not_eq_true] at h1 h2 h3 h4 h5;exact⟨by simpa using h1,by omega,by omega,by omega,h5⟩
theorem hol_idle {x:Pr}(h:z48 x=false)(i:Int):hol x i=false:=by simp[hol,h]
theorem Inv.start {cs:List Cl}{ps:List Pr}{l:List Int}(h:Inv cs ps l){p kind cell:Int}(he:z4v cs ps p kind cell=0):Inv cs (startP cs ps p kind cell) l:=by
 obtain⟨_,hp,hc,hk,hna⟩:=startE_zero he;have hv:=vld_of h.vb;have hpl:p.toNat<ps.length:=by omega
 have two:=h.core.two;have h0:0<=(0:Int)/\(0:Int)<cs.length:=by omega
 have hpr:∀q,pr (startP cs ps p kind cell) q=if p.toNat=q then⟨kind,cell,1,0,(cl cs 0).right,0,false⟩ else pr ps q:=fun q=>by
  unfold startP
  split
  ·rename_i e;subst e;rw[z3i hpl]
  ·rename_i e;rw[z2b e]
 have hlen:(startP cs ps p kind cell).length=ps.length:=startP_length ..;have hT0:TT cs 0:=h.core.mem_T (qm ..)
 have hne:∀q,(pr ps q).phase=8\/(pr ps q).phase=11\/(pr ps q).phase=12->p.toNat≠q:=fun q g e=>by
  subst e;have:=act_iff (x:=pr ps p.toNat);rw[hna] at this;have:=this.2 (by omega)
  cases this
 refine⟨?_,h.core,fun i hi hg=> ?_,fun i h0 hn q hq=> ?_,fun q h1 h2=> ?_,fun i hi h1=> ?_⟩
 ·refine valid_mk h.vb (.refl _) hlen (fun i hi=>hv.cell i hi) fun i hi=> ?_;rw[hpr]
  split
  ·have h1:=rt_in hv h0.1 h0.2;exact⟨⟨⟨by show(0:Int)<=cell;omega,hc.2⟩,h0,h1,h0⟩,by show z2c 1=true;decide,by show 0<=kind;omega,by show kind<=3;omega,fun e=>by dsimp only at e;omega,fun e=>by cases e⟩
  ·have h3:=hv.kind i hi;exact⟨hv.proc i hi,hv.phase i hi,h3.1,h3.2.1,h3.2.2⟩
 ·obtain⟨q,g1,g2,g3⟩:=h.gin i hi hg;refine⟨q,by rw[hlen];exact g1,?_⟩;rw[hpr,qb (hne q (by omega))];exact⟨g2,g3⟩
 ·rw[hlen] at hq;rw[h.lks i h0 hn q hq,hpr]
  split
  ·rename_i e;subst e;rw[hol_idle hna];simp[hol]
  ·exact QF
 ·rw[hlen] at h1;rw[hpr] at h2 ⊢
  split
  ·exact⟨hc.1,hT0,z1p.2 ⟨by show(0:Int)≠cell;omega,by show(0:Int)≠1;omega,by show cell≠0;omega,.inl rfl⟩,h.core.clo 0 hT0 (by omega),fun _=>rfl,fun g=>absurd rfl g,fun g=>absurd rfl g,fun g=>by dsimp only at g;omega,fun g=>by dsimp only at g;omega,fun g=>by dsimp only at g;omega,fun g=>by dsimp only at g;omega,fun g=>by dsimp only at g;omega,fun g=>by dsimp only at g;omega,fun g=>by dsimp only at g;omega,fun g=>by dsimp only at g;omega,fun g=>by dsimp only at g;omega⟩
  ·rename_i e;rw[qb e] at h2;exact h.prc q h1 h2
 ·rcases h.lef i hi h1 with g|⟨q,g1,g2⟩
  ·exact .inl g
  ·refine .inr ⟨q,by rw[hlen];exact g1,?_⟩;rw[hpr,qb (hne q (by omega))];exact g2
theorem setU_len (cs:List Cl)(c:Int):(setU cs c).length=cs.length:=by simp[setU]
theorem setK_len (cs:List Cl)(c v:Int):(setK cs c v).length=cs.length:=by simp[setK]
theorem setG_len (cs:List Cl)(c:Int):(setG cs c).length=cs.length:=by simp[setG]
theorem unlk_len (cs:List Cl)(p:Nat):(unlk cs p).length=cs.length:=by simp[unlk]
theorem stepC_length (cs:List Cl)(p:Nat)(x:Pr):(z1z cs p x).length=cs.length:=by
 unfold z1z;repeat' split
 all_goals simp only[z2s,z5a,setU_len,setK_len,setG_len,unlk_len]
def goesB (ps:List Pr)(p:Int):Bool:= !(decide (p<0)||decide ((ps.length:Int)<=p))
def stepOk (cs:List Cl)(ps:List Pr)(p:Int):Bool:=z2w cs ps && (goesB ps p && z3v cs (pr ps p.toNat))
def stepR (cs:List Cl)(ps:List Pr)(p:Int):List Cl×List Pr:=
 if !z2w cs ps then([],[]) else if goesB ps p && z3v cs (pr ps p.toNat) then(z1z cs p.toNat (pr ps p.toNat),ps.set p.toNat (z20 cs (pr ps p.toNat))) else(cs,ps)
theorem step_act {cs:List Cl}{x:Pr}(h:z3v cs x=true):z48 x=true:=by
 rw[z3v,qh,qj] at h;exact act_iff.2 (by omega)
def leavB (ps:List Pr)(i:Int):Bool:=z57 ps.length fun q=>(pr ps q).phase==11 && (pr ps q).cell==i
def locksB (cs:List Cl)(ps:List Pr):Bool:= !z57 cs.length fun i=>z57 ps.length fun q=>(lkK cs i==(q:Int)+1) !=hol (pr ps q) i
def cellBad (cs:List Cl)(ps:List Pr)(path:List Int)(i:Nat):Bool:=(decide (1<(i:Int)) && !gn cs i && !hasB path i)||(gn cs i && hasB path i && !leavB ps i)
def freeB (cs:List Cl):Bool:= !z57 cs.length fun i=>lkK cs i !=0
def leftBad (cs:List Cl)(path:List Int)(i:Nat):Bool:=lf cs (nth path (i+1)) !=nth path i
def chkL (cs:List Cl)(ps:List Pr):Bool:=
 z2w cs ps && !gn cs 0 && !gn cs 1 && match chainL cs 0 with
  |some path=>locksB cs ps && !z57 cs.length (fun i=>cellBad cs ps path i) && (!freeB cs|| !z57 (path.length-1) (fun i=>leftBad cs path i))
  |none=>false
theorem Seg.nth {cs:List Cl}:∀{a:Int} {l:List Int} {i:Nat},Seg cs a l 1->i<l.length->Go.Proofs.nth (a::l) i≠1/\rt cs (Go.Proofs.nth (a::l) i)=Go.Proofs.nth (a::l) (i+1)
 |a,x::l,0,h,_=>⟨h.1,h.2.1⟩
 |a,x::l,i+1,h,hi=>Seg.nth (i:=i) h.2.2.2 (by simpa using hi)
theorem nth_mem' {l:List Int}{i:Nat}(h:i<l.length):nth l i∈l:=by rw[z2v h];exact qM h
theorem Inv.free {cs:List Cl}{ps:List Pr}{l:List Int}(h:Inv cs ps l)(hf:freeB cs=true){q:Nat}(hq:q<ps.length)(i:Int)(h0:0<=i)(hn:i<cs.length):hol (pr ps q) i=false:=by
 cases hh:hol (pr ps q) i with
 |false=>rfl
 |true=>
  have h1:=(h.lks i h0 hn q hq).2 hh;simp only[freeB,qk] at hf;have:=anyB_elimK hf (i:=i.toNat) (by omega);rw[show((i.toNat:Nat):Int)=i by omega,qu] at this;omega
theorem Inv.check {cs:List Cl}{ps:List Pr}{l:List Int}(h:Inv cs ps l):chkL cs ps=true:=by
 have hC:=h.core;have hch:chainL cs 0=some (0::l):=hC.seg.chain _ (fun x hx=>hC.rng x hx) (by have:=meas_le cs 0;omega);rw[chkL,h.vb,hC.g0,hC.g1,hch];simp only[Jl,Ju,Qb,qh,qk,qr,locksB,z3d];refine⟨⟨fun i hi q hq=> ?_,fun i hi=> ?_⟩,?_⟩
 ·rw[qu,Qj,qy];exact h.lks i (by omega) (by omega) q hq
 ·rw[cellBad,qi];refine⟨?_,?_⟩
  ·cases hg:gn cs (i:Int) with
   |true=>simp
   |false=>
    by_cases h1:1<(i:Int)
    ·rw[hasB_iff.2 (hC.live (by omega) (by omega) hg)];simp
    ·simp[h1]
  ·cases hg:gn cs (i:Int) with
   |false=>simp
   |true=>
    cases hb:hasB (0::l) (i:Int) with
    |false=>simp
    |true=>
     rcases qw.1 (hasB_iff.1 hb) with e|e
     ·rw[e,hC.g0] at hg;cases hg
     ·obtain⟨q,g1,g2,g3⟩:=h.gin _ e hg;have:leavB ps (i:Int)=true:=z3s g1 (by simp[g2,g3]);rw[this];simp
 ·cases hf:freeB cs with
  |false=>exact .inl rfl
  |true=>
   refine .inr fun i hi=> ?_;have hi':i<l.length:=by simpa using hi
   obtain⟨h1,h2⟩:=hC.seg.nth hi';have hm:nth (0::l) i∈0::l:=nth_mem' (by simp;omega);rw[leftBad,qu,<-h2];rcases h.lef _ hm h1 with g|⟨q,g1,g2⟩
   ·exact g
   ·exfalso
    have hv:=vld_of h.vb;have ha:z48 (pr ps q)=true:=act_iff.2 (by omega);have hz:=h.prc q g1 ha;have hh:=hol_pred (x:=pr ps q) (by omega) (by omega) (hz.k3 (by omega) (by omega));rw[h.free hf g1 _ (hv.proc q g1).pred.1 (hv.proc q g1).pred.2] at hh
    cases hh
theorem Inv.marks {cs ds:List Cl}{ps:List Pr}{l:List Int}{y:Pr}(h:Inv cs ps l){p:Nat}(hp:p<ps.length)(ha:z48 (pr ps p)=true)(t:Tr cs p (pr ps p) ds y):
  z3w cs ds/\((∀i:Int,0<=i->gn ds i=gn cs i)/\(pr ps p).phase≠7/\(pr ps p).phase≠10/\y.phase≠8/\y.phase≠11\/
   (pr ps p).phase=7/\y={pr ps p with phase:=8}/\(pr ps p).kind=1/\gn cs (pr ps p).cell=true/\(∀i:Int,0<=i->gn ds i=if i=(pr ps p).cell then false else gn cs i)\/
   (pr ps p).phase=10/\y={pr ps p with phase:=11}/\(pr ps p).kind=2/\gn cs (pr ps p).cell=false/\(∀i:Int,0<=i->gn ds i=if i=(pr ps p).cell then true else gn cs i)):=by
 have hv:=vld_of h.vb;have hx:=h.prc p hp ha;have ok:=hv.proc p hp
 cases t with
 |adv e hl=>exact⟨.refl _,.inl ⟨fun _ _=>rfl,by omega,by omega,by dsimp only;omega,by dsimp only;omega⟩⟩
 |seek e hl hk=>exact⟨.refl _,.inl ⟨fun _ _=>rfl,by omega,by omega,by dsimp only;omega,by dsimp only;omega⟩⟩
 |aim e hl hk=>exact⟨.refl _,.inl ⟨fun _ _=>rfl,by omega,by omega,by dsimp only;omega,by dsimp only;omega⟩⟩
 |lockP e hf=>exact⟨key_setK ..,.inl ⟨fun i hi=>gn_setK ok.pred hi,by omega,by omega,by dsimp only;omega,by dsimp only;omega⟩⟩
 |lockS e hf=>exact⟨key_setK ..,.inl ⟨fun i hi=>gn_setK ok.succ hi,by omega,by omega,by dsimp only;omega,by dsimp only;omega⟩⟩
 |found e hk=>exact⟨.refl _,.inl ⟨fun _ _=>rfl,by omega,by omega,by dsimp only;omega,by dsimp only;omega⟩⟩
 |again e hk hb=>exact⟨.refl _,.inl ⟨fun _ _=>rfl,by omega,by omega,by dsimp only;omega,by dsimp only;omega⟩⟩
 |ins e hk hb hs=>exact⟨.refl _,.inl ⟨fun _ _=>rfl,by omega,by omega,by dsimp only;omega,by dsimp only;omega⟩⟩
 |rem e hk hb hs=>exact⟨.refl _,.inl ⟨fun _ _=>rfl,by omega,by omega,by dsimp only;omega,by dsimp only;omega⟩⟩
 |no e hk hb c1 c2=>exact⟨.refl _,.inl ⟨fun _ _=>rfl,by omega,by omega,by dsimp only;omega,by dsimp only;omega⟩⟩
 |retry e=>exact⟨key_unlk ..,.inl ⟨fun i _=>gn_unlk ..,by omega,by omega,by dsimp only;omega,by dsimp only;omega⟩⟩
 |rel e=>exact⟨key_unlk ..,.inl ⟨fun i _=>gn_unlk ..,by omega,by omega,by dsimp only;omega,by dsimp only;omega⟩⟩
 |lockN e hf=>
  have hr:=rt_in hv ok.cell.1 ok.cell.2;exact⟨key_setK ..,.inl ⟨fun i hi=>gn_setK hr hi,by omega,by omega,by dsimp only;omega,by dsimp only;omega⟩⟩
 |link0 e=>
  have hkF:=z58 cs (pr ps p).cell (pr ps p).pred;have hrF:0<=(pr ps p).cell/\(pr ps p).cell<(z4g cs (pr ps p).cell (pr ps p).pred).length:=by rw[hkF.len];exact ok.cell
  exact⟨hkF.trans (z4c ..),.inl ⟨fun i hi=>by rw[gn_setR hrF hi,z4k ok.cell hi],by omega,by omega,by dsimp only;omega,by dsimp only;omega⟩⟩
 |link1 e=>
  have hkR:=z4c cs (pr ps p).pred (pr ps p).cell;have hcR:0<=(pr ps p).cell/\(pr ps p).cell<(z2p cs (pr ps p).pred (pr ps p).cell).length:=by rw[hkR.len];exact ok.cell
  have k1:=(hx.i67 (.inr e)).1;have hcn:=(h.beside p hp ha).cn (.inr e);refine⟨hkR.trans (key_setU ..),.inr (.inl ⟨e,rfl,k1,?_,fun i hi=>by rw[gn_setU hcR hi,gn_setR ok.pred hi]⟩)⟩
  cases hg:gn cs (pr ps p).cell with
  |true=>rfl
  |false=>exact absurd (h.core.live ok.cell.1 ok.cell.2 hg) hcn
 |link2 e=>exact⟨z58 ..,.inl ⟨fun i hi=>z4k ok.succ hi,by omega,by omega,by dsimp only;omega,by dsimp only;omega⟩⟩
 |un0 e=>exact⟨key_setG ..,.inr (.inr ⟨e,rfl,(hx.r9 (.inr (.inl e))).1,hx.r90 (.inr e),fun i hi=>gn_setG ok.cell hi⟩)⟩
 |un1 e=>exact⟨z4c ..,.inl ⟨fun i hi=>gn_setR ok.pred hi,by omega,by omega,by dsimp only;omega,by dsimp only;omega⟩⟩
 |un2 e=>exact⟨z58 ..,.inl ⟨fun i hi=>z4k ok.next hi,by omega,by omega,by dsimp only;omega,by dsimp only;omega⟩⟩
end
section
def ec1:=aj @Tryz.szIntsK @Tryz.tyErrK
def ec2:=aj9 @Tryz.szErr @Tryz.zErr @Tryz.tyBoolK @Tryz.szBool @Tryz.zBool @Tryz.tyCl @Tryz.szCl @Tryz.zCl (aj9 @Tryz.tyPr @Tryz.szPr @Tryz.zPr @Tryz.tyCls @Tryz.szCls @Tryz.tyPrs @Tryz.szPrs @Tryz.szLsK @Tryz.zLsK)
def ec3:=aj6 @inCl.eq_1 @z2x.eq_1 @inPr.eq_1 @z3h.eq_1 @Cl.sv.eq_1 @Pr.sv.eq_1
def ec4:=aj3 @lsBox.eq_1 @lsOwn.eq_1 @noPrs.eq_1
def ec5:=aj9 @cls_0 @cls_1 @cls_2 @cls_3 @cls_4 @prs_0 @prs_1 @prs_2 (aj4 @prs_3 @prs_4 @prs_5 @prs_6)
def ec6:=aj3 @cls_take @prs_take @app_zeroK
def LlBm.exE:=aj9 @zg @zi @zn @zk ec1 ec2 @zj @zt (aj9 @zu ec3 ec4 @clCap.eq_1 @z47.eq_1 ec5 ec6 @z1d.eq_1 (aj3 @zz.eq_1 @z1c @z21))
def ec7:=aj @cls_ren' @cls_lt
def ec8:=aj @prs_ren' @prs_lt
def LlBm.gxE:=aj9 ec3 ec4 @clCap.eq_1 @z47.eq_1 ec7 ec8 @z1d.eq_1 @zz.eq_1 (aj @z1v @ints_lt'K)
def LlBm.oxE:= @zu
open LlBm (oxE gxE exE)
open D0 (sdE)
theorem less_specK (cs:List Cl)(n m:Nat)(hn:cs.length=n)(a b:Int)(ha:0<=a/\a<n)(hb:0<=b/\b<n):
  zf prog 91 [.agg [.slc false 0 0 0 n,.slc false 1 0 0 m],.int .i64 a,.int .i64 b] ⟨2,[(0,inCl cs),(1,noPrs)]⟩ (fun s H1=>s= .bool (z1l cs a b)/\H1=⟨2,[]⟩):=by
 subst hn;refine zf.ofC false 39 [.tmp 6] func91 rfl rfl ntmps91 results91 rfl ?_;intro w0 own0 β0 Q hQ hQn;simp only[z18];refine Zrs [1,2,3] ?_;refine z6 (zc fun Q0 hN0 hX0 hR0 hE0=> ?_);refine Zrs [1,2,3,7] ?_;refine z7 _ rfl ?_ ?_
 ·intro h7
  refine Zrs [6] ?_;refine zd (hR0 _ _ (hQ _ _ ?_));refine zb (H':=⟨2,[]⟩) (.inl rfl) ?_;refine Zou ?_;refine⟨Zs,(Zg id),Zs,?_⟩;rw[z1l,qf h7]
  first|trivial|exact⟨rfl,trivial⟩
 ·intro h7
  refine Zrs [1,2,3,19] ?_;refine z7 _ rfl ?_ ?_
  ·intro h19
   refine Zrs [6] ?_;refine zd (hR0 _ _ (hQ _ _ ?_));refine zb (H':=⟨2,[]⟩) (.inl rfl) ?_;refine Zou ?_;refine⟨Zs,(Zg id),Zs,?_⟩;rw[z1l,qb (by rw[h7];exact qn),qf h19]
   first|trivial|exact⟨rfl,trivial⟩
  ·intro h19
   refine za (ze (hN0 _ _ (z6 ?_)));refine Zrd [6] [0,1,2,3,4,5,6,7,8,9,10,11,12,13] [[],[],[],[],[],[],[],[],[],[],[],[],[],[]] [[],[],[],[],[],[],[],[],[],[],[],[],[],[]] ?_;intro K hK;iterate 14 (refine Zo (Zi [] []) ?_)
   refine z11 (Zpr (hK _ _ ?_));clear hK K;refine zd (hQ _ _ ?_);refine zb (H':=⟨2,[]⟩) (.inl rfl) ?_;refine Zou ?_;refine⟨Zs,(Zg id),Zs,?_⟩;rw[z1l,qb (by rw[h7];exact qn),qb (by rw[h19];exact qn)]
   first|trivial|exact⟨rfl,trivial⟩
theorem below_spec (cs:List Cl)(n m:Nat)(hn:cs.length=n)(a b:Int)(ha:0<=a/\a<n)(hb:0<=b/\b<n):
  zf prog 144 [.agg [.slc false 0 0 0 n,.slc false 1 0 0 m],.int .i64 a,.int .i64 b] ⟨2,[(0,inCl cs),(1,noPrs)]⟩ (fun s H1=>s= .bool (z1l cs a b)/\H1=⟨2,[]⟩):=by
 subst hn;refine zf.ofC false 39 [.tmp 6] func144 rfl rfl ntmps144 results144 rfl ?_;intro w0 own0 β0 Q hQ hQn;simp only[z18];refine Zrs [1,2,3] ?_;refine z6 ?_;refine Zrs [1,2,3,17] ?_;refine z7 _ rfl ?_ ?_
 ·intro h17
  refine Zrs [6] ?_;refine zd (hQ _ _ ?_);refine zb (H':=⟨2,[]⟩) (.inl rfl) ?_;refine Zou ?_;refine⟨Zs,(Zg id),Zs,?_⟩;rw[z1l,qf h17]
  first|trivial|exact⟨rfl,trivial⟩
 ·intro h17
  refine za (z6 ?_);refine Zrd [6] [0,1,2,3,4,5,6,7,8,9,10,11,12,13,14,15,16,17,18,19,20,21] [[],[],[],[],[],[],[],[],[],[],[],[],[],[],[],[],[],[],[],[],[],[]] [[],[],[],[],[],[],[],[],[],[],[],[],[],[],[],[],[],[],[],[],[],[]] ?_;intro K hK;iterate 22 (refine Zo (Zi [] []) ?_)
  refine z11 (Zpr (hK _ _ ?_));clear hK K;refine zd (hQ _ _ ?_);refine zb (H':=⟨2,[]⟩) (.inl rfl) ?_;refine Zou ?_;refine⟨Zs,(Zg id),Zs,?_⟩;rw[z1l,qb (by rw[h17];exact qn)]
  cases(a==0||b==1)<;>first|trivial|exact⟨rfl,trivial⟩
theorem active_spec (x:Pr):zf prog 139 [.agg x.sv] ⟨0,[]⟩ (fun s H1=>s= .bool (z48 x)/\H1=⟨0,[]⟩):=by
 refine zf.ofC false 11 [.tmp 2] func139 rfl rfl ntmps139 results139 rfl ?_;intro w0 own0 β0 Q hQ hQn;simp only[z18];refine Zrs [1] ?_;refine Zrs [2] ?_;refine zd (hQ _ _ ?_);refine zb (H':=⟨0,[]⟩) (.inl rfl) ?_;refine Zou ?_;refine⟨Zs,(Zg id),Zs,?_⟩
 first|trivial|exact⟨rfl,trivial⟩
theorem known_spec (x:Int):zf prog 135 [.int .i64 x] ⟨0,[]⟩ (fun s H1=>s= .bool (z2c x)/\H1=⟨0,[]⟩):=by
 refine zf.ofC false 20 [.tmp 2] func135 rfl rfl ntmps135 results135 rfl ?_;intro w0 own0 β0 Q hQ hQn;simp only[z18];refine Zrs [0] ?_;refine z6 ?_;refine Zrs [3] ?_;refine zc fun Q0 hN0 hX0 hR0 hE0=> ?_;refine z6 ?_;refine Zrs [3,4] ?_;refine z7 _ rfl ?_ ?_
 ·intro h4
  try replace h4:=Znb h4
  refine za ?_;refine z7 _ rfl ?_ ?_
  ·intro h4
   try replace h4:=Znb h4
   refine Zrs [2] ?_;refine zd (hR0 _ _ (hQ _ _ ?_));refine zb (H':=⟨0,[]⟩) (.inl rfl) ?_;refine Zou ?_;refine⟨Zs,(Zg id),Zs,?_⟩
   first|(rw[z2c,qG (by omega)];first|trivial|exact⟨rfl,trivial⟩)|(rw[z2c,qJ (by omega)];first|trivial|exact⟨rfl,trivial⟩)
  ·intro h4
   try replace h4:=Znb h4
   refine za (ze (hN0 _ _ ?_));refine Zrs [2] ?_;refine zd (hQ _ _ ?_)
   exfalso
   omega
 ·intro h4
  try replace h4:=Znb h4
  refine Zrs [3,4] ?_;refine z7 _ rfl ?_ ?_
  ·intro h4
   try replace h4:=Znb h4
   refine za ?_;refine z7 _ rfl ?_ ?_
   ·intro h4
    try replace h4:=Znb h4
    refine Zrs [2] ?_;refine zd (hR0 _ _ (hQ _ _ ?_));refine zb (H':=⟨0,[]⟩) (.inl rfl) ?_;refine Zou ?_;refine⟨Zs,(Zg id),Zs,?_⟩
    first|(rw[z2c,qG (by omega)];first|trivial|exact⟨rfl,trivial⟩)|(rw[z2c,qJ (by omega)];first|trivial|exact⟨rfl,trivial⟩)
   ·intro h4
    try replace h4:=Znb h4
    refine za (ze (hN0 _ _ ?_));refine Zrs [2] ?_;refine zd (hQ _ _ ?_)
    exfalso
    omega
  ·intro h4
   try replace h4:=Znb h4
   refine Zrs [3,4] ?_;refine z7 _ rfl ?_ ?_
   ·intro h4
    try replace h4:=Znb h4
    refine za ?_;refine z7 _ rfl ?_ ?_
    ·intro h4
     try replace h4:=Znb h4
     refine Zrs [2] ?_;refine zd (hR0 _ _ (hQ _ _ ?_));refine zb (H':=⟨0,[]⟩) (.inl rfl) ?_;refine Zou ?_;refine⟨Zs,(Zg id),Zs,?_⟩
     first|(rw[z2c,qG (by omega)];first|trivial|exact⟨rfl,trivial⟩)|(rw[z2c,qJ (by omega)];first|trivial|exact⟨rfl,trivial⟩)
    ·intro h4
     try replace h4:=Znb h4
     refine za (ze (hN0 _ _ ?_));refine Zrs [2] ?_;refine zd (hQ _ _ ?_)
     exfalso
     omega
   ·intro h4
    try replace h4:=Znb h4
    refine Zrs [3,4] ?_;refine z7 _ rfl ?_ ?_
    ·intro h4
     try replace h4:=Znb h4
     refine za ?_;refine z7 _ rfl ?_ ?_
     ·intro h4
      try replace h4:=Znb h4
      refine Zrs [2] ?_;refine zd (hR0 _ _ (hQ _ _ ?_));refine zb (H':=⟨0,[]⟩) (.inl rfl) ?_;refine Zou ?_;refine⟨Zs,(Zg id),Zs,?_⟩
      first|(rw[z2c,qG (by omega)];first|trivial|exact⟨rfl,trivial⟩)|(rw[z2c,qJ (by omega)];first|trivial|exact⟨rfl,trivial⟩)
     ·intro h4
      try replace h4:=Znb h4
      refine za (ze (hN0 _ _ ?_));refine Zrs [2] ?_;refine zd (hQ _ _ ?_)
      exfalso
      omega
    ·intro h4
     try replace h4:=Znb h4
     refine Zrs [3,4] ?_;refine z7 _ rfl ?_ ?_
     ·intro h4
      try replace h4:=Znb h4
      refine za ?_;refine z7 _ rfl ?_ ?_
      ·intro h4
       try replace h4:=Znb h4
       refine Zrs [2] ?_;refine zd (hR0 _ _ (hQ _ _ ?_));refine zb (H':=⟨0,[]⟩) (.inl rfl) ?_;refine Zou ?_;refine⟨Zs,(Zg id),Zs,?_⟩
       first|(rw[z2c,qG (by omega)];first|trivial|exact⟨rfl,trivial⟩)|(rw[z2c,qJ (by omega)];first|trivial|exact⟨rfl,trivial⟩)
      ·intro h4
       try replace h4:=Znb h4
       refine za (ze (hN0 _ _ ?_));refine Zrs [2] ?_;refine zd (hQ _ _ ?_)
       exfalso
       omega
     ·intro h4
      try replace h4:=Znb h4
      refine Zrs [3,4] ?_;refine z7 _ rfl ?_ ?_
      ·intro h4
       try replace h4:=Znb h4
       refine za ?_;refine z7 _ rfl ?_ ?_
       ·intro h4
        try replace h4:=Znb h4
        refine Zrs [2] ?_;refine zd (hR0 _ _ (hQ _ _ ?_));refine zb (H':=⟨0,[]⟩) (.inl rfl) ?_;refine Zou ?_;refine⟨Zs,(Zg id),Zs,?_⟩
        first|(rw[z2c,qG (by omega)];first|trivial|exact⟨rfl,trivial⟩)|(rw[z2c,qJ (by omega)];first|trivial|exact⟨rfl,trivial⟩)
       ·intro h4
        try replace h4:=Znb h4
        refine za (ze (hN0 _ _ ?_));refine Zrs [2] ?_;refine zd (hQ _ _ ?_)
        exfalso
        omega
      ·intro h4
       try replace h4:=Znb h4
       refine Zrs [3,4] ?_;refine z7 _ rfl ?_ ?_
       ·intro h4
        try replace h4:=Znb h4
        refine za ?_;refine z7 _ rfl ?_ ?_
        ·intro h4
         try replace h4:=Znb h4
         refine Zrs [2] ?_;refine zd (hR0 _ _ (hQ _ _ ?_));refine zb (H':=⟨0,[]⟩) (.inl rfl) ?_;refine Zou ?_;refine⟨Zs,(Zg id),Zs,?_⟩
         first|(rw[z2c,qG (by omega)];first|trivial|exact⟨rfl,trivial⟩)|(rw[z2c,qJ (by omega)];first|trivial|exact⟨rfl,trivial⟩)
        ·intro h4
         try replace h4:=Znb h4
         refine za (ze (hN0 _ _ ?_));refine Zrs [2] ?_;refine zd (hQ _ _ ?_)
         exfalso
         omega
       ·intro h4
        try replace h4:=Znb h4
        refine Zrs [3,4] ?_;refine z7 _ rfl ?_ ?_
        ·intro h4
         try replace h4:=Znb h4
         refine za ?_;refine z7 _ rfl ?_ ?_
         ·intro h4
          try replace h4:=Znb h4
          refine Zrs [2] ?_;refine zd (hR0 _ _ (hQ _ _ ?_));refine zb (H':=⟨0,[]⟩) (.inl rfl) ?_;refine Zou ?_;refine⟨Zs,(Zg id),Zs,?_⟩
          first|(rw[z2c,qG (by omega)];first|trivial|exact⟨rfl,trivial⟩)|(rw[z2c,qJ (by omega)];first|trivial|exact⟨rfl,trivial⟩)
         ·intro h4
          try replace h4:=Znb h4
          refine za (ze (hN0 _ _ ?_));refine Zrs [2] ?_;refine zd (hQ _ _ ?_)
          exfalso
          omega
        ·intro h4
         try replace h4:=Znb h4
         refine Zrs [3,4] ?_;refine z7 _ rfl ?_ ?_
         ·intro h4
          try replace h4:=Znb h4
          refine za ?_;refine z7 _ rfl ?_ ?_
          ·intro h4
           try replace h4:=Znb h4
           refine Zrs [2] ?_;refine zd (hR0 _ _ (hQ _ _ ?_));refine zb (H':=⟨0,[]⟩) (.inl rfl) ?_;refine Zou ?_;refine⟨Zs,(Zg id),Zs,?_⟩
           first|(rw[z2c,qG (by omega)];first|trivial|exact⟨rfl,trivial⟩)|(rw[z2c,qJ (by omega)];first|trivial|exact⟨rfl,trivial⟩)
          ·intro h4
           try replace h4:=Znb h4
           refine za (ze (hN0 _ _ ?_));refine Zrs [2] ?_;refine zd (hQ _ _ ?_)
           exfalso
           omega
         ·intro h4
          try replace h4:=Znb h4
          refine Zrs [3,4] ?_;refine z7 _ rfl ?_ ?_
          ·intro h4
           try replace h4:=Znb h4
           refine za ?_;refine z7 _ rfl ?_ ?_
           ·intro h4
            try replace h4:=Znb h4
            refine Zrs [2] ?_;refine zd (hR0 _ _ (hQ _ _ ?_));refine zb (H':=⟨0,[]⟩) (.inl rfl) ?_;refine Zou ?_;refine⟨Zs,(Zg id),Zs,?_⟩
            first|(rw[z2c,qG (by omega)];first|trivial|exact⟨rfl,trivial⟩)|(rw[z2c,qJ (by omega)];first|trivial|exact⟨rfl,trivial⟩)
           ·intro h4
            try replace h4:=Znb h4
            refine za (ze (hN0 _ _ ?_));refine Zrs [2] ?_;refine zd (hQ _ _ ?_)
            exfalso
            omega
          ·intro h4
           try replace h4:=Znb h4
           refine Zrs [3,4] ?_;refine z7 _ rfl ?_ ?_
           ·intro h4
            try replace h4:=Znb h4
            refine za ?_;refine z7 _ rfl ?_ ?_
            ·intro h4
             try replace h4:=Znb h4
             refine Zrs [2] ?_;refine zd (hR0 _ _ (hQ _ _ ?_));refine zb (H':=⟨0,[]⟩) (.inl rfl) ?_;refine Zou ?_;refine⟨Zs,(Zg id),Zs,?_⟩
             first|(rw[z2c,qG (by omega)];first|trivial|exact⟨rfl,trivial⟩)|(rw[z2c,qJ (by omega)];first|trivial|exact⟨rfl,trivial⟩)
            ·intro h4
             try replace h4:=Znb h4
             refine za (ze (hN0 _ _ ?_));refine Zrs [2] ?_;refine zd (hQ _ _ ?_)
             exfalso
             omega
           ·intro h4
            try replace h4:=Znb h4
            refine Zrs [3,4] ?_;refine z7 _ rfl ?_ ?_
            ·intro h4
             try replace h4:=Znb h4
             refine za ?_;refine z7 _ rfl ?_ ?_
             ·intro h4
              try replace h4:=Znb h4
              refine Zrs [2] ?_;refine zd (hR0 _ _ (hQ _ _ ?_));refine zb (H':=⟨0,[]⟩) (.inl rfl) ?_;refine Zou ?_;refine⟨Zs,(Zg id),Zs,?_⟩
              first|(rw[z2c,qG (by omega)];first|trivial|exact⟨rfl,trivial⟩)|(rw[z2c,qJ (by omega)];first|trivial|exact⟨rfl,trivial⟩)
             ·intro h4
              try replace h4:=Znb h4
              refine za (ze (hN0 _ _ ?_));refine Zrs [2] ?_;refine zd (hQ _ _ ?_)
              exfalso
              omega
            ·intro h4
             try replace h4:=Znb h4
             refine Zrs [3,4] ?_;refine z7 _ rfl ?_ ?_
             ·intro h4
              try replace h4:=Znb h4
              refine za ?_;refine z7 _ rfl ?_ ?_
              ·intro h4
               try replace h4:=Znb h4
               refine Zrs [2] ?_;refine zd (hR0 _ _ (hQ _ _ ?_));refine zb (H':=⟨0,[]⟩) (.inl rfl) ?_;refine Zou ?_;refine⟨Zs,(Zg id),Zs,?_⟩
               first|(rw[z2c,qG (by omega)];first|trivial|exact⟨rfl,trivial⟩)|(rw[z2c,qJ (by omega)];first|trivial|exact⟨rfl,trivial⟩)
              ·intro h4
               try replace h4:=Znb h4
               refine za (ze (hN0 _ _ ?_));refine Zrs [2] ?_;refine zd (hQ _ _ ?_)
               exfalso
               omega
             ·intro h4
              try replace h4:=Znb h4
              refine Zrs [3,4] ?_;refine z7 _ rfl ?_ ?_
              ·intro h4
               try replace h4:=Znb h4
               refine za ?_;refine z7 _ rfl ?_ ?_
               ·intro h4
                try replace h4:=Znb h4
                refine Zrs [2] ?_;refine zd (hR0 _ _ (hQ _ _ ?_));refine zb (H':=⟨0,[]⟩) (.inl rfl) ?_;refine Zou ?_;refine⟨Zs,(Zg id),Zs,?_⟩
                first|(rw[z2c,qG (by omega)];first|trivial|exact⟨rfl,trivial⟩)|(rw[z2c,qJ (by omega)];first|trivial|exact⟨rfl,trivial⟩)
               ·intro h4
                try replace h4:=Znb h4
                refine za (ze (hN0 _ _ ?_));refine Zrs [2] ?_;refine zd (hQ _ _ ?_)
                exfalso
                omega
              ·intro h4
               try replace h4:=Znb h4
               refine Zrg [4] ?_;refine z7 _ rfl ?_ ?_
               ·intro h4
                try replace h4:=Znb h4
                refine Zrs [2] ?_;refine zd (hR0 _ _ (hQ _ _ ?_));refine zb (H':=⟨0,[]⟩) (.inl rfl) ?_;refine Zou ?_;refine⟨Zs,(Zg id),Zs,?_⟩
                first|(rw[z2c,qG (by omega)];first|trivial|exact⟨rfl,trivial⟩)|(rw[z2c,qJ (by omega)];first|trivial|exact⟨rfl,trivial⟩)
               ·intro h4
                try replace h4:=Znb h4
                refine za (ze (hN0 _ _ ?_));refine Zrs [2] ?_;refine zd (hQ _ _ ?_);refine zb (H':=⟨0,[]⟩) (.inl rfl) ?_;refine Zou ?_;refine⟨Zs,(Zg id),Zs,?_⟩
                first|(rw[z2c,qG (by omega)];first|trivial|exact⟨rfl,trivial⟩)|(rw[z2c,qJ (by omega)];first|trivial|exact⟨rfl,trivial⟩)
end
section
def LlCm.axE:=aj9 @zg @zi @zn @zk ec1 ec2 @zj @zt (aj9 @zu ec3 ec4 @clCap.eq_1 @z47.eq_1 ec5 ec6 @z1d.eq_1 (aj6 @zz.eq_1 @z1c @z21 @z2n @z31 @z1q))
open LlBm (gxE oxE exE)
open LlCm (axE)
open D0 (sdE)
theorem validTest (x c:Cl):zf prog 171 [.agg x.sv,.ptr 0 0 0 0] ⟨1,[(0,clCap c)]⟩ (fun s H1=>s= .bool (sameKey c x)/\H1=⟨1,[]⟩):=by
 refine zf.ofC false 9 [.tmp 3] func171 rfl rfl ntmps171 results171 rfl ?_;intro w0 own0 β0 Q hQ hQn;simp only[z18];refine Zrs [1,2] ?_;refine Zrs [3] ?_;refine zd (hQ _ _ ?_);refine zb (H':=⟨1,[]⟩) (.inl rfl) ?_;refine Zou ?_;refine⟨Zs,(Zg id),Zs,?_⟩
 first|trivial|exact⟨rfl,by trivial⟩
def insP (i:Int)(x:Pr):Bool:=x.phase==11 && x.cell==i
theorem checkTestK (x:Pr)(i:Int):zf prog 117 [.agg x.sv,.ptr 0 0 0 0] ⟨1,[(0,z47 i)]⟩ (fun s H1=>s= .bool (insP i x)/\H1=⟨1,[]⟩):=by
 refine zf.ofC false 13 [.tmp 3] func117 rfl rfl ntmps117 results117 rfl ?_;intro w0 own0 β0 Q hQ hQn;simp only[z18];refine Zrs [1,2] ?_;refine sg [3] rfl ?_;intro K hK
 have hk1:∀B:Bool,B=insP i x->K [(3,.bool B)] ⟨2,[(1,uQ (.row ⟨true,true,110,7,1,fun _=>x.sv⟩)),(0,z47 i)]⟩:=by
  intro B hB;subst hB;refine hK _ _ ?_;clear hK K;refine zd (hQ _ _ ?_);refine zb (H':=⟨1,[]⟩) (.inl rfl) ?_;refine Zou ?_;refine⟨Zs,(Zg id),Zs,?_⟩
  first|trivial|exact⟨rfl,by trivial⟩
 iterate 9 (refine Zo Zl ?_)
 try with_reducible refine qe (by clear hk1;simp_all;done) ?_
 repeat(with_reducible apply qe;exact sdE)
 refine Zo Zl ?_;refine z8 ?_;refine Zpr ?_;refine hk1 _ ?_;clear hk1
 first|(simp_all[insP];done)|(simp_all[insP];rfl)
theorem clIndex_spec (c:Cl)(xs:List Cl)(n o m:Nat)(hn:xs.length=n)(h:o+m<=n)(hx:n<=1000000):
  zf prog 195 [.slc false 0 0 o m,.fn 171 [.ptr 1 0 0 0]] ⟨2,[(0,inCl xs),(1,clCap c)]⟩
   (fun s H1=>s= .int .i64 (idxBK m fun i=>sameKey c (cl xs (o+i)))/\H1=⟨2,[]⟩):=by
 subst hn;refine zf.ofC false 19 [.tmp 4] func195 rfl rfl ntmps195 results195 rfl ?_;intro w0 own0 β0 Q hQ hQn;simp only[z18];refine Zrs [0,1] ?_;refine z6 ?_;refine Zrs [0,1,7,8] ?_;refine zc fun Q0 hN0 hX0 hR0 hE0=> ?_;refine zx (σ:=Nat) (fun i=>i<=m/\∀q,q<i->sameKey c (cl xs (o+q))=false) (fun i=>m-i) (fun i=>[(0,.slc false 0 0 o m),(1,.fn 171 [.ptr 1 0 0 0]),(7,.int .i64 m),(8,.int .i64 i)]) (fun _=>⟨2,[(0,inCl xs),(1,clCap c)]⟩) 0 ⟨qp _,fun q h=>by omega⟩ (ρ:=id) (have xE:=@clCap.eq_1;Zgx id) ?_;rintro i hi QL1 hL1 hRL1 hEL1;refine Zrs [0,1,7,8,9] ?_;refine z6 ?_;refine z7 _ rfl ?_ ?_
 ·intro h9;replace h9:=Znb h9;obtain⟨hi1,hi2⟩:=hi;refine za (z6 (zc fun Q1 hN1 hX1 hR1 hE1=> ?_));refine Zrs [0,1,5,7,8] ?_;refine sg [0,1,5,7,8,16] rfl ?_;intro K hK;iterate 5 (refine Zo Zl ?_)
  refine Zo Zl ?_;refine Zc1 (validTest (cl xs (o+i)) c) (fun _=>1) ?_;refine z8 (Zpr (hK _ _ ?_));clear hK K;refine z7 _ rfl ?_ ?_
  ·intro h16
   refine Zrs [4] ?_;refine zd (hR1 _ _ (hRL1 _ _ (hR0 _ _ (hQ _ _ ?_))));refine zb (H':=⟨2,[]⟩) (.inl rfl) ?_;refine Zou ?_;refine⟨Zs,(Zg id),Zs,?_⟩;rw[idxB_atK (p:=fun i=>sameKey c (cl xs (o+i))) h16 (by omega) hi2]
   first|trivial|exact⟨rfl,by trivial⟩
  ·intro h16
   refine za (ze (hN1 _ _ ?_));refine Zrg [0,1,7,8] ?_;refine ze (hL1 _ _ ?_);rw[show(i:Int)+1=((i+1:Nat):Int) from by omega];refine⟨i+1,⟨⟨by omega,fun q hq=> ?_⟩,by omega⟩,id,(have xE:=@clCap.eq_1;Zgx id)⟩
   by_cases e:q=i
   ·subst e;exact h16
   ·exact hi2 q (by omega)
 ·intro h9;replace h9:=Znb h9;obtain⟨hi1,hi2⟩:=hi;refine zw (hEL1 _ _ _ (hX0 _ _ ?_));refine Zrs [4] ?_;refine zd (hQ _ _ ?_);refine zb (H':=⟨2,[]⟩) (.inl rfl) ?_;refine Zou ?_;refine⟨Zs,(Zg id),Zs,?_⟩;rw[idxB_noneK (p:=fun i=>sameKey c (cl xs (o+i))) fun q hq=>hi2 q (by omega)]
  first|trivial|exact⟨rfl,by trivial⟩
theorem clContains_spec (c:Cl)(xs:List Cl)(n o m:Nat)(hn:xs.length=n)(h:o+m<=n)(hx:n<=1000000):
  zf prog 170 [.slc false 0 0 o m,.fn 171 [.ptr 1 0 0 0]] ⟨2,[(0,inCl xs),(1,clCap c)]⟩
   (fun s H1=>s= .bool (z57 m fun i=>sameKey c (cl xs (o+i)))/\H1=⟨2,[]⟩):=by
 refine zf.ofC false 9 [.tmp 4] func170 rfl rfl ntmps170 results170 rfl ?_;intro w0 own0 β0 Q hQ hQn;simp only[z18];refine Zrs [0,1] ?_;refine sg [4] rfl ?_;intro K hK;iterate 2 (refine Zo Zl ?_)
 refine Zo Zl ?_;refine Zc1 (clIndex_spec c xs n o m hn h hx) (id) ?_;iterate 2 (refine Zo Zl ?_)
 refine z8 (Zpr (hK _ _ ?_));clear hK K;refine zd (hQ _ _ ?_);refine zb (H':=⟨2,[]⟩) (.inl rfl) ?_;refine Zou ?_;refine⟨Zs,(Zg id),Zs,?_⟩;rw[idxB_anyK]
 first|trivial|exact⟨rfl,by trivial⟩
theorem prIndex_spec (c:Int)(xs:List Pr)(n o m:Nat)(hn:xs.length=n)(h:o+m<=n)(hx:n<=1000000):
  zf prog 154 [.slc false 0 0 o m,.fn 117 [.ptr 1 0 0 0]] ⟨2,[(0,inPr xs),(1,z47 c)]⟩
   (fun s H1=>s= .int .i64 (idxBK m fun i=>insP c (pr xs (o+i)))/\H1=⟨2,[]⟩):=by
 subst hn;refine zf.ofC false 19 [.tmp 4] func154 rfl rfl ntmps154 results154 rfl ?_;intro w0 own0 β0 Q hQ hQn;simp only[z18];refine Zrs [0,1] ?_;refine z6 ?_;refine Zrs [0,1,7,8] ?_;refine zc fun Q0 hN0 hX0 hR0 hE0=> ?_;refine zx (σ:=Nat) (fun i=>i<=m/\∀q,q<i->insP c (pr xs (o+q))=false) (fun i=>m-i) (fun i=>[(0,.slc false 0 0 o m),(1,.fn 117 [.ptr 1 0 0 0]),(7,.int .i64 m),(8,.int .i64 i)]) (fun _=>⟨2,[(0,inPr xs),(1,z47 c)]⟩) 0 ⟨qp _,fun q h=>by omega⟩ (ρ:=id) (have xE:=@z47.eq_1;Zgx id) ?_;rintro i hi QL1 hL1 hRL1 hEL1;refine Zrs [0,1,7,8,9] ?_;refine z6 ?_;refine z7 _ rfl ?_ ?_
 ·intro h9;replace h9:=Znb h9;obtain⟨hi1,hi2⟩:=hi;refine za (z6 (zc fun Q1 hN1 hX1 hR1 hE1=> ?_));refine Zrs [0,1,5,7,8] ?_;refine sg [0,1,5,7,8,16] rfl ?_;intro K hK;iterate 5 (refine Zo Zl ?_)
  refine Zo Zl ?_;refine Zc1 (checkTestK (pr xs (o+i)) c) (fun _=>1) ?_;refine z8 (Zpr (hK _ _ ?_));clear hK K;refine z7 _ rfl ?_ ?_
  ·intro h16
   refine Zrs [4] ?_;refine zd (hR1 _ _ (hRL1 _ _ (hR0 _ _ (hQ _ _ ?_))));refine zb (H':=⟨2,[]⟩) (.inl rfl) ?_;refine Zou ?_;refine⟨Zs,(Zg id),Zs,?_⟩;rw[idxB_atK (p:=fun i=>insP c (pr xs (o+i))) h16 (by omega) hi2]
   first|trivial|exact⟨rfl,by trivial⟩
  ·intro h16
   refine za (ze (hN1 _ _ ?_));refine Zrg [0,1,7,8] ?_;refine ze (hL1 _ _ ?_);rw[show(i:Int)+1=((i+1:Nat):Int) from by omega];refine⟨i+1,⟨⟨by omega,fun q hq=> ?_⟩,by omega⟩,id,(have xE:=@z47.eq_1;Zgx id)⟩
   by_cases e:q=i
   ·subst e;exact h16
   ·exact hi2 q (by omega)
 ·intro h9;replace h9:=Znb h9;obtain⟨hi1,hi2⟩:=hi;refine zw (hEL1 _ _ _ (hX0 _ _ ?_));refine Zrs [4] ?_;refine zd (hQ _ _ ?_);refine zb (H':=⟨2,[]⟩) (.inl rfl) ?_;refine Zou ?_;refine⟨Zs,(Zg id),Zs,?_⟩;rw[idxB_noneK (p:=fun i=>insP c (pr xs (o+i))) fun q hq=>hi2 q (by omega)]
  first|trivial|exact⟨rfl,by trivial⟩
theorem prContains_spec (c:Int)(xs:List Pr)(n o m:Nat)(hn:xs.length=n)(h:o+m<=n)(hx:n<=1000000):
  zf prog 116 [.slc false 0 0 o m,.fn 117 [.ptr 1 0 0 0]] ⟨2,[(0,inPr xs),(1,z47 c)]⟩
   (fun s H1=>s= .bool (z57 m fun i=>insP c (pr xs (o+i)))/\H1=⟨2,[]⟩):=by
 refine zf.ofC false 9 [.tmp 4] func116 rfl rfl ntmps116 results116 rfl ?_;intro w0 own0 β0 Q hQ hQn;simp only[z18];refine Zrs [0,1] ?_;refine sg [4] rfl ?_;intro K hK;iterate 2 (refine Zo Zl ?_)
 refine Zo Zl ?_;refine Zc1 (prIndex_spec c xs n o m hn h hx) (id) ?_;iterate 2 (refine Zo Zl ?_)
 refine z8 (Zpr (hK _ _ ?_));clear hK K;refine zd (hQ _ _ ?_);refine zb (H':=⟨2,[]⟩) (.inl rfl) ?_;refine Zou ?_;refine⟨Zs,(Zg id),Zs,?_⟩;rw[idxB_anyK]
 first|trivial|exact⟨rfl,by trivial⟩
theorem index2_spec (xs:List Int)(v:Int)(n:Nat)(hn:xs.length=n)(hx:n<=1000000):
  zf prog 121 [.slc false 0 0 0 n,.int .i64 v] ⟨1,[(0,z1d xs)]⟩ (fun s H1=>s= .int .i64 (idxBK n fun i=>v==nth xs i)/\H1=⟨1,[]⟩):=by
 subst hn;refine zf.ofC false 19 [.tmp 4] func121 rfl rfl ntmps121 results121 rfl ?_;intro w0 own0 β0 Q hQ hQn;simp only[z18];refine Zrs [0,1] ?_;refine z6 ?_;refine Zrs [0,1,7,8] ?_;refine zc fun Q0 hN0 hX0 hR0 hE0=> ?_;refine zx (σ:=Nat) (fun i=>i<=xs.length/\∀q,q<i->(v==nth xs q)=false) (fun i=>xs.length-i) (fun i=>[(0,.slc false 0 0 0 xs.length),(1,.int .i64 v),(7,.int .i64 xs.length),(8,.int .i64 i)]) (fun _=>⟨1,[(0,z1d xs)]⟩) 0 ⟨qp _,fun q h=>by omega⟩ (ρ:=id) (Zg id) ?_;rintro i hi QL1 hL1 hRL1 hEL1;refine Zrs [0,1,7,8,9] ?_;refine z6 ?_;refine z7 _ rfl ?_ ?_
 ·intro h9;replace h9:=Znb h9;obtain⟨hi1,hi2⟩:=hi;refine za (z6 (zc fun Q1 hN1 hX1 hR1 hE1=> ?_));refine Zrs [0,1,5,7,8] ?_;refine Zrs [0,1,5,7,8,16] ?_;refine z7 _ rfl ?_ ?_
  ·intro h16
   refine Zrs [4] ?_;refine zd (hR1 _ _ (hRL1 _ _ (hR0 _ _ (hQ _ _ ?_))));refine zb (H':=⟨1,[]⟩) (.inl rfl) ?_;refine Zou ?_;refine⟨Zs,(Zg id),Zs,?_⟩;rw[idxB_atK (p:=fun i=>v==nth xs i) h16 (by omega) hi2]
   first|trivial|exact⟨rfl,by trivial⟩
  ·intro h16
   refine za (ze (hN1 _ _ ?_));refine Zrg [0,1,7,8] ?_;refine ze (hL1 _ _ ?_);rw[show(i:Int)+1=((i+1:Nat):Int) from by omega];refine⟨i+1,⟨⟨by omega,fun q hq=> ?_⟩,by omega⟩,id,(Zg id)⟩
   by_cases e:q=i
   ·subst e;exact h16
   ·exact hi2 q (by omega)
 ·intro h9;replace h9:=Znb h9;obtain⟨hi1,hi2⟩:=hi;refine zw (hEL1 _ _ _ (hX0 _ _ ?_));refine Zrs [4] ?_;refine zd (hQ _ _ ?_);refine zb (H':=⟨1,[]⟩) (.inl rfl) ?_;refine Zou ?_;refine⟨Zs,(Zg id),Zs,?_⟩;rw[idxB_noneK (p:=fun i=>v==nth xs i) fun q hq=>hi2 q (by omega)]
  first|trivial|exact⟨rfl,by trivial⟩
theorem contains2_spec (xs:List Int)(v:Int)(n:Nat)(hn:xs.length=n)(hx:n<=1000000):
  zf prog 115 [.slc false 0 0 0 n,.int .i64 v] ⟨1,[(0,z1d xs)]⟩ (fun s H1=>s= .bool (hasB xs v)/\H1=⟨1,[]⟩):=by
 subst hn;refine zf.ofC false 9 [.tmp 4] func115 rfl rfl ntmps115 results115 rfl ?_;intro w0 own0 β0 Q hQ hQn;simp only[z18];refine Zrs [0,1] ?_;refine sg [4] rfl ?_;intro K hK;iterate 2 (refine Zo Zl ?_)
 refine Zo Zl ?_;refine Zc1 (index2_spec xs v xs.length rfl hx) (id) ?_;iterate 2 (refine Zo Zl ?_)
 refine z8 (Zpr (hK _ _ ?_));clear hK K;refine zd (hQ _ _ ?_);refine zb (H':=⟨1,[]⟩) (.inl rfl) ?_;refine Zou ?_;refine⟨Zs,(Zg id),Zs,?_⟩;rw[idxB_anyK]
 first|trivial|exact⟨rfl,by trivial⟩
end
section
open LlBm (gxE oxE exE)
open LlCm (axE)
open D0 (sdE)
theorem chain_spec (cs:List Cl)(ps:List Pr)(n m:Nat)(hn:cs.length=n)(hm:ps.length=m)(h:Rts cs):
  zf prog 113 [.agg [.slc false 0 0 0 n,.slc false 1 0 0 m]] ⟨2,[(0,inCl cs),(1,inPr ps)]⟩
   (fun s H1=> ∃out:List Int,(∀l,chainL cs 0=some l->out=l)/\out.length<=n+1/\s= .tup [.slc true 2 0 0 out.length,.bool (chainL cs 0).isSome]/\H1=⟨3,[(2,zz out)]⟩):=by
 subst hn hm;obtain⟨r0,hr0⟩:∃r0,chainL cs 0=r0:=⟨_,rfl⟩;rw[hr0];refine zf.ofC false 27 [.tmp 2,.tmp 3] func113 rfl rfl ntmps113 results113 rfl ?_;intro w0 own0 β0 Q hQ hQn;simp only[z18];refine Zrs [1] ?_;refine Zrs [1,4] ?_;refine z6 ?_;refine Zrs [1,4,5] ?_;refine zc fun Q0 hN0 hX0 hR0 hE0=> ?_;refine zx (σ:=List Int×Int×Nat) (fun σ=>0<=σ.2.1/\σ.2.1<cs.length/\meas cs σ.2.1<σ.2.2/\σ.1.length+σ.2.2=cs.length+1/\r0=(chainF cs σ.2.2 σ.2.1).map (σ.1++ ·)) (fun σ=>σ.2.2) (fun σ=>[(5,.int .i64 σ.2.1),(1,.ptr 2 0 0 0),(4,.slc true 3 0 0 (σ.1++[σ.2.1]).length)]) (fun σ=>⟨4,[(3,zz (σ.1++[σ.2.1])),(2,lsBox 0 cs.length 1 ps.length),(0,inCl cs),(1,inPr ps)]⟩) ([],0,cs.length+1) ⟨JI 0,by have:=h.two;dsimp only;omega,by have:=meas_le cs 0;dsimp only;omega,by simp,by rw[<-hr0,chainL];simp⟩ (ρ:=id) (Zg id) ?_;rintro⟨pre,b,k⟩ hi QL1 hL1 hRL1 hEL1;refine z6 ?_;refine Zrs [1,4,5,9] ?_;refine z7 _ rfl ?_ ?_
 ·intro h9;replace h9:=Znb h9;obtain⟨hb1,hb2,hk,hpl,hr⟩:=hi;dsimp only at hb1 hb2 hk hpl hr;have hrt:=h.rt b.toNat (by omega);obtain⟨k,rfl⟩:∃k',k=k'+1:=⟨k-1,by omega⟩;refine za (zc fun Q1 hN1 hX1 hR1 hE1=> ?_);refine Zrs [1,4,5,6] ?_;refine z6 ?_;refine sg [1,4,6,20] rfl ?_;intro K hK;iterate 3 (refine Zo Zl ?_)
  refine Zo Zl ?_;refine Zc1 (less_specK cs cs.length ps.length rfl b (cl cs b.toNat).right ⟨hb1,hb2⟩ hrt) (id) ?_;refine Zo Zl ?_;refine z8 (Zpr (hK _ _ ?_));clear hK K;refine z7 _ rfl ?_ ?_
  ·intro h20;replace h20:=Znb h20;have hr2:r0=none:=by rw[hr,chainF,qb (by simpa using h9),qb (by rw[h20];exact qn)];rfl
   subst hr2;refine Zrs [2,3] ?_;refine z2d 2 3 1 (ints []) rfl ?_;dsimp only;refine zd (hR1 _ _ (hRL1 _ _ (hR0 _ _ (hQ _ _ ?_))));refine zm (fun q=>if q=2 then 4 else q) (.tup [.slc true 2 0 0 ([]:List Int).length,.bool false]) (⟨3,[(2,zz [])]⟩) (.inl rfl) ?_;refine Zou ?_;refine⟨Zs,Zs,(Zg (fun q=>if q=2 then 4 else q)),Zs,?_⟩;exact⟨[],fun l hl=>(by cases hl),by simp,rfl,rfl⟩
  ·intro h20;replace h20:=Znb h20
   have hr2:r0=(chainF cs k (cl cs b.toNat).right).map (fun q=>pre++[b]++q):=by
    rw[hr,chainF,qb (by simpa using h9),qf h20,Option.map_map]
    congr 1;funext q;simp
   have hms:=meas_lt hrt h20;have hbig:=h.big;have hpl2:(pre++[b]).length<=1073741823:=by simp only[qU,Qf];omega
   refine za ?_;refine Zrs [1,4,5] ?_;refine Zrg [1,4,5] ?_;refine ze (hN1 _ _ (ze (hL1 _ _ ?_)));refine⟨(pre++[b],(cl cs b.toNat).right,k),⟨⟨hrt.1,hrt.2,by dsimp only;omega,by simp only[qU,Qf];omega,hr2⟩,by dsimp only;omega⟩,fun q=>if q=3 then 5 else q,?_⟩;exact(Zg (fun q=>if q=3 then 5 else q))
 ·intro h9;replace h9:=Znb h9;obtain⟨hb1,hb2,hk,hpl,hr⟩:=hi;dsimp only at hb1 hb2 hk hpl hr;subst h9;obtain⟨k,rfl⟩:∃k',k=k'+1:=⟨k-1,by omega⟩;have hr2:r0=some (pre++[1]):=by rw[hr,chainF];rfl
  subst hr2;refine zw (hEL1 _ _ _ (hX0 _ _ ?_));refine Zrs [2,3] ?_;refine zd (hQ _ _ ?_);refine zm (fun q=>if q=2 then 3 else q) (.tup [.slc true 2 0 0 (pre++[1]).length,.bool true]) (⟨3,[(2,zz (pre++[1]))]⟩) (.inl rfl) ?_;refine Zou ?_;refine⟨Zs,Zs,(Zg (fun q=>if q=2 then 3 else q)),Zs,?_⟩;exact⟨pre++[1],fun l hl=>(by cases hl;rfl),by simp;omega,rfl,rfl⟩
end
section
theorem LlEm.sdE {a:Prop}(h:a:=by first|exact D0.sdE|(intro hq;simp_all only[qr,qh,qi,qv,qk,qq,qj,qg,qy,qz,qX,ne_eq,Qa,q9,qH,qu];omega)|(intro hq;simp_all;done)):a:=h
open LlBm (gxE oxE exE)
open LlCm (axE)
open LlEm (sdE)
theorem cells_spec (cs:List Cl)(ps:List Pr)(n m:Nat)(hn:cs.length=n)(hm:ps.length=m)(hx:n<=9223372036854775807)(hy:m<=9223372036854775807):
  zf prog 136 [.agg [.slc false 0 0 0 n,.slc false 1 0 0 m]] ⟨2,[(0,inCl cs),(1,inPr ps)]⟩ (fun s H1=>s= .bool (cellsK cs ps)/\H1=⟨2,[]⟩):=by
 subst hn hm;refine zf.ofC false 144 [.tmp 2] func136 rfl rfl ntmps136 results136 rfl ?_;intro w0 own0 β0 Q hQ hQn;simp only[z18];refine Zrs [1] ?_;refine Zrs [1,3] ?_;refine z6 ?_;refine sg [1,3,44] rfl ?_;intro K hK;iterate 6 (refine Zo Zl ?_)
 refine absB ?_;intro b16 hb16;repeat(with_reducible apply qe;exact sdE)
 iterate 6 (refine Zo Zl ?_)
 refine absB ?_;intro b22 hb22;repeat(with_reducible apply qe;exact sdE)
 iterate 6 (refine Zo Zl ?_)
 refine absB ?_;intro b28 hb28;repeat(with_reducible apply qe;exact sdE)
 iterate 8 (refine Zo Zl ?_)
 refine absB ?_;intro b36 hb36;repeat(with_reducible apply qe;exact sdE)
 iterate 8 (refine Zo Zl ?_)
 refine absB ?_;intro b44 hb44;repeat(with_reducible apply qe;exact sdE)
 refine z8 ?_;refine Zpr ?_;subst hb16 hb22 hb28 hb36 hb44;refine hK _ _ ?_;clear hK K;refine z7 _ rfl ?_ ?_
 ·intro h44;have hh:headBad cs ps=true:=h44;refine Zrs [2] ?_;refine zd (hQ _ _ ?_);refine zb (H':=⟨2,[]⟩) (.inl rfl) ?_;refine Zou ?_;refine⟨Zs,(Zg id),Zs,?_⟩;rw[cellsK,hh]
  first|trivial|exact⟨rfl,trivial⟩
 ·intro h44;have hh:headBad cs ps=false:=h44;replace h44:=Znb h44;refine za (z6 ?_);refine Zrs [1,3,46,47,48] ?_;refine zc fun Q0 hN0 hX0 hR0 hE0=> ?_;refine zx (σ:=Nat) (fun i=>i<=cs.length/\∀q,q<i->(badK cs.length ps.length (cl cs q)||dupC cs q)=false) (fun i=>cs.length-i) (fun i=>[(1,.ptr 2 0 0 0),(3,.int .i64 cs.length),(46,.slc false 0 0 0 cs.length),(47,.int .i64 cs.length),(48,.int .i64 i)]) (fun _=>⟨3,[(2,lsBox 0 cs.length 1 ps.length),(0,inCl cs),(1,inPr ps)]⟩) 0 ⟨qp _,fun q h=>by omega⟩ (ρ:=id) (Zg id) ?_;rintro i hi QL1 hL1 hRL1 hEL1;refine Zrs [1,3,46,47,48,49] ?_;refine z6 ?_;refine z7 _ rfl ?_ ?_
  ·intro h49;replace h49:=Znb h49;obtain⟨hi1,hi2⟩:=hi;have hil:i<cs.length:=by omega
   refine za (z6 (zc fun Q1 hN1 hX1 hR1 hE1=> ?_));refine Zrs [1,3,4,5,46,47,48] ?_;refine z6 ?_;refine sg [1,3,4,5,46,47,48,91] rfl ?_;intro K hK
   have hk7:∀B:Bool,B=badK cs.length ps.length (cl cs i)->K [(1,.ptr 2 0 0 0),(3,.int .i64 cs.length),(4,.int .i64 i),(5,.ptr 3 0 0 0),(46,.slc false 0 0 0 cs.length),(47,.int .i64 cs.length),(48,.int .i64 i),(91,.bool B)] ⟨4,[(3,uQ (.row ⟨true,true,117,5,1,fun _=>(cl cs i).sv⟩)),(2,lsBox 0 cs.length 1 ps.length),(0,inCl cs),(1,inPr ps)]⟩:=by
    intro B hB;subst hB;refine hK _ _ ?_;clear hK K;refine z7 _ rfl ?_ ?_
    ·intro h91
     refine Zrs [2] ?_;refine zd (hR1 _ _ (hRL1 _ _ (hR0 _ _ (hQ _ _ ?_))));refine zb (H':=⟨2,[]⟩) (.inl rfl) ?_;refine Zou ?_;refine⟨Zs,(Zg id),Zs,?_⟩;rw[cellsK,z3s (p:=fun i=>badK cs.length ps.length (cl cs i)||dupC cs i) hil (by show(badK cs.length ps.length (cl cs i)||dupC cs i)=true;rw[h91];rfl)];rw[Qn,Q8,QH]
     first|trivial|exact⟨rfl,trivial⟩
    ·intro h91
     refine za ?_;refine sg [1,3,46,47,48,101] rfl ?_;intro K hK
     have hk9:∀B:Bool,B=dupC cs i->K [(1,.ptr 2 0 0 0),(3,.int .i64 cs.length),(46,.slc false 0 0 0 cs.length),(47,.int .i64 cs.length),(48,.int .i64 i),(101,.bool B)] ⟨4,[(3,uQ (.row ⟨true,true,117,5,1,fun _=>(cl cs i).sv⟩)),(2,lsBox 0 cs.length 1 ps.length),(0,inCl cs),(1,inPr ps)]⟩:=by
      intro B hB;subst hB;refine hK _ _ ?_;clear hK K;refine z7 _ rfl ?_ ?_
      ·intro h101
       refine Zrs [2] ?_;refine zd (hR1 _ _ (hRL1 _ _ (hR0 _ _ (hQ _ _ ?_))));refine zb (H':=⟨2,[]⟩) (.inl rfl) ?_;refine Zou ?_;refine⟨Zs,(Zg id),Zs,?_⟩;rw[cellsK,z3s (p:=fun i=>badK cs.length ps.length (cl cs i)||dupC cs i) hil (by show(badK cs.length ps.length (cl cs i)||dupC cs i)=true;rw[h101,JX])];rw[Qn,Q8,QH]
       first|trivial|exact⟨rfl,trivial⟩
      ·intro h101
       refine za (ze (hN1 _ _ ?_));refine Zrg [1,3,46,47,48] ?_;refine ze (hL1 _ _ ?_);rw[show(i:Int)+1=((i+1:Nat):Int) from by omega];refine⟨i+1,⟨⟨by omega,fun q hq=> ?_⟩,by omega⟩,id,(Zg id)⟩
       by_cases e:q=i
       ·subst e;rw[h91,h101];rfl
       ·exact hi2 q (by omega)
     iterate 8 (refine Zo Zl ?_)
     refine z16 ?_;refine z2e rfl rfl ?_;refine Zgr ?_
     first|refine z1r ?_ ?_|refine(fun(h1:false=true->_) (h2:false=false->_)=>qe h1 fun _=>h2 rfl) ?_ ?_|refine qe ?_ ?_
     ·intro hg8
      first
       |(simp at hg8;done)
       |skip
        try replace hg8:=Znb hg8
        refine Zo id ?_;refine Zc1 (clContains_spec (cl cs i) cs cs.length 2 (i-2) rfl (by omega) (by omega)) (fun q=>if q=0 then 0 else 3) ?_;refine Zo Zl ?_
        try with_reducible refine qe (by clear hk9 hi2;simp_all;done) ?_
        repeat(with_reducible apply qe;exact sdE)
        refine z8 ?_;refine Zpr ?_;refine hk9 _ ?_;clear hk9 hi2
        first|(simp_all[dupC];done)|(simp_all[dupC];rfl)|(simp_all[dupC];omega)
     ·intro hg8;refine⟨.bool false,?_⟩
      first
       |(simp at hg8;done)
       |skip
        try replace hg8:=Znb hg8
        refine Zo Zl ?_
        try with_reducible refine qe (by clear hk9 hi2;simp_all;done) ?_
        repeat(with_reducible apply qe;exact sdE)
        refine z8 ?_;refine Zpr ?_;refine hk9 _ ?_;clear hk9 hi2
        first|(simp_all[dupC];done)|(simp_all[dupC];rfl)|(simp_all[dupC];omega)
   iterate 9 (refine Zo Zl ?_)
   refine absB ?_;intro b61 hb61;repeat(with_reducible apply qe;exact sdE)
   iterate 5 (refine Zo Zl ?_)
   refine absB ?_;intro b66 hb66;repeat(with_reducible apply qe;exact sdE)
   iterate 6 (refine Zo Zl ?_)
   refine absB ?_;intro b72 hb72;repeat(with_reducible apply qe;exact sdE)
   iterate 5 (refine Zo Zl ?_)
   refine absB ?_;intro b77 hb77;repeat(with_reducible apply qe;exact sdE)
   iterate 8 (refine Zo Zl ?_)
   refine absB ?_;intro b85 hb85;repeat(with_reducible apply qe;exact sdE)
   iterate 3 (refine Zo Zl ?_)
   refine z16 ?_;refine z2e rfl rfl ?_;refine Zgr ?_
   first|refine z1r ?_ ?_|refine(fun(h1:false=true->_) (h2:false=false->_)=>qe h1 fun _=>h2 rfl) ?_ ?_|refine qe ?_ ?_
   ·intro hg36
    first
     |(simp at hg36;done)
     |skip
      try replace hg36:=Znb hg36
      refine Zo id ?_;refine Zc1 (validKey_spec (cl cs i).key) (id) ?_;iterate 2 (refine Zo Zl ?_)
      try with_reducible refine qe (by clear hk7 hi2;simp_all;done) ?_
      refine absB ?_;intro b91 hb91;repeat(with_reducible apply qe;exact sdE)
      refine z8 ?_;refine Zpr ?_;subst hb61 hb66 hb72 hb77 hb85 hb91;refine hk7 _ ?_;clear hk7 hi2
      first|(simp_all[badK];done)|(simp_all[badK];rfl)
   ·intro hg36;refine⟨.bool false,?_⟩
    first
     |(simp at hg36;done)
     |skip
      try replace hg36:=Znb hg36
      iterate 2 (refine Zo Zl ?_)
      try with_reducible refine qe (by clear hk7 hi2;simp_all;done) ?_
      refine absB ?_;intro b91 hb91;repeat(with_reducible apply qe;exact sdE)
      refine z8 ?_;refine Zpr ?_;subst hb61 hb66 hb72 hb77 hb85 hb91;refine hk7 _ ?_;clear hk7 hi2
      first|(simp_all[badK];done)|(simp_all[badK];rfl)
  ·intro h49;replace h49:=Znb h49;obtain⟨hi1,hi2⟩:=hi;have hall:z57 cs.length (fun i=>badK cs.length ps.length (cl cs i)||dupC cs i)=false:=z3z fun q hq=>hi2 q (by omega);refine zw (hEL1 _ _ _ (hX0 _ _ (z6 ?_)));refine Zrs [3,104,105,106] ?_;refine zc fun Q2 hN2 hX2 hR2 hE2=> ?_;refine zx (σ:=Nat) (fun i=>i<=ps.length/\∀q,q<i->badQ cs.length (pr ps q)=false) (fun i=>ps.length-i) (fun i=>[(3,.int .i64 cs.length),(104,.slc false 1 0 0 ps.length),(105,.int .i64 ps.length),(106,.int .i64 i)]) (fun _=>⟨3,[(2,lsBox 0 cs.length 1 ps.length),(0,inCl cs),(1,inPr ps)]⟩) 0 ⟨qp _,fun q h=>by omega⟩ (ρ:=id) (Zg id) ?_;rintro j hj QL2 hL2 hRL2 hEL2;refine Zrs [3,104,105,106,107] ?_;refine z6 ?_;refine z7 _ rfl ?_ ?_
   ·intro h107;replace h107:=Znb h107;obtain⟨hj1,hj2⟩:=hj;have hjl:j<ps.length:=by omega
    refine za (z6 (zc fun Q3 hN3 hX3 hR3 hE3=> ?_));refine Zrs [3,7,104,105,106] ?_;refine sg [3,104,105,106,142] rfl ?_;intro K hK
    have hk15:∀B:Bool,B=badQ cs.length (pr ps j)->K [(3,.int .i64 cs.length),(104,.slc false 1 0 0 ps.length),(105,.int .i64 ps.length),(106,.int .i64 j),(142,.bool B)] ⟨4,[(3,uQ (.row ⟨true,true,110,7,1,fun _=>(pr ps j).sv⟩)),(2,lsBox 0 cs.length 1 ps.length),(0,inCl cs),(1,inPr ps)]⟩:=by
     intro B hB;subst hB;refine hK _ _ ?_;clear hK K;refine z7 _ rfl ?_ ?_
     ·intro h142
      refine Zrs [2] ?_;refine zd (hR3 _ _ (hRL2 _ _ (hR2 _ _ (hQ _ _ ?_))));refine zb (H':=⟨2,[]⟩) (.inl rfl) ?_;refine Zou ?_;refine⟨Zs,(Zg id),Zs,?_⟩;rw[cellsK,z3s (p:=fun i=>badQ cs.length (pr ps i)) hjl h142];rw[Qn,Q8]
      first|trivial|exact⟨rfl,trivial⟩
     ·intro h142
      refine za (ze (hN3 _ _ ?_));refine Zrg [3,104,105,106] ?_;refine ze (hL2 _ _ ?_);rw[show(j:Int)+1=((j+1:Nat):Int) from by omega];refine⟨j+1,⟨⟨by omega,fun q hq=> ?_⟩,by omega⟩,id,(Zg id)⟩
      by_cases e:q=j
      ·subst e;exact h142
      ·exact hj2 q (by omega)
    iterate 10 (refine Zo Zl ?_)
    refine absB ?_;intro b119 hb119;repeat(with_reducible apply qe;exact sdE)
    iterate 9 (refine Zo Zl ?_)
    refine z16 (stp_max4 (G:= !b119) rfl rfl rfl (grd_var _ rfl rfl rfl (by cases b119<;>rfl)) rfl rfl rfl rfl ?_);intro mx hmx;iterate 3 (refine Zo Zl ?_)
    refine absB ?_;intro b132 hb132;repeat(with_reducible apply qe;exact sdE)
    iterate 5 (refine Zo Zl ?_)
    refine absB ?_;intro b137 hb137;repeat(with_reducible apply qe;exact sdE)
    iterate 5 (refine Zo Zl ?_)
    refine absB ?_;intro b142 hb142;repeat(with_reducible apply qe;exact sdE)
    refine z8 ?_;refine Zpr ?_;subst hmx hb119 hb132 hb137 hb142;refine hk15 _ ?_;clear hk15 hi2 hj2 hall
    first|(simp_all[badQ];done)|(simp_all[badQ];rfl)
   ·intro h107;replace h107:=Znb h107;obtain⟨hj1,hj2⟩:=hj;refine zw (hEL2 _ _ _ (hX2 _ _ ?_));refine Zrs [2] ?_;refine zd (hQ _ _ ?_);refine zb (H':=⟨2,[]⟩) (.inl rfl) ?_;refine Zou ?_;refine⟨Zs,(Zg id),Zs,?_⟩;rw[cellsK,hh,hall,z3z fun q hq=>hj2 q (by omega)]
    first|trivial|exact⟨rfl,trivial⟩
theorem valid_specK (cs:List Cl)(ps:List Pr)(n m:Nat)(hn:cs.length=n)(hm:ps.length=m)(hx:n<=9223372036854775807)(hy:m<=9223372036854775807):
  zf prog 96 [.agg [.slc false 0 0 0 n,.slc false 1 0 0 m]] ⟨2,[(0,inCl cs),(1,inPr ps)]⟩ (fun s H1=>s= .bool (z2w cs ps)/\H1=⟨2,[]⟩):=by
 subst hn hm;refine zf.ofC false 28 [.tmp 2] func96 rfl rfl ntmps96 results96 rfl ?_;intro w0 own0 β0 Q hQ hQn;simp only[z18];refine Zrs [1] ?_;refine z6 ?_;refine Zrs [1,6,7,8] ?_;refine zc fun Q0 hN0 hX0 hR0 hE0=> ?_;refine zx (σ:=Nat) (fun i=>i<=ps.length/\∀q,q<i->badH (pr ps q)=false) (fun i=>ps.length-i) (fun i=>[(1,.ptr 2 0 0 0),(6,.slc false 1 0 0 ps.length),(7,.int .i64 ps.length),(8,.int .i64 i)]) (fun _=>⟨3,[(2,lsBox 0 cs.length 1 ps.length),(0,inCl cs),(1,inPr ps)]⟩) 0 ⟨qp _,fun q h=>by omega⟩ (ρ:=id) (Zg id) ?_;rintro j hj QL1 hL1 hRL1 hEL1;refine Zrs [1,6,7,8,9] ?_;refine z6 ?_;refine z7 _ rfl ?_ ?_
 ·intro h9;replace h9:=Znb h9;obtain⟨hj1,hj2⟩:=hj;have hjl:j<ps.length:=by omega
  refine za (z6 (zc fun Q1 hN1 hX1 hR1 hE1=> ?_));refine Zrs [1,4,6,7,8] ?_;refine sg [1,6,7,8,24] rfl ?_;intro K hK
  have hk4:∀B:Bool,B=badH (pr ps j)->K [(1,.ptr 2 0 0 0),(6,.slc false 1 0 0 ps.length),(7,.int .i64 ps.length),(8,.int .i64 j),(24,.bool B)] ⟨4,[(3,uQ (.row ⟨true,true,110,7,1,fun _=>(pr ps j).sv⟩)),(2,lsBox 0 cs.length 1 ps.length),(0,inCl cs),(1,inPr ps)]⟩:=by
   intro B hB;subst hB;refine hK _ _ ?_;clear hK K;refine z7 _ rfl ?_ ?_
   ·intro h24
    refine Zrs [2] ?_;refine zd (hR1 _ _ (hRL1 _ _ (hR0 _ _ (hQ _ _ ?_))));refine zb (H':=⟨2,[]⟩) (.inl rfl) ?_;refine Zou ?_;refine⟨Zs,(Zg id),Zs,?_⟩;rw[z2w,z3s (p:=fun i=>badH (pr ps i)) hjl h24]
    first|trivial|exact⟨rfl,trivial⟩
   ·intro h24
    refine za (ze (hN1 _ _ ?_));refine Zrg [1,6,7,8] ?_;refine ze (hL1 _ _ ?_);rw[show(j:Int)+1=((j+1:Nat):Int) from by omega];refine⟨j+1,⟨⟨by omega,fun q hq=> ?_⟩,by omega⟩,id,(Zg id)⟩
    by_cases e:q=j
    ·subst e;exact h24
    ·exact hj2 q (by omega)
  iterate 2 (refine Zo Zl ?_)
  refine Zo Zl ?_;refine Zc1 (known_spec (pr ps j).phase) (id) ?_;iterate 9 (refine Zo Zl ?_)
  try with_reducible refine qe (by clear hk4 hj2;simp_all;done) ?_
  repeat(with_reducible apply qe;exact sdE)
  refine Zo Zl ?_
  try with_reducible refine qe (by clear hk4 hj2;simp_all;done) ?_
  repeat(with_reducible apply qe;exact sdE)
  refine z8 ?_;refine Zpr ?_;refine hk4 _ ?_;clear hk4 hj2
  first|(simp_all[badH];done)|(simp_all[badH];rfl)
 ·intro h9;replace h9:=Znb h9;obtain⟨hj1,hj2⟩:=hj;have hall:z57 ps.length (fun i=>badH (pr ps i))=false:=z3z fun q hq=>hj2 q (by omega);refine zw (hEL1 _ _ _ (hX0 _ _ ?_));refine sg [2] rfl ?_;intro K hK;refine Zo Zl ?_;refine Zo Zl ?_;refine Zc1 (cells_spec cs ps cs.length ps.length rfl rfl hx hy) (id) ?_;refine Zo Zl ?_;refine z8 (Zpr (hK _ _ ?_));clear hK K;refine zd (hQ _ _ ?_);refine zb (H':=⟨2,[]⟩) (.inl rfl) ?_;refine Zou ?_;refine⟨Zs,(Zg id),Zs,?_⟩;rw[z2w,hall]
  first|trivial|exact⟨rfl,trivial⟩
end
section
open LlBm (gxE oxE exE)
open LlCm (axE)
open D0 (sdE)
end
section
open LlBm (gxE oxE exE)
open LlCm (axE)
open D0 (sdE)
theorem clClone_spec (xs:List Cl)(n:Nat)(hn:xs.length=n)(hx:n<=1000000):
  zf prog 137 [.slc false 0 0 0 n] ⟨1,[(0,uQ (.row ⟨false,false,117,5,n,z2m xs⟩))]⟩
   (fun s H1=>s= .slc true 1 0 0 n/\H1=⟨2,[(1,uQ (.row ⟨true,false,117,5,n,z2m xs⟩))]⟩):=by
 refine zf.ofC false 8 [.tmp 2] func137 rfl rfl ntmps137 results137 rfl ?_;intro w0 own0 β0 Q hQ hQn;simp only[z18];refine Zrs [0] ?_;refine z6 ?_;refine sg [0,4] rfl ?_;intro K hK;iterate 2 (refine Zo Zl ?_)
 intro b hb;repeat(with_reducible apply qe;exact sdE)
 refine z8 (Zpr (hK _ _ ?_));clear hK K;refine z7 _ rfl ?_ ?_
 ·intro h4
  have hn0:n=0:=by
   rcases jR n with h|h
   ·exact h
   ·rw[hb h] at h4;cases h4
  subst hn0;refine Zrs [2] ?_;refine z2d 2 117 5 (z2m xs) rfl ?_;refine zd (hQ _ _ ?_);refine zb (H':=⟨2,[(1,uQ (.row ⟨true,false,117,5,0,z2m xs⟩))]⟩) (.inl rfl) ?_;refine Zou ?_;refine⟨Zs,(Zg id),Zs,?_⟩;trivial
 ·intro h4
  try replace h4:=Znb h4
  refine za ?_;refine Zrs [2] ?_;refine zd (hQ _ _ ?_);refine zm (fun k=>if k=1 then 2 else k) (.slc true 1 0 0 n) (⟨2,[(1,uQ (.row ⟨true,false,117,5,n,z2m xs⟩))]⟩) (.inl rfl) ?_;refine Zou ?_;refine⟨Zs,Zs,(Zg (fun k=>if k=1 then 2 else k)),Zs,?_⟩;trivial
theorem prClone_spec (xs:List Pr)(n:Nat)(hn:xs.length=n)(hx:n<=1000000):
  zf prog 138 [.slc false 0 0 0 n] ⟨1,[(0,uQ (.row ⟨false,false,110,7,n,prs xs⟩))]⟩
   (fun s H1=>s= .slc true 1 0 0 n/\H1=⟨2,[(1,uQ (.row ⟨true,false,110,7,n,prs xs⟩))]⟩):=by
 refine zf.ofC false 8 [.tmp 2] func138 rfl rfl ntmps138 results138 rfl ?_;intro w0 own0 β0 Q hQ hQn;simp only[z18];refine Zrs [0] ?_;refine z6 ?_;refine sg [0,4] rfl ?_;intro K hK;iterate 2 (refine Zo Zl ?_)
 intro b hb;repeat(with_reducible apply qe;exact sdE)
 refine z8 (Zpr (hK _ _ ?_));clear hK K;refine z7 _ rfl ?_ ?_
 ·intro h4
  have hn0:n=0:=by
   rcases jR n with h|h
   ·exact h
   ·rw[hb h] at h4;cases h4
  subst hn0;refine Zrs [2] ?_;refine z2d 2 110 7 (prs xs) rfl ?_;refine zd (hQ _ _ ?_);refine zb (H':=⟨2,[(1,uQ (.row ⟨true,false,110,7,0,prs xs⟩))]⟩) (.inl rfl) ?_;refine Zou ?_;refine⟨Zs,(Zg id),Zs,?_⟩;trivial
 ·intro h4
  try replace h4:=Znb h4
  refine za ?_;refine Zrs [2] ?_;refine zd (hQ _ _ ?_);refine zm (fun k=>if k=1 then 2 else k) (.slc true 1 0 0 n) (⟨2,[(1,uQ (.row ⟨true,false,110,7,n,prs xs⟩))]⟩) (.inl rfl) ?_;refine Zou ?_;refine⟨Zs,Zs,(Zg (fun k=>if k=1 then 2 else k)),Zs,?_⟩;trivial
theorem clone_specK (cs:List Cl)(ps:List Pr)(n m:Nat)(hn:cs.length=n)(hm:ps.length=m)(hx:n<=1000000)(hy:m<=1000000):
  zf prog 140 [.agg [.slc false 0 0 0 n,.slc false 1 0 0 m]] ⟨2,[(0,inCl cs),(1,inPr ps)]⟩
   (fun s H1=>s= .agg [.slc true 2 0 0 n,.slc true 3 0 0 m]/\H1=⟨4,[(3,z3h ps),(2,z2x cs)]⟩):=by
 subst hn hm;refine zf.ofC false 10 [.cell 2 85] func140 rfl rfl ntmps140 results140 rfl ?_;intro w0 own0 β0 Q hQ hQn;simp only[z18];refine Zrs [1,2] ?_;refine z6 ?_;refine Zrd [2] [0,1,3,4,2,5,6,7] [[],[],[],[],[],[],[],[3]] [[],[],[],[],[],[],[],[3]] ?_;intro K hK;iterate 4 (refine Zo (Zi [] []) ?_)
 refine Zo (Zi [] []) ?_;refine Zc1 (clClone_spec cs cs.length rfl hx) (id) ?_;refine Zo (Zi [] []) ?_;refine Zc1 (prClone_spec ps ps.length rfl hy) (fun _=>1) ?_;refine Zo (Zi [] []) ?_;refine Zo (Zi [3] [3]) ?_;refine z11 (Zpr (hK _ _ ?_));clear hK K;refine zd (hQ _ _ ?_);refine zm (fun k=>if k=2 then 4 else if k=3 then 5 else k) (.agg [.slc true 2 0 0 cs.length,.slc true 3 0 0 ps.length]) (⟨4,[(3,z3h ps),(2,z2x cs)]⟩) (.inl rfl) ?_;refine Zou ?_;refine⟨Zs,Zs,(Zg (fun k=>if k=2 then 4 else if k=3 then 5 else k)),Zs,?_⟩;trivial
def pAt (ps:List Pr)(p:Nat)(x:Pr):Nat->List SV:=fun i=>if i=p then x.sv else prs ps i
theorem pAt_self (ps:List Pr)(p:Nat):pAt ps p (pr ps p)=prs ps:=by
 funext i
 simp only[pAt]
 split
 ·rename_i e;subst e;rfl
 ·rfl
theorem pAt_ren (ρ:Nat->Nat)(ps:List Pr)(p:Nat)(x:Pr):(fun i=>SV.renL ρ (pAt ps p x i))=pAt ps p x:=by
 funext i
 simp only[pAt]
 split
 ·simp[Pr.sv,SV.renL,SV.ren]
 ·exact prs_ren' ρ ps i
theorem renL_ite (ρ:Nat->Nat)(c:Prop) [Decidable c](a b:List SV):SV.renL ρ (if c then a else b)=if c then SV.renL ρ a else SV.renL ρ b:=by split<;>rfl
theorem ltL_ite (m:Nat)(c:Prop) [Decidable c](a b:List SV):SV.ltL m (if c then a else b)=if c then SV.ltL m a else SV.ltL m b:=by split<;>rfl
theorem ite_two {α:Type}(c:Prop) [Decidable c](a b d:α):(if c then a else if c then b else d)=if c then a else d:=by split<;>rfl
theorem cls_put' (l:List Cl)(k:Nat)(c:Cl)(h:k<l.length):(fun i=>if i=k then [SV.str c.key,.int .i64 c.left,.int .i64 c.right,.int .i64 c.lock,.bool c.gone] else [SV.str (cl l i).key,.int .i64 (cl l i).left,.int .i64 (cl l i).right,.int .i64 (cl l i).lock,.bool (cl l i).gone])=z2m (l.set k c):=by
 funext i
 simp only[z2m]
 split
 ·rename_i e;subst e;rw[cl_set_eq h];rfl
 ·rename_i e;rw[cl_set_ne (Qv e)];rfl
end
end Go.Proofs
