/-
  Walks and plain facts, joined: part 1 of 6.
  Conditions: those that each statement names.
-/
import Derived.WalkKit
import Derived.OrdersHeld
import Derived.Laws.BytesString
import Derived.MapKept
import Derived.Laws.StructEq
import Derived.WideKeyRuns
import Derived.Lib.AppendZerosOnto
import Derived.Deep.LoopGhost
set_option linter.unusedSimpArgs false
set_option linter.unusedVariables false
set_option linter.defProp false
set_option maxRecDepth 4000
namespace Go.Sk
open Go.RowKit
theorem ai {a b : Prop} (x : a) (y : b) : a ∧ b := ⟨x, y⟩
inductive SV where
 |int (k:IntKind) (n:Int)
 |bool (b:Bool)
 |str (s:ByteArray)
 |nilp
 |nils
 |ptr (id k i j:Nat)
 |slc (g:Bool) (id k o n:Nat)
 |mp (id k:Nat)
 |fn (f:FuncId) (cap:List SV)
 |nilfn
 |agg (l:List SV)
 |tup (l:List SV)
 |gd (g:Bool) (s:SV)
 |ifc (t:TypeId) (s:SV)
 |raw (v:Value)
 deriving Inhabited
structure Loc where
 blk:Nat
 off:Nat
 sz:Nat
 cap:Nat
abbrev Env:=Nat→Nat→Option Loc
def z4l (β:Env)(g:Bool)(id k o n:Nat)(v:Value):Prop:=
 if g then(β id k=none∧n=0∧o=0∧v= .slice none 0 0)∨∃L c,β id k=some L∧o=0∧L.off=0∧n≤c∧c≤L.cap∧v= .slice (some ⟨L.blk,0,none⟩) n c
 else∃a c,v= .slice a n c∧n≤c∧(0<n→∃L,β id k=some L∧a=some ⟨L.blk,L.off+o*L.sz,none⟩)
mutual
def den (β:Env):SV→Value→Prop
 |.int k n,v=>v= .int k n
 |.bool b,v=>v= .bool b
 |.str s,v=>v= .string s
 |.nilp,v=>v= .pointer none
 |.nils,v=>v= .slice none 0 0
 |.ptr id k i j,v=> ∃L,β id k=some L∧v= .pointer (some ⟨L.blk,L.off+i*L.sz+j,none⟩)
 |.slc g id k o n,v=>z4l β g id k o n v
 |.mp id k,v=> ∃L,β id k=some L∧v= .map (some L.blk)
 |.fn f cap,v=> ∃vs,z2h β cap vs∧v= .func (.func f) #[] vs.toArray
 |.nilfn,v=>v= .nilFunc
 |.agg l,v=> ∃vs,z2h β l vs∧v= .agg vs.toArray
 |.tup l,v=> ∃vs,z2h β l vs∧v= .tuple vs.toArray
 |.gd g s,v=>(g=true→den β s v)∧(g=false→v=undef)
 |.ifc t s,v=> ∃u,den β s u∧v= .iface t u
 |.raw u,v=>v=u
def z2h (β:Env):List SV→List Value→Prop
 |[],vs=>vs=[]
 |s::l,vs=> ∃v r,den β s v∧z2h β l r∧vs=v::r
end
mutual
def SV.lt (m:Nat):SV→Prop
 |.ptr id _ _ _=>id<m
 |.slc _ id _ _ _=>id<m
 |.mp id _=>id<m
 |.fn _ l=>SV.ltL m l
 |.agg l=>SV.ltL m l
 |.tup l=>SV.ltL m l
 |.gd g s=>g=true→SV.lt m s
 |.ifc _ s=>SV.lt m s
 |_=>True
def SV.ltL (m:Nat):List SV→Prop
 |[]=>True
 |s::l=>SV.lt m s∧SV.ltL m l
end
def SV.scalar:SV→Bool
 |.agg _| .tup _| .gd .. =>false
 |.raw v=>v.oneCell'
 |_=>true
def SV.cells:SV→List SV
 |.agg l=>l
 |s=>[s]
theorem z27 {β:Env}:∀{l:List SV} {vs:List Value},z2h β l vs→vs.length=l.length
 |[],vs,h=>by simp only[z2h] at h;subst h;rfl
 |s::l,vs,h=>by
  simp only[z2h] at h;obtain⟨v,r,_,hr,rfl⟩:=h;simp[z27 hr]
theorem z3z {β:Env}:∀{l:List SV} {vs:List Value},z2h β l vs→∀(j:Nat) (s:SV),l[j]? =some s→∃v,vs[j]? =some v∧den β s v
 |[],_,_,j,s,hs=>by simp at hs
 |s0::l,vs,h,j,s,hs=>by
  simp only[z2h] at h;obtain⟨v,r,hv,hr,rfl⟩:=h
  cases j with
  |zero=>simp at hs;subst hs;exact⟨v,by simp,hv⟩
  |succ j=>simp at hs;simpa using z3z hr j s hs
theorem denL_mk {β:Env}:∀(l:List SV) (f:Nat→Value),(∀(j:Nat) (s:SV),l[j]? =some s→den β s (f j))→z2h β l ((List.range l.length).map f)
 |[],_,_=>by simp[z2h]
 |s::l,f,h=>by
  simp only[z2h,List.length_cons];refine⟨f 0,(List.range l.length).map (fun j=>f (j+1)),h 0 s (by simp),denL_mk l _ (fun j s' hs=>h (j+1) s' (by simpa using hs)),?_⟩;rw[List.range_succ_eq_map,List.map_cons,List.map_map]
  rfl
theorem denL_append {β:Env}:∀{l l':List SV} {vs vs':List Value},z2h β l vs→z2h β l' vs'→z2h β (l++l') (vs++vs')
 |[],_,vs,_,h,h'=>by simp only[z2h] at h;subst h;simpa using h'
 |s::l,l',vs,vs',h,h'=>by
  simp only[z2h] at h;obtain⟨v,r,hv,hr,rfl⟩:=h;exact⟨v,r++vs',hv,denL_append hr h',rfl⟩
theorem den_scalar {β:Env}{s:SV}{v:Value}(hs:s.scalar=true)(h:den β s v):v.oneCell'=true:=by
 cases s<;>simp only[den,SV.scalar,Bool.false_eq_true,z4l] at h hs
 case int=>subst h;rfl
 case bool=>subst h;rfl
 case str=>subst h;rfl
 case nilp=>subst h;rfl
 case nils=>subst h;rfl
 case ptr=>obtain⟨L,_,rfl⟩:=h;rfl
 case slc g id k o n=>
  cases g
  ·simp only[Bool.false_eq_true,if_false] at h;obtain⟨a,c,rfl,_⟩:=h;rfl
  ·simp only[if_true] at h;rcases h with⟨_,_,_,rfl⟩|⟨L,c,_,_,_,_,_,rfl⟩<;>rfl
 case mp=>obtain⟨L,_,rfl⟩:=h;rfl
 case fn=>obtain⟨vs,_,rfl⟩:=h;rfl
 case nilfn=>subst h;rfl
 case ifc=>obtain⟨u,_,rfl⟩:=h;rfl
 case raw=>subst h;exact hs
def Env.agree (m:Nat)(β β':Env):Prop:=∀id k,id<m→β' id k=β id k
mutual
theorem z5e {m:Nat}{β β':Env}(hb:Env.agree m β β'):∀(s:SV) (v:Value),s.lt m→den β s v→den β' s v
 |.int ..,_,_,h=>h
 |.bool _,_,_,h=>h
 |.str _,_,_,h=>h
 |.nilp,_,_,h=>h
 |.nils,_,_,h=>h
 |.nilfn,_,_,h=>h
 |.raw _,_,_,h=>h
 |.ptr id k i j,v,hl,h=>by
  simp only[den,SV.lt] at*;rw[hb id k hl];exact h
 |.slc g id k o n,v,hl,h=>by
  simp only[den,SV.lt,z4l] at*;rw[hb id k hl];exact h
 |.mp id k,v,hl,h=>by
  simp only[den,SV.lt] at*;rw[hb id k hl];exact h
 |.fn f l,v,hl,h=>by
  simp only[den,SV.lt] at*;obtain⟨vs,hvs,e⟩:=h;exact⟨vs,z4j hb l vs hl hvs,e⟩
 |.agg l,v,hl,h=>by
  simp only[den,SV.lt] at*;obtain⟨vs,hvs,e⟩:=h;exact⟨vs,z4j hb l vs hl hvs,e⟩
 |.tup l,v,hl,h=>by
  simp only[den,SV.lt] at*;obtain⟨vs,hvs,e⟩:=h;exact⟨vs,z4j hb l vs hl hvs,e⟩
 |.ifc t s,v,hl,h=>by
  simp only[den,SV.lt] at*;obtain⟨u,hu,e⟩:=h;exact⟨u,z5e hb s u hl hu,e⟩
 |.gd g s,v,hl,h=>by
  simp only[den,SV.lt] at*;exact⟨fun hg=>z5e hb s v (hl hg) (h.1 hg),h.2⟩
theorem z4j {m:Nat}{β β':Env}(hb:Env.agree m β β'):∀(l:List SV) (vs:List Value),SV.ltL m l→z2h β l vs→z2h β' l vs
 |[],_,_,h=>h
 |s::l,vs,hl,h=>by
  simp only[z2h,SV.ltL] at*;obtain⟨v,r,hv,hr,e⟩:=h;exact⟨v,r,z5e hb s v hl.1 hv,z4j hb l r hl.2 hr,e⟩
end
mutual
theorem SV.lt_mono {m m':Nat}(h:m≤m'):∀(s:SV),s.lt m→s.lt m'
 |.int ..,_=>trivial
 |.bool _,_=>trivial
 |.str _,_=>trivial
 |.nilp,_=>trivial
 |.nils,_=>trivial
 |.nilfn,_=>trivial
 |.raw _,_=>trivial
 |.ptr ..,hl=>Nat.lt_of_lt_of_le hl h
 |.slc ..,hl=>Nat.lt_of_lt_of_le hl h
 |.mp ..,hl=>Nat.lt_of_lt_of_le hl h
 |.fn _ l,hl=>SV.ltL_mono h l hl
 |.agg l,hl=>SV.ltL_mono h l hl
 |.tup l,hl=>SV.ltL_mono h l hl
 |.gd _ s,hl=>fun hg=>SV.lt_mono h s (hl hg)
 |.ifc _ s,hl=>SV.lt_mono h s hl
theorem SV.ltL_mono {m m':Nat}(h:m≤m'):∀(l:List SV),SV.ltL m l→SV.ltL m' l
 |[],_=>trivial
 |s::l,hl=>⟨SV.lt_mono h s hl.1,SV.ltL_mono h l hl.2⟩
end
theorem SV.ltL_get {m:Nat}:∀{l:List SV},SV.ltL m l→∀(j:Nat) (s:SV),l[j]? =some s→s.lt m
 |[],_,j,s,hs=>by simp at hs
 |s0::l,h,j,s,hs=>by
  cases j with
  |zero=>simp at hs;subst hs;exact h.1
  |succ j=>simp at hs;exact SV.ltL_get h.2 j s hs
theorem SV.ltL_of_get {m:Nat}:∀{l:List SV},(∀(j:Nat) (s:SV),l[j]? =some s→s.lt m)→SV.ltL m l
 |[],_=>trivial
 |s0::l,h=>⟨h 0 s0 (by simp),SV.ltL_of_get fun j s hs=>h (j+1) s (by simpa using hs)⟩
structure Row where
 own:Bool
 /--uQ variable:n is 1 -/
 var:Bool:=false
 e:TypeId
 sz:Nat
 n:Nat
 f:Nat→List SV
inductive z5c where
 |ints (l:List Int)
 |strs (l:List ByteArray)
def z5c.vals:z5c→List Value
 |.ints l=>l.map (.int .i64 ·)
 |.strs l=>l.map (.string ·)
def IsSet (ks:z5c)(b:Go.Obj):Prop:=∃es clk,b= .map es clk∧es.toList.map (·.key)=ks.vals∧∀e∈es.toList,e.val= .bool true
inductive z2z where
 |ints (n:Nat) (has:Int→Bool) (val:Int→SV) (z:SV)
 |prs (n:Nat) (has:Int→Int→Bool) (val:Int→Int→SV) (z:SV)
def z2z.n:z2z→Nat
 |.ints n _ _ _=>n
 |.prs n _ _ _=>n
def z2z.z:z2z→SV
 |.ints _ _ _ z=>z
 |.prs _ _ _ z=>z
def keyI:Value→Option Int
 |.int .i64 a=>some a
 |_=>none
def keyP:Value→Option (Int×Int)
 |.agg ⟨[.int .i64 a,.int .u32 b]⟩=>some (a,b)
 |_=>none
def z2z.has:z2z→Value→Bool
 |.ints _ h _ _,v=>match keyI v with|some a=>h a|none=>false
 |.prs _ h _ _,v=>match keyP v with|some (a,b)=>h a b|none=>false
def z2z.val:z2z→Value→SV
 |.ints _ _ g z,v=>match keyI v with|some a=>g a|none=>z
 |.prs _ _ g z,v=>match keyP v with|some (a,b)=>g a b|none=>z
inductive Obj where
 |row (r:Row)
 /--A map whose values are all true. -/
 |blk (own:Bool) (ks:z5c)
 /--A map. -/
 |mapo (own:Bool) (M:z2z)
 /--A member of a family that is no more. -/
 |gone
def Obj.own:Obj→Bool
 |.row r=>r.own
 |.blk o _=>o
 |.mapo o _=>o
 |.gone=>false
def Obj.opt:Obj→Option Obj
 |.gone=>none
 |o=>some o
def Row.cellsOk (r:Row)(β:Env)(w:World)(L:Loc):Prop:=
 ∀i,i<r.n→(r.f i).length=r.sz∧∀(j:Nat) (s:SV),(r.f i)[j]? =some s→s.scalar=true∧∃v,w.cell? ⟨L.blk,L.off+i*L.sz+j,none⟩=some v∧den β s v
def Row.holds (r:Row)(β:Env)(w:World)(q:Option Loc):Prop:=
 (r.n=0∧q=none)∨∃L,q=some L∧L.sz=r.sz∧L.blk<w.heap.size∧r.cellsOk β w L∧
  (r.own=true→L.off=0∧r.n≤L.cap∧L.cap≤maxLen∧∃cur:Array Value,w.heap[L.blk]? =some (.cells cur r.e (0,0))∧cur.size=L.cap*r.sz)
def IsMap (M:z2z)(β:Env)(b:Go.Obj):Prop:=
 ∃es clk,b= .map es clk∧es.size=M.n∧(es.toList.map (·.key)).Nodup∧(∀k,M.has k=true↔∃e∈es.toList,e.key=k)∧(∀e∈es.toList,den β (M.val e.key) e.val)∧∀k,M.has k=false→∀v,den β M.z v→den β (M.val k) v
def Obj.holds (o:Obj)(β:Env)(w:World)(q:Option Loc):Prop:=
 match o with
 |.row r=>r.holds β w q
 |.blk _ ks=> ∃L b,q=some L∧w.heap[L.blk]? =some b∧IsSet ks b
 |.mapo _ M=> ∃L b,q=some L∧w.heap[L.blk]? =some b∧IsMap M β b
 |.gone=>True
def Obj.lt (m:Nat):Obj→Prop
 |.row r=> ∀(i j:Nat) (s:SV),i<r.n→(r.f i)[j]? =some s→s.lt m
 |.blk _ _=>True
 |.mapo _ M=>M.z.lt m∧∀v,(M.val v).lt m
 |.gone=>True
structure AH where
 nxt:Nat
 os:List (Nat×Nat×(Nat→Obj))
def find:List (Nat×Nat×(Nat→Obj))→Nat→Option (Nat×(Nat→Obj))
 |[],_=>none
 |(i,x)::l,id=>if i=id then some x else find l id
def look (os:List (Nat×Nat×(Nat→Obj)))(id k:Nat):Option Obj:=
 match find os id with
 |some (c,F)=>if k<c then(F k).opt else none
 |none=>none
theorem Obj.opt_some {o o':Obj}(h:o.opt=some o'):o'=o∧o≠ .gone:=by
 cases o<;>simp[Obj.opt] at h<;>subst h<;>simp
theorem Obj.opt_of {o:Obj}(h:o≠ .gone):o.opt=some o:=by
 cases o<;>first|rfl|exact absurd rfl h
abbrev uQ (o:Obj):Nat×(Nat→Obj):=(1,fun _=>o)
structure Cx where
 P:Program
 n:Nat
 w0:World
 own0:Nat→Nat→Prop
 m0:Nat
 β0:Env
 wrap:Bool:=false
def letters:List ByteArray:=[⟨#[97]⟩,⟨#[98]⟩,⟨#[99]⟩,⟨#[0]⟩,⟨#[255]⟩,⟨#[109]⟩]
def tabG (P:Program)(g:Nat):Bool:=match(P.globals[g]?).map (·.type) with
 |some t=>match P.underlying t with
  |some (.array 6 e)=>match P.underlying e with
   |some .string=>true
   |_=>false
  |_=>false
 |none=>false
def TabAt (w:World)(g:Nat):Prop:=∀(j:Nat) (s:ByteArray),letters[j]? =some s→w.cell? ⟨g,j,none⟩=some (.string s)
def db32:List Int:=[0,1,28,2,29,14,24,3,30,22,20,15,25,17,4,8,31,27,13,23,21,19,16,7,26,12,18,6,11,5,10,9]
def tabBG (P:Program)(g:Nat):Bool:=match(P.globals[g]?).map (·.type) with
 |some t=>match P.underlying t with
  |some (.array 32 e)=>match P.underlying e with
   |some (.int .u8)=>true
   |_=>false
  |_=>false
 |none=>false
def TabBAt (w:World)(g:Nat):Prop:=∀(j:Nat) (s:Int),db32[j]? =some s→w.cell? ⟨g,j,none⟩=some (.int .u8 s)
def TabOk (X:Cx):Prop:=(∀g,tabG X.P g=true→g<X.w0.heap.size∧TabAt X.w0 g∧∀id k L,X.own0 id k→X.β0 id k=some L→L.blk≠g)∧
 ∀g,tabBG X.P g=true→g<X.w0.heap.size∧TabBAt X.w0 g∧∀id k L,X.own0 id k→X.β0 id k=some L→L.blk≠g
structure St (X:Cx) (β:Env) (H:AH) (w:World):Prop where
 os:w.os=X.w0.os
 tape:w.tape=X.w0.tape
 output:w.output=X.w0.output
 size:X.w0.heap.size≤w.heap.size
 fix:∀id k,id<X.m0→β id k=X.β0 id k
 holds:∀id k o,look H.os id k=some o→o.holds β w (β id k)
 sep:∀id k id' k' o o' L L',look H.os id k=some o→look H.os id' k'=some o'→o.own=true→β id k=some L→β id' k'=some L'→L.blk=L'.blk→id=id'∧k=k'
 old:∀b,b<X.w0.heap.size→(∀id k o L,look H.os id k=some o→o.own=true→β id k=some L→L.blk≠b)→w.heap[b]? =X.w0.heap[b]?
 mine:∀id k o L,look H.os id k=some o→o.own=true→β id k=some L→(id<X.m0∧X.own0 id k)∨(X.m0≤id∧X.w0.heap.size≤L.blk)
 keep:∀id k,X.own0 id k→id<X.m0∧∃o,look H.os id k=some o∧o.own=true
 m0:X.m0≤H.nxt
 lt:∀id k o,look H.os id k=some o→id<H.nxt∧o.lt H.nxt
 tabs:TabOk X
 drawn:X.w0.drawn≤w.drawn
structure Blw (B:Nat) (w w':World):Prop extends Below B w w' where
 drawn:w.drawn≤w'.drawn
theorem Blw.refl (B:Nat)(w:World):Blw B w w:=⟨Below.refl _ _,Nat.le_refl _⟩
theorem Blw.drew {B:Nat}{a w:World}(h:Blw B a w):Blw B a w.drew:=⟨h.toBelow.drew,Nat.le_trans h.drawn (Nat.le_succ _)⟩
theorem Blw.alloc {B:Nat}{a w:World}(h:Blw B a w)(hB:B≤w.heap.size)(o:Go.Obj):Blw B a (w.alloc o):=⟨h.toBelow.alloc hB o,h.drawn⟩
theorem St.tab {X:Cx}{β:Env}{H:AH}{w:World}(hS:St X β H w){g:Nat}(hg:tabG X.P g=true):(∀id k o L,look H.os id k=some o→o.own=true→β id k=some L→L.blk≠g)∧g<w.heap.size∧TabAt w g:=by
 obtain⟨h1,h2,h3⟩:=hS.tabs.1 g hg
 have hno:∀id k o L,look H.os id k=some o→o.own=true→β id k=some L→L.blk≠g:=fun id k o L h ho hb=>by
  rcases hS.mine _ _ _ _ h ho hb with⟨q1,q2⟩|⟨_,q2⟩
  ·rw[hS.fix id k q1] at hb;exact h3 id k L q2 hb
  ·omega
 refine⟨hno,Nat.lt_of_lt_of_le h1 hS.size,fun j s hj=> ?_⟩;have:=hS.old g h1 fun id k o L h ho hb=>hno id k o L h ho hb;exact(World.cell?_of_block (w:=X.w0) (a:=⟨g,j,none⟩) this).trans (h2 j s hj)
theorem St.tabB {X:Cx}{β:Env}{H:AH}{w:World}(hS:St X β H w){g:Nat}(hg:tabBG X.P g=true):(∀id k o L,look H.os id k=some o→o.own=true→β id k=some L→L.blk≠g)∧g<w.heap.size∧TabBAt w g:=by
 obtain⟨h1,h2,h3⟩:=hS.tabs.2 g hg
 have hno:∀id k o L,look H.os id k=some o→o.own=true→β id k=some L→L.blk≠g:=fun id k o L h ho hb=>by
  rcases hS.mine _ _ _ _ h ho hb with⟨q1,q2⟩|⟨_,q2⟩
  ·rw[hS.fix id k q1] at hb;exact h3 id k L q2 hb
  ·omega
 refine⟨hno,Nat.lt_of_lt_of_le h1 hS.size,fun j s hj=> ?_⟩;have:=hS.old g h1 fun id k o L h ho hb=>hno id k o L h ho hb;exact(World.cell?_of_block (w:=X.w0) (a:=⟨g,j,none⟩) this).trans (h2 j s hj)
theorem Row.cellsOk.mono {r:Row}{β:Env}{w w':World}{L:Loc}(h:r.cellsOk β w L)(hw:w'.heap[L.blk]? =w.heap[L.blk]?):r.cellsOk β w' L:=
 fun i hi=>⟨(h i hi).1,fun j s hs=>by
  obtain⟨h1,v,hv,hd⟩:=(h i hi).2 j s hs
  exact⟨h1,v,(World.cell?_of_block (w:=w) (a:=⟨L.blk,_,none⟩) hw).trans hv,hd⟩⟩
theorem Obj.holds.mono {o:Obj}{β:Env}{w w':World}{q:Option Loc}(h:o.holds β w q)(hs:w.heap.size≤w'.heap.size)(hw:∀L,q=some L→L.blk<w.heap.size→w'.heap[L.blk]? =w.heap[L.blk]?):o.holds β w' q:=by
 cases o with
 |row r=>
  rcases h with h|⟨L,hq,h1,h2,h3,h4⟩
  ·exact .inl h
  ·have hb:=hw L hq h2;refine .inr ⟨L,hq,h1,Nat.lt_of_lt_of_le h2 hs,h3.mono hb,fun ho=> ?_⟩;obtain⟨a,b,c,cur,d,e⟩:=h4 ho;exact⟨a,b,c,cur,hb.trans d,e⟩
 |blk _ p=>
  obtain⟨L,b,hq,hb,hp⟩:=h;exact⟨L,b,hq,(hw L hq (Array.getElem?_eq_some_iff.1 hb).1).trans hb,hp⟩
 |mapo _ p=>
  obtain⟨L,b,hq,hb,hp⟩:=h;exact⟨L,b,hq,(hw L hq (Array.getElem?_eq_some_iff.1 hb).1).trans hb,hp⟩
 |gone=>trivial
theorem Obj.holds.blk_lt {o:Obj}(hg:o≠ .gone){β:Env}{w:World}{L:Loc}(h:o.holds β w (some L)):L.blk<w.heap.size:=by
 cases o with
 |row r=>
  rcases h with⟨_,h⟩|⟨L',hq,_,h2,_⟩
  ·cases h
  ·cases hq;exact h2
 |blk _ p=>
  obtain⟨L',b,hq,hb,_⟩:=h
  cases hq
  exact(Array.getElem?_eq_some_iff.1 hb).1
 |mapo _ p=>
  obtain⟨L',b,hq,hb,_⟩:=h
  cases hq
  exact(Array.getElem?_eq_some_iff.1 hb).1
 |gone=>exact absurd rfl hg
theorem z38 {os:List (Nat×Nat×(Nat→Obj))}{id k:Nat}{o:Obj}(h:look os id k=some o):o≠ .gone:=by
 unfold look at h
 split at h
 ·split at h
  ·obtain⟨rfl,h2⟩:=Obj.opt_some h;exact h2
  ·cases h
 ·cases h
theorem Obj.holds.agree {o:Obj}{m:Nat}{β β':Env}{w:World}{q:Option Loc}(hb:Env.agree m β β')(hl:o.lt m)(h:o.holds β w q):o.holds β' w q:=by
 cases o with
 |row r=>
  rcases h with h|⟨L,hq,h1,h2,h3,h4⟩
  ·exact .inl h
  ·refine .inr ⟨L,hq,h1,h2,fun i hi=>⟨(h3 i hi).1,fun j s hs=> ?_⟩,h4⟩;obtain⟨hsc,v,hv,hd⟩:=(h3 i hi).2 j s hs;exact⟨hsc,v,hv,z5e hb s v (hl i j s hi hs) hd⟩
 |blk _ p=>exact h
 |mapo _ M=>
  obtain⟨L,b,hq,hbk,es,clk,e1,e2,e6,e3,e4,e5⟩:=h;exact⟨L,b,hq,hbk,es,clk,e1,e2,e6,e3,fun e he=>z5e hb _ _ (hl.2 _) (e4 e he),fun k hk v hv=>z5e hb _ _ (hl.2 _) (e5 k hk v (z5e (fun id k h=>(hb id k h).symm) _ _ hl.1 hv))⟩
 |gone=>trivial
theorem St.ext {X:Cx}{β:Env}{H:AH}{w w':World}(h:St X β H w)(he:Blw w.heap.size w w'):St X β H w' where
 os:=he.os.trans h.os
 tape:=he.tape.trans h.tape
 output:=he.output.trans h.output
 size:=Nat.le_trans h.size he.size
 fix:=h.fix
 holds id k o ho:=(h.holds id k o ho).mono he.size fun _ _ hl=>he.block _ hl
 sep:=h.sep
 old b hb hn:=(he.block b (Nat.lt_of_lt_of_le hb h.size)).trans (h.old b hb hn)
 mine:=h.mine
 keep:=h.keep
 m0:=h.m0
 lt:=h.lt
 tabs:=h.tabs
 drawn:=Nat.le_trans h.drawn he.drawn
theorem Blw.drew' {w:World}:Blw w.heap.size w w.drew:=(Blw.refl _ w).drew
abbrev Fr:=List (Nat×SV)
def get:Fr→Nat→Option SV
 |[],_=>none
 |(u,s)::r,t=>if u=t then some s else get r t
structure FrOk (X:Cx) (β:Env) (m:Nat) (fr:Fr) (a:Act):Prop where
 defers:a.defers=[]
 size:a.tmps.size=X.n
 get:∀t s,get fr t=some s→s.lt m∧∃v,a.tmps[t]? =some v∧den β s v
def put (d:Option Tmp)(s:SV)(fr:Fr):Fr:=
 match d with
 |some t=>(t,s)::fr
 |none=>fr
theorem FrOk.put {X:Cx}{β:Env}{m:Nat}{fr:Fr}{a:Act}(h:FrOk X β m fr a){d:Option Tmp}{s:SV}{v:Value}(hd:∀t,d=some t→t<X.n)(hl:s.lt m)(hv:den β s v):
  FrOk X β m (put d s fr) (a.put d v):=by
 cases d with
 |none=>exact h
 |some t=>
  refine⟨h.defers,by simp[Act.put,h.size],fun u s' hs=> ?_⟩;simp only[Sk.put,Sk.get] at hs
  split at hs
  ·rename_i he;subst he
   cases hs
   exact⟨hl,v,by simp[Act.put,h.size,hd t rfl],hv⟩
  ·rename_i he;obtain⟨h1,u',h2,h3⟩:=h.get u s' hs;exact⟨h1,u',by simp only[Act.put];rw[Array.getElem?_setIfInBounds_ne he];exact h2,h3⟩
theorem FrOk.agree {X:Cx}{β β':Env}{m m':Nat}{fr:Fr}{a:Act}(h:FrOk X β m fr a)(hm:m≤m')(hb:Env.agree m β β'):FrOk X β' m' fr a:=
 ⟨h.defers,h.size,fun t s hs=>by
  obtain⟨h1,v,h2,h3⟩:=h.get t s hs
  exact⟨SV.lt_mono hm s h1,v,h2,z5e hb s v h1 h3⟩⟩
end Go.Sk

namespace Go.Sk
open Go.RowKit
inductive Kd where
 |slice (e:TypeId)|array (n:Nat) (e:TypeId)|struct|string|int (k:IntKind)|bool|pointer|map (k e:TypeId)|other
 deriving DecidableEq
def kdOf:TypeDesc→Kd
 |.slice e=> .slice e
 |.array n e=> .array n e
 |.struct _=> .struct
 |.string=> .string
 |.int k=> .int k
 |.bool=> .bool
 |.pointer _=> .pointer
 |.map k e=> .map k e
 |_=> .other
structure Ty where
 ok:Bool
 kd:Kd
 size:Nat
 bytes:Nat
 offs:List (Nat×Option Bool×Nat)
def Kd.agg:Kd→Bool
 |.array .. | .struct=>true
 |_=>false
def z29 (P:Program)(t:TypeId):Nat:=((P.info? t).map (·.size)).getD 0
def isAggT (P:Program)(t:TypeId):Option Bool:=(P.underlying t).map (fun d=>(kdOf d).agg)
def offsOf (P:Program):TypeDesc→List (Nat×Option Bool×Nat)
 |.struct fs=>fs.toList.map fun f=>(f.offset,isAggT P f.type,z29 P f.type)
 |_=>[]
def z1l (P:Program)(t:TypeId):Ty:=
 match P.info? t,P.underlying t with
 |some i,some d=>⟨true,kdOf d,i.size,i.bytes,offsOf P d⟩
 |_,_=>⟨false,.other,0,0,[]⟩
def z1t:Value→SV
 |.int k n=> .int k n
 |.bool b=> .bool b
 |.string s=> .str s
 |.pointer none=> .nilp
 |.slice none 0 0=> .nils
 |.nilFunc=> .nilfn
 |v=> .raw v
def ofConst:Value→SV
 |.agg cs=> .agg (cs.toList.map z1t)
 |v=>z1t v
theorem ofConst1_den (β:Env)(v:Value):den β (z1t v) v:=by
 unfold z1t
 split<;>simp[den]
theorem ofConst1_lt (m:Nat)(v:Value):(z1t v).lt m:=by
 unfold z1t
 split<;>simp[SV.lt]
theorem ofConst_den (β:Env)(v:Value):den β (ofConst v) v:=by
 unfold ofConst
 split
 ·rename_i cs;simp only[den];refine⟨cs.toList,?_,by simp⟩
  generalize cs.toList=l
  induction l with
  |nil=>simp[z2h]
  |cons v l ih=>exact⟨v,l,ofConst1_den β v,ih,rfl⟩
 ·exact ofConst1_den β _
theorem ofConst_lt (m:Nat)(v:Value):(ofConst v).lt m:=by
 unfold ofConst
 split
 ·rename_i cs;simp only[SV.lt]
  generalize cs.toList=l
  induction l with
  |nil=>simp[SV.ltL]
  |cons v l ih=>exact⟨ofConst1_lt m v,ih⟩
 ·exact ofConst1_lt m _
def opdK (fr:Fr)(G:Bool)(x:Operand)(k:SV→Prop):Prop:=
 match x with
 |.tmp t=>
  match get fr t with
  |some (.gd g s)=>(G=true→g=true)∧k s
  |some s=>k s
  |none=>False
 |.const v=>k (ofConst v)
 |.func f=>k (.fn f [])
 |.global g=>k (.raw (.pointer (some ⟨g,0,none⟩)))
theorem z1e {X:Cx}{β:Env}{m:Nat}{fr:Fr}{a:Act}(hF:FrOk X β m fr a){G:Bool}{x:Operand}{k:SV→Prop}(h:opdK fr G x k):
  ∃s,k s∧(G=true→den β s (a.eval x)∧s.lt m):=by
 unfold opdK at h
 split at h
 ·rename_i t;have hev:∀v,a.tmps[t]? =some v→a.eval (.tmp t)=v:=fun v hv=>by simp[Act.eval,Array.getD_eq_getD_getElem?,hv]
  split at h
  ·rename_i g s hg;refine⟨s,h.2,fun hG=> ?_⟩;obtain⟨hl,v,hv,hd⟩:=hF.get t _ hg;have hg1:=h.1 hG;simp only[den,SV.lt] at hd hl;rw[hev v hv];exact⟨hd.1 hg1,hl hg1⟩
  ·rename_i s _ hg;obtain⟨hl,v,hv,hd⟩:=hF.get t _ hg;exact⟨s,h,fun _=>by rw[hev v hv];exact⟨hd,hl⟩⟩
  ·exact h.elim
 ·exact⟨_,h,fun _=>⟨ofConst_den β _,ofConst_lt m _⟩⟩
 ·exact⟨_,h,fun _=>⟨by simp only[den];exact⟨[],rfl,rfl⟩,trivial⟩⟩
 ·exact⟨_,h,fun _=>⟨by simp[den,Act.eval],trivial⟩⟩
def opdsK (fr:Fr)(G:Bool):List Operand→(List SV→Prop)→Prop
 |[],k=>k []
 |x::l,k=>opdK fr G x fun s=>opdsK fr G l fun r=>k (s::r)
theorem opdsK_ok {X:Cx}{β:Env}{m:Nat}{fr:Fr}{a:Act}(hF:FrOk X β m fr a){G:Bool}:∀{l:List Operand} {k:List SV→Prop},opdsK fr G l k→
  ∃ss,k ss∧(G=true→z2h β ss (l.map a.eval)∧SV.ltL m ss)
 |[],k,h=>⟨[],h,fun _=>⟨rfl,trivial⟩⟩
 |x::l,k,h=>by
  obtain⟨s,h1,h2⟩:=z1e hF h;obtain⟨r,h3,h4⟩:=opdsK_ok hF h1;exact⟨s::r,h3,fun hG=>⟨⟨_,_,(h2 hG).1,(h4 hG).1,rfl⟩,(h2 hG).2,(h4 hG).2⟩⟩
def In64 (n:Int):Prop:= -9223372036854775808≤n∧n≤9223372036854775807
theorem In64.wrap {n:Int}(h:In64 n):IntKind.i64.wrap n=n:=IntWalk.i64_in n h
def z30 (op:BinOp)(kd:IntKind)(x y:Int):Int:=
 let a:=BitVec.ofInt kd.bits x
 let b:=BitVec.ofInt kd.bits y
 match op with
 |.and=>kd.wrap (a &&& b).toNat
 |.or=>kd.wrap (a|||b).toNat
 |.xor=>kd.wrap (a^^^b).toNat
 |_=>kd.wrap (a &&& ~~~b).toNat
def arithK (wr G:Bool)(kd:IntKind)(e:Int)(k:SV→Prop):Prop:=
 match kd with
 |.i64=>if wr then k (.int .i64 (IntKind.i64.wrap e)) else(G=true→In64 e)∧k (.int .i64 e)
 |_=>k (.int kd (kd.wrap e))
def intK (wr G:Bool)(op:BinOp)(kd:IntKind)(a b:Int)(k:SV→Prop):Prop:=
 match op with
 |.add=>arithK wr G kd (a+b) k
 |.sub=>arithK wr G kd (a-b) k
 |.mul=>arithK wr G kd (a*b) k
 |.quo=>
  match kd with
  |.i64=>if wr then(G=true→b≠0)∧k (.int .i64 (IntKind.i64.wrap (a.tdiv b))) else(G=true→0≤a∧0<b∧In64 a)∧k (.int .i64 (a/b))
  |_=>(G=true→b≠0)∧k (.int kd (kd.wrap (a.tdiv b)))
 |.rem=>(G=true→b≠0)∧k (.int kd (a.tmod b))
 |.and=>k (.int kd (z30 .and kd a b))
 |.or=>k (.int kd (z30 .or kd a b))
 |.xor=>k (.int kd (z30 .xor kd a b))
 |.andNot=>k (.int kd (z30 .andNot kd a b))
 |.eql=>k (.bool (a==b))
 |.neq=>k (.bool (a !=b))
 |.lss=>k (.bool (decide (a<b)))
 |.leq=>k (.bool (decide (a≤b)))
 |.gtr=>k (.bool (decide (b<a)))
 |.geq=>k (.bool (decide (b≤a)))
 |_=>False
def shiftK (G:Bool)(op:BinOp)(kd:IntKind)(a b:Int)(k:SV→Prop):Prop:=
 match op with
 |.shl=>(G=true→0≤b)∧k (.int kd (kd.wrap (a*2^(min b.toNat kd.bits))))
 |.shr=>(G=true→0≤b)∧k (.int kd (a.fdiv (2^(min b.toNat kd.bits))))
 |_=>False
def sEq (x y:ByteArray):Bool:=x.toList==y.toList
def sLt (x y:ByteArray):Bool:=Op.bytesLess x.toList y.toList
def strK (G:Bool)(op:BinOp)(x y:ByteArray)(k:SV→Prop):Prop:=
 match op with
 |.add=>(G=true→In64 (((x.size+y.size:Nat)):Int))∧k (.str (x++y))
 |.eql=>k (.bool (sEq x y))
 |.neq=>k (.bool (!sEq x y))
 |.lss=>k (.bool (sLt x y))
 |.leq=>k (.bool (sLt x y||sEq x y))
 |.gtr=>k (.bool (!(sLt x y||sEq x y)))
 |.geq=>k (.bool (!sLt x y))
 |_=>False
def eqS:SV→SV→Bool
 |.int _ a,.int _ b=>a==b
 |.bool a,.bool b=>a==b
 |.str a,.str b=>a==b
 |_,_=>false
def eqL:List SV→List SV→Bool
 |[],[]=>true
 |[a],[b]=>eqS a b
 |a::l,b::r=>eqS a b && eqL l r
 |_,_=>false
def EqT (P:Program)(t:TypeId)(la lb:List SV):Prop:=
 ∀(β:Env) (xs ys:List Value),z2h β la xs→z2h β lb ys→∀(x y:Operand) (op:BinOp) (w:World),(op= .eql∨op= .neq)→
  (do eqGuard op t x y (.agg xs.toArray) (.agg ys.toArray);Op.equal t (.agg xs.toArray) (.agg ys.toArray):Sem Bool).run P w= .ok (eqL la lb) w
def binII (wr G:Bool)(op:BinOp)(kd:IntKind)(a:Int)(kd':IntKind)(b:Int)(k:SV→Prop):Prop:=
 match op with
 |.shl=>shiftK G .shl kd a b k
 |.shr=>shiftK G .shr kd a b k
 |op=>(G=true→kd'=kd)∧intK wr G op kd a b k
def binBB (P:Program)(G:Bool)(op:BinOp)(t:TypeId)(x y:Bool)(k:SV→Prop):Prop:=
 match op with
 |.eql=>(G=true→(z1l P t).kd= .bool)∧k (.bool (x==y))
 |.neq=>(G=true→(z1l P t).kd= .bool)∧k (.bool (x !=y))
 |_=>False
def binAA (P:Program)(G:Bool)(op:BinOp)(t:TypeId)(la lb:List SV)(k:SV→Prop):Prop:=
 match op with
 |.eql=>(G=true→EqT P t la lb)∧k (.bool (eqL la lb))
 |.neq=>(G=true→EqT P t la lb)∧k (.bool (!eqL la lb))
 |_=>False
def binNil (P:Program)(G:Bool)(op:BinOp)(t:TypeId)(n:Nat)(k:SV→Prop):Prop:=
 match op with
 |.eql=>(G=true→(∃e,(z1l P t).kd= .slice e)∧(z1l P t).ok=true)∧∀b:Bool,(0<n→b=false)→k (.bool b)
 |.neq=>(G=true→(∃e,(z1l P t).kd= .slice e)∧(z1l P t).ok=true)∧∀b:Bool,(0<n→b=false)→k (.bool (!b))
 |_=>False
def binK (P:Program)(wr G:Bool)(op:BinOp)(t:TypeId)(sx sy:SV)(k:SV→Prop):Prop:=
 match sx,sy with
 |.int kd a,.int kd' b=>binII wr G op kd a kd' b k
 |.str x,.str y=>strK G op x y k
 |.bool x,.bool y=>binBB P G op t x y k
 |.agg la,.agg lb=>binAA P G op t la lb k
 |.slc _ _ _ _ n,.nils=>binNil P G op t n k
 |_,_=>False
def Yld (P:Program)(e:Sem Value)(v:Value):Prop:=∀w,e.run P w= .ok v w
theorem arithK_ok {wr G:Bool}{kd:IntKind}{e:Int}{k:SV→Prop}(h:arithK wr G kd e k):∃s,k s∧(G=true→s= .int kd (kd.wrap e)):=by
 unfold arithK at h
 split at h
 ·split at h
  ·exact⟨_,h,fun _=>rfl⟩
  ·exact⟨_,h.2,fun hG=>by rw[(h.1 hG).wrap]⟩
 ·exact⟨_,h,fun _=>rfl⟩
theorem intK_ok {wr G:Bool}{op:BinOp}{kd:IntKind}{a b:Int}{k:SV→Prop}(ho:op≠ .shl∧op≠ .shr)(h:intK wr G op kd a b k):
  ∃s,k s∧(G=true→(∀m,s.lt m)∧∃v,(∀β,den β s v)∧∀P,Yld P (binOp op 0 (.int kd a) (.int kd b)) v):=by
 have ar:∀e,arithK wr G kd e k→(∀P,Yld P (binOp op 0 (.int kd a) (.int kd b)) (.int kd (kd.wrap e)))→∃s,k s∧(G=true→(∀m,s.lt m)∧∃v,(∀β,den β s v)∧∀P,Yld P (binOp op 0 (.int kd a) (.int kd b)) v):=fun e he hy=>by
  obtain⟨s,h1,h2⟩:=arithK_ok he;exact⟨s,h1,fun hG=>by rw[h2 hG];exact⟨fun _=>trivial,_,fun _=>rfl,hy⟩⟩
 have pl:∀(s:SV) (v:Value),k s→(∀m,s.lt m)→(∀β,den β s v)→(∀P,Yld P (binOp op 0 (.int kd a) (.int kd b)) v)→∃s,k s∧(G=true→(∀m,s.lt m)∧∃v,(∀β,den β s v)∧∀P,Yld P (binOp op 0 (.int kd a) (.int kd b)) v):=
  fun s v h1 h2 h3 h4=>⟨s,h1,fun _=>⟨h2,v,h3,h4⟩⟩
 unfold intK at h
 cases op<;>simp only at h
 case add=>exact ar _ h fun P w=>by simp[binOp,Op.intArith]
 case sub=>exact ar _ h fun P w=>by simp[binOp,Op.intArith]
 case mul=>exact ar _ h fun P w=>by simp[binOp,Op.intArith]
 case quo=>
  have gen:∀(s:SV),(G=true→b≠0∧s= .int kd (kd.wrap (a.tdiv b)))→k s→∃s,k s∧(G=true→(∀m,s.lt m)∧∃v,(∀β,den β s v)∧∀P,Yld P (binOp .quo 0 (.int kd a) (.int kd b)) v):=fun s hs hk=>
   ⟨s,hk,fun hG=>by
    obtain⟨hb,rfl⟩:=hs hG
    exact⟨fun _=>trivial,_,fun _=>rfl,fun P w=>by simp[binOp,Op.intDiv,hb]⟩⟩
  split at h
  ·split at h
   ·exact gen _ (fun hG=>⟨h.1 hG,rfl⟩) h.2
   ·exact gen _ (fun hG=>by
     obtain⟨h0,h1,h2⟩:=h.1 hG;refine⟨by omega,?_⟩
     rw[IntWalk.i64_quo a b ⟨h0,h2.2,by omega⟩]) h.2
  ·exact gen _ (fun hG=>⟨h.1 hG,rfl⟩) h.2
 case rem=>exact⟨_,h.2,fun hG=>⟨fun _=>trivial,_,fun _=>rfl,fun P w=>by simp[binOp,Op.intDiv,h.1 hG]⟩⟩
 case and=>exact pl _ _ h (fun _=>trivial) (fun _=>rfl) fun P w=>by simp[binOp,Op.intBits,z30]
 case or=>exact pl _ _ h (fun _=>trivial) (fun _=>rfl) fun P w=>by simp[binOp,Op.intBits,z30]
 case xor=>exact pl _ _ h (fun _=>trivial) (fun _=>rfl) fun P w=>by simp[binOp,Op.intBits,z30]
 case andNot=>exact pl _ _ h (fun _=>trivial) (fun _=>rfl) fun P w=>by simp[binOp,Op.intBits,z30]
 case eql=>exact pl _ _ h (fun _=>trivial) (fun _=>rfl) fun P w=>by simp[binOp,Op.intCmp]
 case neq=>exact pl _ _ h (fun _=>trivial) (fun _=>rfl) fun P w=>by simp[binOp,Op.intCmp]
 case lss=>exact pl _ _ h (fun _=>trivial) (fun _=>rfl) fun P w=>by simp[binOp,Op.intCmp]
 case leq=>exact pl _ _ h (fun _=>trivial) (fun _=>rfl) fun P w=>by simp[binOp,Op.intCmp]
 case gtr=>exact pl _ _ h (fun _=>trivial) (fun _=>rfl) fun P w=>by simp[binOp,Op.intCmp]
 case geq=>exact pl _ _ h (fun _=>trivial) (fun _=>rfl) fun P w=>by simp[binOp,Op.intCmp]
 all_goals exact h.elim
end Go.Sk

namespace Go.Sk
open Go.RowKit
def Kp (w:World)(B:Nat→Prop)(w':World):Prop:=w.heap.size≤w'.heap.size∧∀b,b<w.heap.size→¬B b→w'.heap[b]? =w.heap[b]?
def inW (β:Env)(H:AH)(W:List Nat)(b:Nat):Prop:=∃id k o L,id∈W∧look H.os id k=some o∧o.own=true∧β id k=some L∧L.blk=b
theorem Kp.refl (w:World)(B:Nat→Prop):Kp w B w:=⟨Nat.le_refl _,fun _ _ _=>rfl⟩
theorem z1h {P:Program}{t:TypeId}(h:(z1l P t).ok=true):∃i d,P.info? t=some i∧P.underlying t=some d∧z1l P t=⟨true,kdOf d,i.size,i.bytes,offsOf P d⟩:=by
 unfold z1l at*
 split at h
 ·rename_i i d hi hd;exact⟨i,d,hi,hd,rfl⟩
 ·cases h
theorem kdOf_struct {d:TypeDesc}(h:kdOf d= .struct):∃fs,d= .struct fs:=by cases d<;>simp[kdOf] at h;exact⟨_,rfl⟩
theorem z2l {d:TypeDesc}{e:TypeId}(h:kdOf d= .slice e):d= .slice e:=by cases d<;>simp[kdOf] at h;subst h;rfl
theorem kdOf_array {d:TypeDesc}{n:Nat}{e:TypeId}(h:kdOf d= .array n e):d= .array n e:=by cases d<;>simp[kdOf] at h;obtain⟨rfl,rfl⟩:=h;rfl
theorem kdOf_string {d:TypeDesc}(h:kdOf d= .string):d= .string:=by cases d<;>simp[kdOf] at h;rfl
theorem kdOf_int {d:TypeDesc}{k:IntKind}(h:kdOf d= .int k):d= .int k:=by cases d<;>simp[kdOf] at h;subst h;rfl
theorem kdOf_bool {d:TypeDesc}(h:kdOf d= .bool):d= .bool:=by cases d<;>simp[kdOf] at h;rfl
theorem kdOf_map {d:TypeDesc}{k e:TypeId}(h:kdOf d= .map k e):d= .map k e:=by cases d<;>simp[kdOf] at h;obtain⟨rfl,rfl⟩:=h;rfl
theorem z5g {P:Program}{t:TypeId}{d:TypeDesc}(hd:P.underlying t=some d)(w:World):(isAgg t).run P w= .ok (kdOf d).agg w:=by
 cases d<;>simp[isAgg,run_underlying hd,kdOf,Kd.agg]
theorem z1u {P:Program}{t:TypeId}{i:TypeInfo}(hi:P.info? t=some i)(w:World):(sizeOf t).run P w= .ok i.size w:=by
 simp[sizeOf,typeInfo,hi]
theorem z3t {P:Program}{t:TypeId}(h:z29 P t≠0):∃i,P.info? t=some i∧i.size=z29 P t:=by
 unfold z29 at*
 cases hi:P.info? t with
 |none=>simp[hi] at h
 |some i=>exact⟨i,rfl,by simp⟩
def loadK (P:Program)(H:AH)(W:List Nat)(G:Bool)(t:TypeId)(s:SV)(k:SV→Prop):Prop:=
 match s with
 |.ptr id kk i j=>
  match find H.os id with
  |some (c,F)=>
   match F kk with
   |.row r=>
    (G=true→kk<c∧i<r.n∧W.contains id=false∧(z1l P t).ok=true)∧
    match(z1l P t).kd.agg with
    |true=>(G=true→j+(z1l P t).size≤r.sz)∧k (.agg (((r.f i).drop j).take (z1l P t).size))
    |false=>match(r.f i)[j]? with|some s=>k s|none=>False
   |_=>False
  |none=>False
 |.raw (.pointer (some ⟨g,j,none⟩))=>
  match(z1l P t).kd with
  |.string=>(G=true→tabG P g=true∧j<6∧(z1l P t).ok=true)∧k (.str (letters.getD j default))
  |.int .u8=>(G=true→tabBG P g=true∧j<32∧(z1l P t).ok=true)∧k (.int .u8 (db32.getD j 0))
  |_=>False
 |_=>False
theorem St.cellsAt {X:Cx}{β:Env}{H:AH}{w:World}(hS:St X β H w){id kk:Nat}{r:Row}(hl:look H.os id kk=some (.row r)){i:Nat}(hi:i<r.n):
  ∃L,β id kk=some L∧L.blk<w.heap.size∧L.sz=r.sz∧(r.f i).length=r.sz∧∀(j:Nat) (s:SV),(r.f i)[j]? =some s→s.scalar=true∧s.lt H.nxt∧∃v,w.cell? ⟨L.blk,L.off+i*L.sz+j,none⟩=some v∧den β s v:=by
 have hh:=hS.holds _ _ _ hl;rcases hh with⟨h0,_⟩|⟨L,hq,h1,h2,h3,_⟩
 ·omega
 ·refine⟨L,hq,h2,h1,(h3 i hi).1,fun j s hs=> ?_⟩;obtain⟨a,v,b,c⟩:=(h3 i hi).2 j s hs;exact⟨a,(hS.lt _ _ _ hl).2 i j s hi hs,v,b,c⟩
theorem St.notW {X:Cx}{β:Env}{H:AH}{w:World}(hS:St X β H w){W:List Nat}{id kk:Nat}{o:Obj}(hl:look H.os id kk=some o)(hW:W.contains id=false){L:Loc}(hb:β id kk=some L):¬inW β H W L.blk:=by
 rintro⟨id',k',o',L',hm,hl',ho',hb',he⟩;have:=(hS.sep _ _ _ _ _ _ _ _ hl' hl ho' hb' hb he).1;subst this;simp at hW;exact hW hm
theorem zt {os:List (Nat×Nat×(Nat→Obj))}{id k c:Nat}{F:Nat→Obj}(h:find os id=some (c,F))(hk:k<c):look os id k=(F k).opt:=by
 simp[look,h,hk]
theorem z3p (b o i:Nat):(⟨b,o,none⟩:Addr).add i=⟨b,o+i,none⟩:=by
 unfold Addr.add
 split
 ·simp[*]
 ·rfl
theorem loadK_ok {X : Cx} {β : Env} {H : AH} {w : World} (hS : St X β H w) {W : List Nat} {G : Bool} {t : TypeId} {s : SV} {v : Value} {k : SV → Prop} (h : loadK X.P H W G t s k) (hv : G = true → den β s v) :
    ∃s',k s'∧(G=true→s'.lt H.nxt∧∃v',den β s' v'∧∀w',Kp w (inW β H W) w'→(Instr.loadAt t v).run X.P w'= .ok v' w'):=by
  unfold loadK at h
  split at h
  · rename_i id kk i j
    split at h
    · rename_i c F hf
      split at h
      · rename_i r hr;obtain⟨hc,h⟩:=h
        have main : G = true → ∃ (L : Loc) (inf : TypeInfo) (d : TypeDesc), L.sz = r.sz ∧ v = .pointer (some ⟨L.blk, L.off + i * L.sz + j, none⟩) ∧ X.P.info? t = some inf ∧ X.P.underlying t = some d ∧ z1l X.P t = ⟨true, kdOf d, inf.size, inf.bytes, offsOf X.P d⟩ ∧ (r.f i).length = r.sz ∧
            ∀(j':Nat) (s:SV),(r.f i)[j']? =some s→s.scalar=true∧s.lt H.nxt∧∃u,den β s u∧∀w',Kp w (inW β H W) w'→w'.cell? ⟨L.blk,L.off+i*L.sz+j',none⟩=some u:=fun hG=>by
          obtain⟨h1,h2,h3,h4⟩:=hc hG;have hl:=zt hf h1;rw[hr] at hl;obtain⟨L,hb,hlt,hsz,hlen,hcell⟩:=hS.cellsAt hl h2;have hd:=hv hG;simp only[den] at hd;obtain⟨L',hb',rfl⟩:=hd;rw[hb] at hb'
          cases hb'
          obtain⟨inf,d,e1,e2,e3⟩:=z1h h4;refine⟨L,inf,d,hsz,rfl,e1,e2,e3,hlen,fun j' s' hs'=> ?_⟩;obtain⟨q1,q2,u,q3,q4⟩:=hcell j' s' hs';refine⟨q1,q2,u,q4,fun w' hw'=> ?_⟩;exact(World.cell?_of_block (w:=w) (a:=⟨L.blk,_,none⟩) (hw'.2 _ hlt (hS.notW hl h3 hb))).trans q3
        split at h
        · rename_i hag;refine⟨_,h.2,fun hG=> ?_⟩;obtain⟨L,inf,d,hsz,rfl,e1,e2,e3,hlen,hcell⟩:=main hG;have hsize:(z1l X.P t).size=inf.size:=by rw[e3]
          have hfit:=h.1 hG;rw[hsize] at hfit ⊢;have hagd:(kdOf d).agg=true:=by have:=hag;rw[e3] at this;exact this
          have hll:(((r.f i).drop j).take inf.size).length=inf.size:=by rw[List.length_take,List.length_drop,hlen];omega
          have hget:∀(q:Nat) (s:SV),(((r.f i).drop j).take inf.size)[q]? =some s→(r.f i)[j+q]? =some s:=fun q s hs=>by
            rw[List.getElem?_take] at hs
            split at hs
            · simpa [List.getElem?_drop] using hs
            · cases hs
          refine⟨by simp only[SV.lt];exact SV.ltL_of_get fun q s hs=>(hcell _ s (hget q s hs)).2.1,?_⟩
          let f:Nat→Value:=fun q=>(w.cell? ⟨L.blk,L.off+i*L.sz+j+q,none⟩).getD undef
          have hf:∀(q:Nat) (s:SV),(((r.f i).drop j).take inf.size)[q]? =some s→den β s (f q)∧∀w',Kp w (inW β H W) w'→w'.cell? ⟨L.blk,L.off+i*L.sz+j+q,none⟩=some (f q):=fun q s hs=>by
            obtain⟨_,_,u,hd,hu⟩:=hcell _ s (hget q s hs);have h0:=hu w (Kp.refl _ _);have hfq:f q=u:=by simp only[f];rw[Nat.add_assoc,h0];rfl
            rw[hfq];exact⟨hd,fun w' hw'=>by rw[Nat.add_assoc];exact hu w' hw'⟩
          refine⟨.agg ((List.range inf.size).map f).toArray,?_,fun w' hw'=> ?_⟩
          · simp only[den];refine⟨_,?_,rfl⟩;have:=denL_mk (β:=β) _ f (fun q s hs=>(hf q s hs).1);rw[hll] at this;exact this
          · have hcs:(loadCells ⟨L.blk,L.off+i*L.sz+j,none⟩ inf.size).run X.P w'= .ok ((List.range inf.size).map f).toArray w':=by
              have hr:=run_loadCells_list (P:=X.P) w' ⟨L.blk,L.off+i*L.sz+j,none⟩ ((List.range inf.size).map f) (fun q u hq=>by
                rw[List.getElem?_map] at hq
                have hqlt:q<inf.size:=by
                  rcases Nat.lt_or_ge q inf.size with h'|h'
                  · exact h'
                  · rw[List.getElem?_eq_none (by simpa using h')] at hq;cases hq
                rw[List.getElem?_range hqlt] at hq
                cases hq
                rw[z3p]
                exact(hf q _ (List.getElem?_eq_getElem (by rw[hll];exact hqlt))).2 w' hw')
              simpa using hr
            simp[Instr.loadAt,Instr.sureAddr,loadVar,z5g e2,hagd,z1u e1,hcs]
        · rename_i hag
          split at h
          · rename_i s' hs';refine⟨s',h,fun hG=> ?_⟩;obtain⟨L,inf,d,hsz,rfl,e1,e2,e3,hlen,hcell⟩:=main hG;have hagd:(kdOf d).agg=false:=by have:=hag;rw[e3] at this;exact this
            obtain⟨_,q2,u,q3,q4⟩:=hcell j s' hs';refine⟨q2,u,q3,fun w' hw'=> ?_⟩;simp[Instr.loadAt,Instr.sureAddr,loadVar,z5g e2,hagd,q4 w' hw']
          · exact h.elim
      · exact h.elim
    · exact h.elim
  · rename_i g j
    split at h
    · rename_i hkd;refine⟨_,h.2,fun hG=>⟨trivial,?_⟩⟩;obtain⟨hg,hj,hok⟩:=h.1 hG;have hd:=hv hG;simp only[den] at hd;subst hd;obtain⟨hno,hlt,htab⟩:=hS.tab hg;obtain⟨inf,d,e1,e2,e3⟩:=z1h hok;rw[e3] at hkd;have hd2:=kdOf_string hkd;subst hd2
      have hlj:letters[j]? =some (letters.getD j default):=by
        have:j<letters.length:=hj;simp[List.getD,this]
      refine⟨.string (letters.getD j default),rfl,fun w' hw'=> ?_⟩;have hblk:=hw'.2 g hlt fun⟨id,k,o,L,_,h1,h2,h3,h4⟩=>hno id k o L h1 h2 h3 h4;have hcell:=(World.cell?_of_block (w:=w) (a:=⟨g,j,none⟩) hblk).trans (htab j _ hlj);simp[Instr.loadAt,Instr.sureAddr,loadVar,z5g e2,kdOf,Kd.agg,hcell]
    · rename_i hkd;refine⟨_,h.2,fun hG=>⟨trivial,?_⟩⟩;obtain⟨hg,hj,hok⟩:=h.1 hG;have hd:=hv hG;simp only[den] at hd;subst hd;obtain⟨hno,hlt,htab⟩:=hS.tabB hg;obtain⟨inf,d,e1,e2,e3⟩:=z1h hok;rw[e3] at hkd
      have hd2:d= .int .u8:=by
        cases d<;>simp[kdOf] at hkd
        rw[hkd]
      subst hd2
      have hlj:db32[j]? =some (db32.getD j 0):=by
        have:j<db32.length:=hj;simp[List.getD,this]
      refine⟨.int .u8 (db32.getD j 0),rfl,fun w' hw'=> ?_⟩;have hblk:=hw'.2 g hlt fun⟨id,k,o,L,_,h1,h2,h3,h4⟩=>hno id k o L h1 h2 h3 h4;have hcell:=(World.cell?_of_block (w:=w) (a:=⟨g,j,none⟩) hblk).trans (htab j _ hlj);simp[Instr.loadAt,Instr.sureAddr,loadVar,z5g e2,kdOf,Kd.agg,hcell]
    · exact h.elim
  · exact h.elim
end Go.Sk

namespace Go.Sk
open Go.RowKit
def faddrK (P:Program)(G:Bool)(t:TypeId)(f:Nat)(s:SV)(k:SV→Prop):Prop:=
 match s with
 |.ptr id kk i j=>
  match(z1l P t).offs[f]? with
  |some (off,_,sz)=>(G=true→sz≠0∧(z1l P t).ok=true)∧k (.ptr id kk i (j+off))
  |none=>False
 |_=>False
theorem offs_get {P:Program}{t:TypeId}(hok:(z1l P t).ok=true){f off sz:Nat}{ag:Option Bool}(h:(z1l P t).offs[f]? =some (off,ag,sz)):
  ∃fs fld,P.underlying t=some (.struct fs)∧fs[f]? =some fld∧fld.offset=off∧isAggT P fld.type=ag∧z29 P fld.type=sz:=by
 obtain⟨i,d,hi,hd,e⟩:=z1h hok;rw[e] at h
 cases d<;>simp[offsOf] at h
 rename_i fs;obtain⟨fld,h1,h2,h3,h4⟩:=h;exact⟨fs,fld,hd,h1,h2,h3,h4⟩
theorem faddrK_ok {P:Program}{β:Env}{m:Nat}{G:Bool}{t:TypeId}{f:Nat}{s:SV}{v:Value}{k:SV→Prop}(h:faddrK P G t f s k)(hv:G=true→den β s v∧s.lt m):
  ∃s',k s'∧(G=true→s'.lt m∧∃v',den β s' v'∧Yld P (Instr.fieldAt t v f) v'):=by
 unfold faddrK at h
 split at h
 ·rename_i id kk i j
  split at h
  ·rename_i off ag sz ho;refine⟨_,h.2,fun hG=> ?_⟩;obtain⟨hsz,hok⟩:=h.1 hG;obtain⟨fs,fld,h1,h2,h3,h4,h5⟩:=offs_get hok ho;obtain⟨hd,hl⟩:=hv hG;simp only[den] at hd;obtain⟨L,hb,rfl⟩:=hd;refine⟨hl,.pointer (some ⟨L.blk,L.off+i*L.sz+(j+off),none⟩),by simp only[den];exact⟨L,hb,rfl⟩,fun w=> ?_⟩;obtain⟨inf,hi,hi2⟩:=z3t (P:=P) (t:=fld.type) (by omega);have:inf.size≠0:=by omega
   simp[Instr.fieldAt,run_underlying h1,h2,Instr.sureAddr,fieldPlace,z1u hi,this,z3p,h3,Nat.add_assoc]
  ·exact h.elim
 ·exact h.elim
def partK (G:Bool)(l:List SV)(x:Option (Nat×Option Bool×Nat))(k:SV→Prop):Prop:=
 match x with
 |some (off,some true,sz)=>(G=true→sz≠0∧off+sz≤l.length)∧k (.agg ((l.drop off).take sz))
 |some (off,some false,_)=>match l[off]? with|some s=>k s|none=>False
 |_=>False
theorem denL_drop {β:Env}:∀{l:List SV} {vs:List Value} (n:Nat),z2h β l vs→z2h β (l.drop n) (vs.drop n)
 |_,_,0,h=>by simpa using h
 |[],vs,n+1,h=>by simp only[z2h] at h;subst h;simp[z2h]
 |s::l,vs,n+1,h=>by
  simp only[z2h] at h;obtain⟨v,r,_,hr,rfl⟩:=h;simpa using denL_drop n hr
theorem denL_take {β:Env}:∀{l:List SV} {vs:List Value} (n:Nat),z2h β l vs→z2h β (l.take n) (vs.take n)
 |_,_,0,h=>by simp[z2h]
 |[],vs,n+1,h=>by simp only[z2h] at h;subst h;simp[z2h]
 |s::l,vs,n+1,h=>by
  simp only[z2h] at h;obtain⟨v,r,hv,hr,rfl⟩:=h;exact⟨v,r.take n,hv,denL_take n hr,by simp⟩
theorem ltL_drop {m:Nat}{l:List SV}(n:Nat)(h:SV.ltL m l):SV.ltL m (l.drop n):=
 SV.ltL_of_get fun j s hs=>SV.ltL_get h (n+j) s (by simpa [List.getElem?_drop] using hs)
theorem ltL_take {m:Nat}{l:List SV}(n:Nat)(h:SV.ltL m l):SV.ltL m (l.take n):=
 SV.ltL_of_get fun j s hs=>by
  rw[List.getElem?_take] at hs
  split at hs
  ·exact SV.ltL_get h j s hs
  ·cases hs
theorem partK_ok {P:Program}{β:Env}{m:Nat}{G:Bool}{ft:TypeId}{off:Nat}{l:List SV}{vs:List Value}{k:SV→Prop}(h:partK G l (some (off,isAggT P ft,z29 P ft)) k)
  (hv:G=true→z2h β l vs∧SV.ltL m l):∃s',k s'∧(G=true→s'.lt m∧∃v',den β s' v'∧Yld P (part ft vs.toArray off) v'):=by
 unfold partK at h
 split at h
 ·rename_i off' sz' he;simp only[Option.some.injEq,Prod.mk.injEq] at he;obtain⟨rfl,hag,rfl⟩:=he;refine⟨_,h.2,fun hG=> ?_⟩;obtain⟨hd,hl⟩:=hv hG;obtain⟨inf,hi,hi2⟩:=z3t (h.1 hG).1;refine⟨by simp only[SV.lt];exact ltL_take _ (ltL_drop _ hl),.agg ((vs.drop off).take (z29 P ft)).toArray,by simp only[den];exact⟨_,denL_take _ (denL_drop _ hd),rfl⟩,fun w=> ?_⟩;unfold isAggT at hag
  cases hu:P.underlying ft with
  |none=>simp[hu] at hag
  |some d=>
   have hda:(kdOf d).agg=true:=by simpa [hu] using hag
   simp[part,z5g hu,hda,z1u hi,←hi2,List.extract_eq_take_drop]
 ·rename_i off' sz' he;simp only[Option.some.injEq,Prod.mk.injEq] at he;obtain⟨rfl,hag,rfl⟩:=he
  split at h
  ·rename_i s hs;refine⟨s,h,fun hG=> ?_⟩;obtain⟨hd,hl⟩:=hv hG;obtain⟨v,hv1,hv2⟩:=z3z hd _ s hs;refine⟨SV.ltL_get hl _ s hs,v,hv2,fun w=> ?_⟩;unfold isAggT at hag
   cases hu:P.underlying ft with
   |none=>simp[hu] at hag
   |some d=>
    have hda:(kdOf d).agg=false:=by simpa [hu] using hag
    simp[part,z5g hu,hda,hv1]
  ·exact h.elim
 ·exact h.elim
def fieldK (P:Program)(G:Bool)(t:TypeId)(f:Nat)(s:SV)(k:SV→Prop):Prop:=
 match s with
 |.agg l=>(G=true→(z1l P t).ok=true)∧partK G l ((z1l P t).offs[f]?) k
 |_=>False
theorem fieldK_ok {P:Program}{β:Env}{m:Nat}{G:Bool}{t:TypeId}{f:Nat}{s:SV}{v:Value}{k:SV→Prop}(h:fieldK P G t f s k)(hv:G=true→den β s v∧s.lt m):
  ∃s',k s'∧(G=true→s'.lt m∧∃v',den β s' v'∧Yld P (Instr.field t v f) v'):=by
 unfold fieldK at h
 split at h
 ·rename_i l
  cases G with
  |false=>
   obtain⟨_,h⟩:=h;unfold partK at h
   split at h
   ·exact⟨_,h.2,fun hG=>by cases hG⟩
   ·split at h
    ·exact⟨_,h,fun hG=>by cases hG⟩
    ·exact h.elim
   ·exact h.elim
  |true=>
   obtain⟨hok,h⟩:=h;obtain⟨hd,hl⟩:=hv rfl;simp only[den,SV.lt] at hd hl;obtain⟨vs,hvs,rfl⟩:=hd
   cases ho:(z1l P t).offs[f]? with
   |none=>rw[ho] at h;exact h.elim
   |some x=>
    obtain⟨off,ag,sz⟩:=x;obtain⟨fs,fld,h1,h2,h3,h4,h5⟩:=offs_get (hok rfl) ho;rw[ho,←h4,←h5] at h;obtain⟨s',hk,hs'⟩:=partK_ok (β:=β) (m:=m) (vs:=vs) h (fun _=>⟨hvs,hl⟩);refine⟨s',hk,fun hG=> ?_⟩;obtain⟨a,v',b,c⟩:=hs' hG;refine⟨a,v',b,fun w=> ?_⟩;simp[Instr.field,run_underlying h1,h2,asAgg,h3,c w]
 ·exact h.elim
def strsOf:List SV→Option (List ByteArray)
 |[]=>some []
 |.str s::l=>(strsOf l).map (s:: ·)
 |_=>none
def intsOf (kd:IntKind):List SV→Option (List Int)
 |[]=>some []
 |.int k n::l=>if k=kd then(intsOf kd l).map (n:: ·) else none
 |_=>none
theorem strsOf_get:∀{l:List SV} {ss:List ByteArray},strsOf l=some ss→∀i,i<l.length→l[i]? =some (.str (ss.getD i default))
 |[],_,_,i,hi=>by simp at hi
 |.str s::l,ss,h,i,hi=>by
  simp only[strsOf,Option.map_eq_some_iff] at h;obtain⟨r,hr,rfl⟩:=h
  cases i with
  |zero=>simp
  |succ i=>simpa using strsOf_get hr i (by simpa using hi)
theorem intsOf_get {kd:IntKind}:∀{l:List SV} {ss:List Int},intsOf kd l=some ss→∀i,i<l.length→l[i]? =some (.int kd (ss.getD i default))
 |[],_,_,i,hi=>by simp at hi
 |.int k n::l,ss,h,i,hi=>by
  simp only[intsOf] at h
  split at h
  ·rename_i hk;subst hk;simp only[Option.map_eq_some_iff] at h;obtain⟨r,hr,rfl⟩:=h
   cases i with
   |zero=>simp
   |succ i=>simpa using intsOf_get hr i (by simpa using hi)
  ·cases h
def byteAt (s:ByteArray)(i:Nat):Int:=((s[i]?).getD 0).toNat
def iaddrK (P:Program)(H:AH)(G:Bool)(t:TypeId)(s ix:SV)(k:SV→Prop):Prop:=
 match s,ix with
 |.slc _ id kk o n,.int _ z=>
  match(z1l P t).kd,find H.os id with
  |.slice e,some (c,F)=>
   match F kk with
   |.row r=>(G=true→(0≤z∧z<n)∧kk<c∧z29 P e=r.sz∧z29 P e≠0∧(z1l P t).ok=true)∧k (.ptr id kk (o+z.toNat) 0)
   |_=>False
  |_,_=>False
 |.ptr id kk i j,.int _ z=>
  match(z1l P t).kd with
  |.array n e=>(G=true→(0≤z∧z<n)∧z29 P e≠0∧(z1l P t).ok=true)∧k (.ptr id kk i (j+z.toNat*z29 P e))
  |_=>False
 |.raw (.pointer (some ⟨g,o,none⟩)),.int _ z=>
  match(z1l P t).kd with
  |.array n e=>(G=true→(0≤z∧z<n)∧z29 P e=1∧(z1l P t).ok=true)∧k (.raw (.pointer (some ⟨g,o+z.toNat,none⟩)))
  |_=>False
 |_,_=>False
theorem z4e {β:Env}{g:Bool}{id k o n:Nat}{v:Value}(h:z4l β g id k o n v)(hn:0<n):∃L c,β id k=some L∧v= .slice (some ⟨L.blk,L.off+o*L.sz,none⟩) n c:=by
 unfold z4l at h
 cases g with
 |false=>
  simp only[Bool.false_eq_true,if_false] at h;obtain⟨a,c,rfl,hc,ha⟩:=h;obtain⟨L,hb,rfl⟩:=ha hn;exact⟨L,c,hb,rfl⟩
 |true=>
  simp only[if_true] at h;rcases h with⟨_,h0,_⟩|⟨L,c,hb,ho,hoff,_,_,rfl⟩
  ·omega
  ·exact⟨L,c,hb,by simp[ho,hoff]⟩
theorem z3k {β:Env}{g:Bool}{id k o n:Nat}{v:Value}(h:z4l β g id k o n v):∃a c,v= .slice a n c∧n≤c:=by
 unfold z4l at h
 cases g with
 |false=>
  simp only[Bool.false_eq_true,if_false] at h;obtain⟨a,c,rfl,hc,_⟩:=h;exact⟨a,c,rfl,hc⟩
 |true=>
  simp only[if_true] at h;rcases h with⟨_,rfl,_,rfl⟩|⟨L,c,hb,ho,hoff,hc,_,rfl⟩
  ·exact⟨_,_,rfl,Nat.le_refl _⟩
  ·exact⟨_,_,rfl,hc⟩
theorem iaddrK_ok {X:Cx}{β:Env}{H:AH}{w:World}(hS:St X β H w){G:Bool}{t:TypeId}{s ix:SV}{v vi:Value}{k:SV→Prop}(h:iaddrK X.P H G t s ix k)(hv:G=true→den β s v∧s.lt H.nxt)(hi:G=true→den β ix vi):
  ∃s',k s'∧(G=true→s'.lt H.nxt∧∃v',den β s' v'∧Yld X.P (Instr.indexAt t v vi) v'):=by
 unfold iaddrK at h
 split at h
 ·rename_i g id kk o n kd z
  split at h
  ·rename_i e c F hkd hf
   split at h
   ·rename_i r hr;refine⟨_,h.2,fun hG=> ?_⟩;obtain⟨⟨z0,z1⟩,hk,hsz,hsz0,hok⟩:=h.1 hG;obtain⟨hd,hl⟩:=hv hG;have hdi:=hi hG;simp only[den] at hd hdi;subst hdi;obtain⟨L,cc,hb,rfl⟩:=z4e hd (by omega);have hlook:=zt hf hk;rw[hr] at hlook;obtain⟨inf,d,e1,e2,e3⟩:=z1h hok;rw[e3] at hkd;have hd':=z2l hkd;subst hd'
    have hLsz:L.sz=r.sz:=by
     have hh:=hS.holds _ _ _ hlook;rcases hh with⟨h0,hq⟩|⟨L',hq,h1,_⟩
     ·rw[hb] at hq;cases hq
     ·rw[hb] at hq;cases hq;exact h1
    obtain⟨ei,hei,hei2⟩:=z3t hsz0;refine⟨hl,.pointer (some ⟨L.blk,L.off+(o+z.toNat)*L.sz+0,none⟩),by simp only[den];exact⟨L,hb,rfl⟩,fun w=> ?_⟩;have hes:ei.size=L.sz:=by omega
    simp[Instr.indexAt,run_underlying e2,asIntOf,z0,z1,z1u hei,hes,z3p,Nat.add_mul,Nat.add_assoc]
   ·exact h.elim
  ·exact h.elim
 ·rename_i id kk i j kd z
  split at h
  ·rename_i n e hkd;refine⟨_,h.2,fun hG=> ?_⟩;obtain⟨⟨z0,z1⟩,hsz0,hok⟩:=h.1 hG;obtain⟨hd,hl⟩:=hv hG;have hdi:=hi hG;simp only[den] at hd hdi;subst hdi;obtain⟨L,hb,rfl⟩:=hd;obtain⟨inf,d,e1,e2,e3⟩:=z1h hok;rw[e3] at hkd;have hd':=kdOf_array hkd;subst hd';obtain⟨ei,hei,hei2⟩:=z3t hsz0;refine⟨hl,.pointer (some ⟨L.blk,L.off+i*L.sz+(j+z.toNat*z29 X.P e),none⟩),by simp only[den];exact⟨L,hb,rfl⟩,fun w=> ?_⟩;simp[Instr.indexAt,run_underlying e2,asIntOf,Instr.sureAddr,z0,z1,z1u hei,hei2,z3p,Nat.add_assoc]
  ·exact h.elim
 ·rename_i g o kd z
  split at h
  ·rename_i n e hkd;refine⟨_,h.2,fun hG=> ?_⟩;obtain⟨⟨z0,z1⟩,hsz,hok⟩:=h.1 hG;obtain⟨hd,hl⟩:=hv hG;have hdi:=hi hG;simp only[den] at hd hdi;subst hdi hd;obtain⟨inf,d,e1,e2,e3⟩:=z1h hok;rw[e3] at hkd;have hd':=kdOf_array hkd;subst hd';obtain⟨ei,hei,hei2⟩:=z3t (P:=X.P) (t:=e) (by omega);refine⟨trivial,_,rfl,fun w=> ?_⟩;simp[Instr.indexAt,run_underlying e2,asIntOf,Instr.sureAddr,z0,z1,z1u hei,hei2,hsz,z3p]
  ·exact h.elim
 ·exact h.elim
def indexK (P:Program)(G:Bool)(t:TypeId)(s ix:SV)(k:SV→Prop):Prop:=
 match s,ix with
 |.str s,.int _ z=>(G=true→(0≤z∧z<s.size)∧(z1l P t).kd= .string∧(z1l P t).ok=true)∧k (.int .u8 (byteAt s z.toNat))
 |.agg l,.int _ z=>
  match(z1l P t).kd with
  |.array n e=>
   (G=true→(0≤z∧z<n)∧n≤l.length∧z29 P e=1∧isAggT P e=some false∧(z1l P t).ok=true)∧
   match strsOf l with
   |some ss=>k (.str (ss.getD z.toNat default))
   |none=>match intsOf .i64 l with
    |some ss=>k (.int .i64 (ss.getD z.toNat default))
    |none=>False
  |_=>False
 |_,_=>False
theorem indexK_ok {P:Program}{β:Env}{m:Nat}{G:Bool}{t:TypeId}{s ix:SV}{v vi:Value}{k:SV→Prop}(h:indexK P G t s ix k)(hv:G=true→den β s v)(hi:G=true→den β ix vi):
  ∃s',k s'∧(G=true→s'.lt m∧∃v',den β s' v'∧Yld P (Instr.index t v vi) v'):=by
 unfold indexK at h
 split at h
 ·rename_i s kd z;refine⟨_,h.2,fun hG=> ?_⟩;obtain⟨⟨z0,z1⟩,hkd,hok⟩:=h.1 hG;have hd:=hv hG;have hdi:=hi hG;simp only[den] at hd hdi;subst hd hdi;obtain⟨inf,d,e1,e2,e3⟩:=z1h hok;rw[e3] at hkd;have hd':=kdOf_string hkd;subst hd';refine⟨trivial,_,rfl,fun w=> ?_⟩;have hlt:z.toNat<s.size:=by omega
  have hsome:s[z.toNat]? =some s[z.toNat]:=by simp[hlt]
  simp[Instr.index,asIntOf,run_underlying e2,z0,hsome,byteAt]
 ·rename_i l kd z
  split at h
  ·rename_i n e hkd;obtain⟨hc,h⟩:=h
   have main:∀s',G=true→l[z.toNat]? =some s'→(∀m,s'.lt m)→s'.lt m∧∃v',den β s' v'∧Yld P (Instr.index t v vi) v':=fun s' hG hs hl=>by
    obtain⟨⟨z0,z1⟩,hn,hsz,hag,hok⟩:=hc hG;have hd:=hv hG;have hdi:=hi hG;simp only[den] at hd hdi;subst hdi;obtain⟨vs,hvs,rfl⟩:=hd;obtain⟨inf,d,e1,e2,e3⟩:=z1h hok;rw[e3] at hkd;have hd':=kdOf_array hkd;subst hd';obtain⟨u,hu1,hu2⟩:=z3z hvs _ _ hs;obtain⟨ei,hei,hei2⟩:=z3t (P:=P) (t:=e) (by omega);refine⟨hl m,u,hu2,fun w=> ?_⟩;unfold isAggT at hag
    cases hue:P.underlying e with
    |none=>simp[hue] at hag
    |some d=>
     have hda:(kdOf d).agg=false:=by simpa [hue] using hag
     simp[Instr.index,asIntOf,run_underlying e2,z0,z1,z1u hei,hei2,hsz,part,z5g hue,hda,hu1]
   split at h
   ·rename_i ss hss;exact⟨_,h,fun hG=>main _ hG (strsOf_get hss _ (by have:=hc hG;omega)) (fun _=>trivial)⟩
   ·split at h
    ·rename_i ss hss;exact⟨_,h,fun hG=>main _ hG (intsOf_get hss _ (by have:=hc hG;omega)) (fun _=>trivial)⟩
    ·exact h.elim
  ·exact h.elim
 ·exact h.elim
end Go.Sk

namespace Go.Sk
open Go.RowKit
def bndK (G:Bool)(x:Option SV)(dflt:Nat)(k:Nat→Prop):Prop:=
 match x with
 |none=>k dflt
 |some (.int _ z)=>(G=true→0≤z)∧k z.toNat
 |_=>False
def sliceK (P:Program)(H:AH)(G:Bool)(t:TypeId)(s:SV)(lo hi mx:Option SV)(k:SV→Prop):Prop:=
 match s with
 |.slc g id kk o n=>
  match(z1l P t).kd,find H.os id with
  |.slice e,some (c,F)=>
   match F kk with
   |.row r=>
    bndK G hi n fun h=>bndK G lo 0 fun l=>bndK G mx n fun m=>
     (G=true→l≤h∧h≤m∧m≤n∧(hi.isSome=true∨mx.isSome=false)∧kk<c∧z29 P e=r.sz∧z29 P e≠0∧(z1l P t).ok=true)∧k (match lo with|none=> .slc g id kk (o+l) (h-l)|some _=> .slc false id kk (o+l) (h-l))
   |_=>False
  |_,_=>False
 |.nils=>
  match(z1l P t).kd with
  |.slice e=>bndK G hi 0 fun h=>bndK G lo 0 fun l=>(G=true→l=0∧h=0∧mx=none∧z29 P e≠0∧(z1l P t).ok=true)∧k .nils
  |_=>False
 |.str s=>
  bndK G hi s.size fun h=>bndK G lo 0 fun l=>
   (G=true→l≤h∧h≤s.size∧mx=none∧(z1l P t).kd= .string∧(z1l P t).ok=true)∧k (.str (s.extract l h))
 |_=>False
def denO (β:Env):Option SV→Option Value→Prop
 |none,none=>True
 |some s,some v=>den β s v
 |_,_=>False
theorem bndK_ok {β:Env}{G:Bool}{x:Option SV}{v:Option Value}{d:Nat}{k:Nat→Prop}(h:bndK G x d k)(hv:G=true→denO β x v):
  ∃n,k n∧(G=true→(x=none∧v=none∧n=d)∨∃kd z,x.isSome=true∧v=some (.int kd z)∧0≤z∧n=z.toNat):=by
 unfold bndK at h
 split at h
 ·refine⟨d,h,fun hG=> .inl ⟨rfl,?_,rfl⟩⟩;have:=hv hG
  cases v with
  |none=>rfl
  |some v=>simp[denO] at this
 ·rename_i kd z;refine⟨_,h.2,fun hG=> .inr ⟨kd,z,rfl,?_,h.1 hG,rfl⟩⟩;have:=hv hG
  cases v with
  |none=>simp[denO] at this
  |some v=>simp only[denO,den] at this;rw[this]
 ·exact h.elim
theorem z2i (P:Program)(w:World)(kd:IntKind)(z:Int)(y:Nat)(code:BoundsCode)(h0:0≤z)(h1:z≤y):(Instr.sliceBound (.int kd z) y code).run P w= .ok z.toNat w:=by
 simp[Instr.sliceBound,asIntOf,h0,h1]
theorem run_sliceBounds {P:Program}{w:World}{isS:Bool}{len cap l h m:Nat}{lo hi mx:Option Value}
  (hm:(mx=none∧m=cap)∨∃kd z,mx=some (.int kd z)∧0≤z∧m=z.toNat) (hmc:m≤cap)
  (hh:(hi=none∧h=len∧mx=none)∨∃kd z,hi=some (.int kd z)∧0≤z∧h=z.toNat) (hhm:h≤m)
  (hl:(lo=none∧l=0)∨∃kd z,lo=some (.int kd z)∧0≤z∧l=z.toNat) (hlh:l≤h):
  (Instr.sliceBounds isS len cap lo hi mx).run P w= .ok (l,h,m) w:=by
 unfold Instr.sliceBounds;rcases hm with⟨rfl,rfl⟩|⟨kd,z,rfl,z0,rfl⟩
 ·rcases hh with⟨rfl,rfl,_⟩|⟨kd,z,rfl,z0,rfl⟩
  ·rcases hl with⟨rfl,rfl⟩|⟨kd,z,rfl,z0,rfl⟩
   ·simp
   ·simp[z2i P w kd z _ _ z0 (show z≤(h:Int) by omega)]
  ·rcases hl with⟨rfl,rfl⟩|⟨kd',z',rfl,z0',rfl⟩
   ·simp[z2i P w kd z _ _ z0 (show z≤(m:Int) by omega)]
   ·simp[z2i P w kd z _ _ z0 (show z≤(m:Int) by omega),z2i P w kd' z' _ _ z0' (show z'≤((z.toNat:Nat):Int) by omega)]
 ·rcases hh with⟨_,_,h⟩|⟨kd',z',rfl,z0',rfl⟩
  ·cases h
  ·rcases hl with⟨rfl,rfl⟩|⟨kd'',z'',rfl,z0'',rfl⟩
   ·simp[z2i P w kd z _ _ z0 (show z≤(cap:Int) by omega),z2i P w kd' z' _ _ z0' (show z'≤((z.toNat:Nat):Int) by omega)]
   ·simp[z2i P w kd z _ _ z0 (show z≤(cap:Int) by omega),z2i P w kd' z' _ _ z0' (show z'≤((z.toNat:Nat):Int) by omega),z2i P w kd'' z'' _ _ z0'' (show z''≤((z'.toNat:Nat):Int) by omega)]
theorem sliceK_ok {X:Cx}{β:Env}{H:AH}{w:World}(hS:St X β H w){G:Bool}{t:TypeId}{s:SV}{v:Value}{lo hi mx:Option SV}{vlo vhi vmx:Option Value}{k:SV→Prop}
  (h:sliceK X.P H G t s lo hi mx k) (hv:G=true→den β s v∧s.lt H.nxt) (hlo:G=true→denO β lo vlo) (hhi:G=true→denO β hi vhi) (hmx:G=true→denO β mx vmx):
  ∃s',k s'∧(G=true→s'.lt H.nxt∧∃v',den β s' v'∧Yld X.P (Instr.sliceAt t v vlo vhi vmx) v'):=by
 unfold sliceK at h
 split at h
 ·rename_i g id kk o n
  split at h
  ·rename_i e c F hkd hf
   split at h
   ·rename_i r hr;obtain⟨hN,h,hh⟩:=bndK_ok h hhi;obtain⟨lN,h,hl⟩:=bndK_ok h hlo;obtain⟨mN,h,hm⟩:=bndK_ok h hmx;refine⟨_,h.2,fun hG=> ?_⟩;obtain⟨c1,c2,c3,c4,hk,hsz,hsz0,hok⟩:=h.1 hG;obtain⟨hd,hlt⟩:=hv hG;simp only[den] at hd;obtain⟨inf,d,e1,e2,e3⟩:=z1h hok;rw[e3] at hkd;have hd':=z2l hkd;subst hd';obtain⟨ei,hei,hei2⟩:=z3t hsz0;obtain⟨a,cp,rfl,hnc⟩:=z3k hd
    --the capacity that stands in the place of the third bound
    have hmv:(vmx=none∧mx=none)∨∃kd z,vmx=some (.int kd z)∧0≤z∧mN=z.toNat:=by
     rcases hm hG with⟨q1,q2,_⟩|⟨kd,z,_,q2,q3,q4⟩
     ·exact .inl ⟨q2,q1⟩
     ·exact .inr ⟨kd,z,q2,q3,q4⟩
    let m':=if vmx=none then cp else mN
    have hm':(vmx=none∧m'=cp)∨∃kd z,vmx=some (.int kd z)∧0≤z∧m'=z.toNat:=by
     rcases hmv with⟨q,_⟩|⟨kd,z,q,q1,q2⟩
     ·exact .inl ⟨q,by simp[m',q]⟩
     ·exact .inr ⟨kd,z,q,q1,by simp[m',q,q2]⟩
    have hm'c:m'≤cp:=by
     simp only[m'];split
     ·exact Nat.le_refl _
     ·omega
    have hhm':hN≤m':=by
     simp only[m'];split
     ·omega
     ·omega
    have hh':(vhi=none∧hN=n∧vmx=none)∨∃kd z,vhi=some (.int kd z)∧0≤z∧hN=z.toNat:=by
     rcases hh hG with⟨q1,q2,q3⟩|⟨kd,z,_,q2,q3,q4⟩
     ·refine .inl ⟨q2,q3,?_⟩;rcases c4 with c4|c4
      ·rw[q1] at c4;cases c4
      ·rcases hm hG with⟨_,q,_⟩|⟨_,_,q,_⟩
       ·exact q
       ·rw[q] at c4;cases c4
     ·exact .inr ⟨kd,z,q2,q3,q4⟩
    have hl':(vlo=none∧lN=0)∨∃kd z,vlo=some (.int kd z)∧0≤z∧lN=z.toNat:=by
     rcases hl hG with⟨_,q2,q3⟩|⟨kd,z,_,q2,q3,q4⟩
     ·exact .inl ⟨q2,q3⟩
     ·exact .inr ⟨kd,z,q2,q3,q4⟩
    have hlook:=zt hf hk;rw[hr] at hlook
    have base:den β (.slc false id kk (o+lN) (hN-lN)) (.slice (if m'=lN then a else a.map (·.add (lN*ei.size))) (hN-lN) (m'-lN)):=by
     simp only[den,z4l,Bool.false_eq_true,if_false];refine⟨_,_,rfl,by omega,fun hpos=> ?_⟩;obtain⟨L,c',hb,he⟩:=z4e hd (by omega)
     have hLsz:L.sz=r.sz:=by
      rcases hS.holds _ _ _ hlook with⟨_,hq⟩|⟨L',hq,h1,_⟩
      ·rw[hb] at hq;cases hq
      ·rw[hb] at hq;cases hq;exact h1
     simp only[Value.slice.injEq] at he;obtain⟨rfl,_,_⟩:=he;refine⟨L,hb,?_⟩;rw[if_neg (by omega)];have hes:ei.size=L.sz:=by omega
     simp[z3p,hes,Nat.add_mul,Nat.add_assoc]
    have hyld:Yld X.P (Instr.sliceAt t (.slice a n cp) vlo vhi vmx) (.slice (if m'=lN then a else a.map (·.add (lN*ei.size))) (hN-lN) (m'-lN)):=fun w=>by
     have hsb:=run_sliceBounds (P:=X.P) (w:=w) (isS:=true) hm' hm'c hh' hhm' hl' c1;simp[Instr.sliceAt,Instr.slice,run_underlying e2,hsb,z1u hei]
    split
    ·refine⟨hlt,_,?_,hyld⟩
     have hl0:lN=0:=by
      rcases hl hG with⟨_,_,q⟩|⟨_,_,q,_⟩
      ·exact q
      ·cases q
     cases g with
     |false=>exact base
     |true=>
      simp only[den,z4l,if_true] at hd ⊢;rcases hd with⟨h1,h2,h3,h4⟩|⟨L,c,h1,h2,h3,h4,h5,h6⟩
      ·cases h4
       refine .inl ⟨h1,by omega,by omega,?_⟩;rw[show hN-lN=0 by omega,show m'-lN=0 by omega]
       split<;>rfl
      ·cases h6
       refine .inr ⟨L,m'-lN,h1,by omega,h3,by omega,by omega,?_⟩;subst hl0
       split<;>simp[z3p]
    ·exact⟨hlt,_,base,hyld⟩
   ·exact h.elim
  ·exact h.elim
 ·split at h
  ·rename_i e hkd;obtain⟨hN,h,hh⟩:=bndK_ok h hhi;obtain⟨lN,h,hl⟩:=bndK_ok h hlo;refine⟨_,h.2,fun hG=> ?_⟩;obtain⟨c1,c2,c3,hsz0,hok⟩:=h.1 hG;obtain⟨hd,_⟩:=hv hG;simp only[den] at hd;subst hd c1 c2 c3
   have hvm:vmx=none:=by
    have:=hmx hG
    cases vmx with
    |none=>rfl
    |some _=>simp[denO] at this
   subst hvm;obtain⟨inf,d,e1,e2,e3⟩:=z1h hok;rw[e3] at hkd;have hd':=z2l hkd;subst hd';obtain⟨ei,hei,hei2⟩:=z3t hsz0
   have hh':(vhi=none∧(0:Nat)=0∧(none:Option Value)=none)∨∃kd z,vhi=some (.int kd z)∧0≤z∧0=z.toNat:=by
    rcases hh hG with⟨_,q2,q3⟩|⟨kd,z,_,q2,q3,q4⟩
    ·exact .inl ⟨q2,rfl,rfl⟩
    ·exact .inr ⟨kd,z,q2,q3,q4⟩
   have hl':(vlo=none∧(0:Nat)=0)∨∃kd z,vlo=some (.int kd z)∧0≤z∧0=z.toNat:=by
    rcases hl hG with⟨_,q2,q3⟩|⟨kd,z,_,q2,q3,q4⟩
    ·exact .inl ⟨q2,rfl⟩
    ·exact .inr ⟨kd,z,q2,q3,q4⟩
   refine⟨trivial,_,rfl,fun w=> ?_⟩;have hsb:=run_sliceBounds (P:=X.P) (w:=w) (isS:=true) (len:=0) (cap:=0) (m:=0) (.inl ⟨rfl,rfl⟩) (Nat.le_refl _) hh' (Nat.le_refl _) hl' (Nat.le_refl _);simp[Instr.sliceAt,Instr.slice,run_underlying e2,hsb,z1u hei]
  ·exact h.elim
 ·rename_i s;obtain⟨hN,h,hh⟩:=bndK_ok h hhi;obtain⟨lN,h,hl⟩:=bndK_ok h hlo;refine⟨_,h.2,fun hG=> ?_⟩;obtain⟨c1,c2,c3,hkd,hok⟩:=h.1 hG;obtain⟨hd,_⟩:=hv hG;simp only[den] at hd;subst hd c3
  have hvm:vmx=none:=by
   have:=hmx hG
   cases vmx with
   |none=>rfl
   |some _=>simp[denO] at this
  subst hvm;obtain⟨inf,d,e1,e2,e3⟩:=z1h hok;rw[e3] at hkd;have hd':=kdOf_string hkd;subst hd'
  have hh':(vhi=none∧hN=s.size∧(none:Option Value)=none)∨∃kd z,vhi=some (.int kd z)∧0≤z∧hN=z.toNat:=by
   rcases hh hG with⟨_,q2,q3⟩|⟨kd,z,_,q2,q3,q4⟩
   ·exact .inl ⟨q2,q3,rfl⟩
   ·exact .inr ⟨kd,z,q2,q3,q4⟩
  have hl':(vlo=none∧lN=0)∨∃kd z,vlo=some (.int kd z)∧0≤z∧lN=z.toNat:=by
   rcases hl hG with⟨_,q2,q3⟩|⟨kd,z,_,q2,q3,q4⟩
   ·exact .inl ⟨q2,q3⟩
   ·exact .inr ⟨kd,z,q2,q3,q4⟩
  refine⟨trivial,_,rfl,fun w=> ?_⟩;have hsb:=run_sliceBounds (P:=X.P) (w:=w) (isS:=false) (len:=s.size) (cap:=s.size) (m:=s.size) (.inl ⟨rfl,rfl⟩) (Nat.le_refl _) hh' c2 hl' c1;simp[Instr.sliceAt,Instr.slice,run_underlying e2,hsb]
 ·exact h.elim
def convK (P:Program)(wr G:Bool)(src dst:TypeId)(s:SV)(k:SV→Prop):Prop:=
 match s with
 |.int _ n=>
  match(z1l P dst).kd with
  |.int .i64=>(G=true→(z1l P src).ok=true∧(z1l P dst).ok=true)∧(if wr then k (.int .i64 (IntKind.i64.wrap n)) else(G=true→In64 n)∧k (.int .i64 n))
  |.int kd=>(G=true→(z1l P src).ok=true∧(z1l P dst).ok=true)∧k (.int kd (kd.wrap n))
  |_=>False
 |.str x=>(G=true→(z1l P dst).kd= .string∧(z1l P src).ok=true∧(z1l P dst).ok=true)∧k (.str x)
 |_=>False
theorem convK_ok {P:Program}{β:Env}{m:Nat}{wr G:Bool}{src dst:TypeId}{s:SV}{v:Value}{k:SV→Prop}(h:convK P wr G src dst s k)(hv:G=true→den β s v):
  ∃s',k s'∧(G=true→s'.lt m∧∃v',den β s' v'∧Yld P (convert src dst v) v'):=by
 have int (kd kd':IntKind) (n:Int) (hkd:(z1l P dst).kd= .int kd) (h1:(z1l P src).ok=true) (h2:(z1l P dst).ok=true):Yld P (convert src dst (.int kd' n)) (.int kd (kd.wrap n)):=fun w=>by
  obtain⟨_,d1,_,e1,_⟩:=z1h h1;obtain⟨_,d2,_,e2,e3⟩:=z1h h2;rw[e3] at hkd;have:=kdOf_int hkd;subst this;simp[convert,run_underlying e1,run_underlying e2,Conv.intToInt]
 unfold convK at h
 split at h
 ·rename_i kd' n
  split at h
  ·rename_i hkd;obtain⟨hc,h⟩:=h
   split at h
   ·refine⟨_,h,fun hG=>⟨trivial,_,rfl,?_⟩⟩;have:=hv hG;simp only[den] at this;subst this;exact int .i64 kd' n hkd (hc hG).1 (hc hG).2
   ·refine⟨_,h.2,fun hG=>⟨trivial,_,rfl,?_⟩⟩;have:=hv hG;simp only[den] at this;subst this;have h2:=int .i64 kd' n hkd (hc hG).1 (hc hG).2;rwa [(h.1 hG).wrap] at h2
  ·rename_i kd _ hkd;refine⟨_,h.2,fun hG=>⟨trivial,_,rfl,?_⟩⟩;have:=hv hG;simp only[den] at this;subst this;exact int kd kd' n hkd (h.1 hG).1 (h.1 hG).2
  ·exact h.elim
 ·rename_i x;refine⟨_,h.2,fun hG=>⟨trivial,_,rfl,fun w=> ?_⟩⟩;obtain⟨hkd,h1,h2⟩:=h.1 hG;have:=hv hG;simp only[den] at this;subst this;obtain⟨_,d1,_,e1,_⟩:=z1h h1;obtain⟨_,d2,_,e2,e3⟩:=z1h h2;rw[e3] at hkd;have:=kdOf_string hkd;subst this;simp[convert,run_underlying e1,run_underlying e2]
 ·exact h.elim
def unK (wr G:Bool)(op:UnOp)(s:SV)(k:SV→Prop):Prop:=
 match op,s with
 |.not,.bool b=>k (.bool (!b))
 |.neg,.int kd n=>arithK wr G kd (0-n) k
 |_,_=>False
theorem unK_ok {P:Program}{β:Env}{m:Nat}{wr G:Bool}{op:UnOp}{s:SV}{v:Value}{k:SV→Prop}(h:unK wr G op s k)(hv:G=true→den β s v):
  ∃s',k s'∧(G=true→s'.lt m∧∃v',den β s' v'∧Yld P (Op.unary op v) v'):=by
 unfold unK at h
 split at h
 ·refine⟨_,h,fun hG=>⟨trivial,_,rfl,fun w=> ?_⟩⟩;have:=hv hG;simp only[den] at this;subst this;simp[Op.unary]
 ·rename_i kd n;obtain⟨s',hk,hs⟩:=arithK_ok h;refine⟨s',hk,fun hG=> ?_⟩;have:=hv hG;simp only[den] at this;subst this;rw[hs hG];exact⟨trivial,_,rfl,fun w=>by simp[Op.unary,Op.intArith]⟩
 ·exact h.elim
def z5c.len:z5c→Nat
 |.ints l=>l.length
 |.strs l=>l.length
theorem z5c.len_vals (ks:z5c):ks.vals.length=ks.len:=by cases ks<;>simp[z5c.vals,z5c.len]
def lenK (P:Program)(dr:Bool)(H:AH)(W:List Nat)(G:Bool)(t:TypeId)(s:SV)(k:SV→Prop):Prop:=
 match s with
 |.mp id kk=>
  match find H.os id with
  |some (c,F)=>
   match F kk with
   |.blk _ ks=>(G=true→dr=false∧kk<c∧W.contains id=false∧(∃kt et,(z1l P t).kd= .map kt et)∧(z1l P t).ok=true)∧k (.int .i64 ks.len)
   |.mapo _ M=>(G=true→dr=false∧kk<c∧W.contains id=false∧(∃kt et,(z1l P t).kd= .map kt et)∧(z1l P t).ok=true)∧k (.int .i64 M.n)
   |_=>False
  |none=>False
 |.slc _ _ _ _ n=>(G=true→(∃e,(z1l P t).kd= .slice e)∧(z1l P t).ok=true)∧k (.int .i64 n)
 |.nils=>(G=true→(∃e,(z1l P t).kd= .slice e)∧(z1l P t).ok=true)∧k (.int .i64 0)
 |.str x=>(G=true→(z1l P t).kd= .string∧(z1l P t).ok=true)∧k (.int .i64 x.size)
 |_=>False
theorem lenK_ok {X:Cx}{β:Env}{H:AH}{w:World}(hS:St X β H w){dr:Bool}{W:List Nat}{G:Bool}{t ty:TypeId}{s:SV}{v:Value}{k:SV→Prop}{C:World→Prop}(hC:dr=false→∀w',C w'→Kp w (inW β H W) w')(h:lenK X.P dr H W G t s k)(hv:G=true→den β s v):
  ∃s',k s'∧(G=true→s'.lt H.nxt∧∃v',den β s' v'∧∀w',C w'→(Builtin.len_ #[t] ty #[v]).run X.P w'= .ok v' w'):=by
 unfold lenK at h
 split at h
 ·rename_i id kk
  split at h
  ·rename_i c F hf
   split at h
   ·rename_i o ks hr;refine⟨_,h.2,fun hG=>⟨trivial,_,rfl,fun w' hw'=> ?_⟩⟩;obtain⟨hdr,hkk,hW,⟨kt,et,hkd⟩,hok⟩:=h.1 hG;have hl:=zt hf hkk;rw[hr] at hl;obtain⟨_,d,_,e2,e3⟩:=z1h hok;rw[e3] at hkd;have:=kdOf_map hkd;subst this;have hd:=hv hG;simp only[den] at hd;obtain⟨L,hb,rfl⟩:=hd;have hh:=hS.holds _ _ _ hl;obtain⟨L',b,hq,hbk,es,clk,rfl,hks,_⟩:=hh;rw[hb] at hq
    cases hq
    have hlt:=(Array.getElem?_eq_some_iff.1 hbk).1;have hbk':w'.heap[L.blk]? =some (.map es clk):=((hC hdr w' hw').2 _ hlt (hS.notW hl hW hb)).trans hbk;have hn:es.size=ks.len:=by rw[←ks.len_vals,←hks];simp
    have hgo:(getObj L.blk).run X.P w'= .ok (.map es clk) w':=by simp[getObj,Sem.run,hbk']
    simp[Builtin.len_,run_underlying e2,hgo,goInt,hn]
   ·rename_i o M hr;refine⟨_,h.2,fun hG=>⟨trivial,_,rfl,fun w' hw'=> ?_⟩⟩;obtain⟨hdr,hkk,hW,⟨kt,et,hkd⟩,hok⟩:=h.1 hG;have hl:=zt hf hkk;rw[hr] at hl;obtain⟨_,d,_,e2,e3⟩:=z1h hok;rw[e3] at hkd;have:=kdOf_map hkd;subst this;have hd:=hv hG;simp only[den] at hd;obtain⟨L,hb,rfl⟩:=hd;have hh:=hS.holds _ _ _ hl;obtain⟨L',b,hq,hbk,es,clk,rfl,hn,_⟩:=hh;rw[hb] at hq
    cases hq
    have hlt:=(Array.getElem?_eq_some_iff.1 hbk).1;have hbk':w'.heap[L.blk]? =some (.map es clk):=((hC hdr w' hw').2 _ hlt (hS.notW hl hW hb)).trans hbk;have hgo:(getObj L.blk).run X.P w'= .ok (.map es clk) w':=by simp[getObj,Sem.run,hbk']
    simp[Builtin.len_,run_underlying e2,hgo,goInt,hn]
   ·exact h.elim
  ·exact h.elim
 ·refine⟨_,h.2,fun hG=>⟨trivial,_,rfl,fun w' _=> ?_⟩⟩;obtain⟨⟨e,hkd⟩,hok⟩:=h.1 hG;obtain⟨_,d,_,e2,e3⟩:=z1h hok;rw[e3] at hkd;have:=z2l hkd;subst this;have hd:=hv hG;simp only[den] at hd;obtain⟨a,c,rfl,_⟩:=z3k hd;simp[Builtin.len_,run_underlying e2,goInt]
 ·refine⟨_,h.2,fun hG=>⟨trivial,_,rfl,fun w' _=> ?_⟩⟩;obtain⟨⟨e,hkd⟩,hok⟩:=h.1 hG;obtain⟨_,d,_,e2,e3⟩:=z1h hok;rw[e3] at hkd;have:=z2l hkd;subst this;have hd:=hv hG;simp only[den] at hd;subst hd;simp[Builtin.len_,run_underlying e2,goInt]
 ·refine⟨_,h.2,fun hG=>⟨trivial,_,rfl,fun w' _=> ?_⟩⟩;obtain⟨hkd,hok⟩:=h.1 hG;obtain⟨_,d,_,e2,e3⟩:=z1h hok;rw[e3] at hkd;have:=kdOf_string hkd;subst this;have hd:=hv hG;simp only[den] at hd;subst hd;simp[Builtin.len_,run_underlying e2,goInt]
 ·exact h.elim
def foldInt (f:Int→Int→Int):Int→List SV→Option Int
 |x,[]=>some x
 |x,.int _ y::l=>foldInt f (f x y) l
 |_,_=>none
def mmK (f:Int→Int→Int)(l:List SV)(k:SV→Prop):Prop:=
 match l with
 |.int kd x::l=>match foldInt f x l with
  |some z=>k (.int kd z)
  |none=>False
 |_=>False
theorem max_fold {P:Program}{β:Env}(kd:IntKind):∀(l:List SV) (vs:List Value) (x z:Int) (w:World),z2h β l vs→foldInt max x l=some z→(vs.foldlM Builtin.max2 (.int kd x)).run P w= .ok (.int kd z) w
 |[],vs,x,z,w,h,hz=>by simp only[z2h] at h;subst h;simp[foldInt] at hz;subst hz;simp
 |s::l,vs,x,z,w,h,hz=>by
  simp only[z2h] at h;obtain⟨v,r,hv,hr,rfl⟩:=h
  cases s<;>simp only[foldInt] at hz<;>first|cases hz|skip
  rename_i kd' y;simp only[den] at hv;subst hv;have hmx:(if y>x then y else x)=max x y:=by omega
  simp only[List.foldlM_cons,Sem.run_bind,Builtin.max2,Sem.run_pure,Result.andThen_ok,hmx];exact max_fold kd l r _ z w hr hz
theorem min_fold {P:Program}{β:Env}(kd:IntKind):∀(l:List SV) (vs:List Value) (x z:Int) (w:World),z2h β l vs→foldInt min x l=some z→(vs.foldlM Builtin.min2 (.int kd x)).run P w= .ok (.int kd z) w
 |[],vs,x,z,w,h,hz=>by simp only[z2h] at h;subst h;simp[foldInt] at hz;subst hz;simp
 |s::l,vs,x,z,w,h,hz=>by
  simp only[z2h] at h;obtain⟨v,r,hv,hr,rfl⟩:=h
  cases s<;>simp only[foldInt] at hz<;>first|cases hz|skip
  rename_i kd' y;simp only[den] at hv;subst hv;have hmx:(if y<x then y else x)=min x y:=by omega
  simp only[List.foldlM_cons,Sem.run_bind,Builtin.min2,Sem.run_pure,Result.andThen_ok,hmx];exact min_fold kd l r _ z w hr hz
theorem mmK_max {P:Program}{β:Env}{m:Nat}{l:List SV}{vs:List Value}{ats:Array TypeId}{ty:TypeId}{k:SV→Prop}{G:Bool}(h:mmK max l k)(hv:G=true→z2h β l vs):
  ∃s',k s'∧(G=true→s'.lt m∧∃v',den β s' v'∧Yld P (Builtin.max_ ats ty vs.toArray) v'):=by
 unfold mmK at h
 split at h
 ·rename_i kd x l
  split at h
  ·rename_i z hz;refine⟨_,h,fun hG=>⟨trivial,_,rfl,fun w=> ?_⟩⟩;have hd:=hv hG;simp only[z2h] at hd;obtain⟨v,r,hv1,hr,rfl⟩:=hd;have hv':v= .int kd x:=hv1;subst hv';exact max_fold kd l r x z w hr hz
  ·exact h.elim
 ·exact h.elim
theorem mmK_min {P:Program}{β:Env}{m:Nat}{l:List SV}{vs:List Value}{ats:Array TypeId}{ty:TypeId}{k:SV→Prop}{G:Bool}(h:mmK min l k)(hv:G=true→z2h β l vs):
  ∃s',k s'∧(G=true→s'.lt m∧∃v',den β s' v'∧Yld P (Builtin.min_ ats ty vs.toArray) v'):=by
 unfold mmK at h
 split at h
 ·rename_i kd x l
  split at h
  ·rename_i z hz;refine⟨_,h,fun hG=>⟨trivial,_,rfl,fun w=> ?_⟩⟩;have hd:=hv hG;simp only[z2h] at hd;obtain⟨v,r,hv1,hr,rfl⟩:=hd;have hv':v= .int kd x:=hv1;subst hv';exact min_fold kd l r x z w hr hz
  ·exact h.elim
 ·exact h.elim
end Go.Sk

namespace Go.Sk
open Go.RowKit
def bytK (f:Nat→List SV):Nat→Nat→Option (List Int)
 |_,0=>some []
 |o,n+1=>match f o with
  |[.int .u8 z]=>(bytK f (o+1) n).map (z:: ·)
  |_=>none
def bstr (zs:List Int):ByteArray:=zs.foldl (fun r n=>r.push (UInt8.ofNat n.toNat)) ByteArray.empty
def isBy (P:Program)(t:TypeId):Bool:=match P.underlying t with
 |some (.slice e)=>match P.underlying e with
  |some (.int .u8)=>true
  |_=>false
 |_=>false
def bstrK (P:Program)(H:AH)(W:List Nat)(dr G:Bool)(src dst:TypeId)(s:SV)(k:SV→Prop):Prop:=
 match s with
 |.slc _ id kk o n=>
  match find H.os id with
  |some (c,F)=>
   match F kk with
   |.row r=>
    match bytK r.f o n with
    |some zs=>(G=true→dr=false∧kk<c∧o+n≤r.n∧r.sz=1∧W.contains id=false∧isBy P src=true∧(z1l P dst).ok=true∧(z1l P dst).kd= .string)∧k (.str (bstr zs))
    |none=>False
   |_=>False
  |none=>False
 |_=>False
theorem bytK_get {f:Nat→List SV}:∀{n o:Nat} {zs:List Int},bytK f o n=some zs→zs.length=n∧∀(i:Nat) (z:Int),zs[i]? =some z→f (o+i)=[.int .u8 z]
 |0,o,zs,h=>by cases h;exact⟨rfl,fun i z hz=>by simp at hz⟩
 |n+1,o,zs,h=>by
  unfold bytK at h
  split at h
  ·rename_i z hf;obtain⟨ys,h1,rfl⟩:=Option.map_eq_some_iff.1 h;obtain⟨h2,h3⟩:=bytK_get h1;refine⟨by simp[h2],fun i y hy=> ?_⟩
   cases i with
   |zero=>simp at hy;subst hy;exact hf
   |succ i=>
    have:=h3 i y (by simpa using hy);rw[show o+(i+1)=o+1+i by omega];exact this
  ·cases h
theorem isBy_ok {P:Program}{t:TypeId}(h:isBy P t=true):∃e,P.underlying t=some (.slice e)∧P.underlying e=some (.int .u8):=by
 unfold isBy at h
 split at h
 ·rename_i e he
  split at h
  ·rename_i he2;exact⟨e,he,he2⟩
  ·cases h
 ·cases h
theorem bstrK_ok {X:Cx}{β:Env}{H:AH}{w:World}(hS:St X β H w){W:List Nat}{dr G:Bool}{src dst:TypeId}{s:SV}{v:Value}{k:SV→Prop}(h:bstrK X.P H W dr G src dst s k)(hv:G=true→den β s v):
  ∃s',k s'∧(G=true→dr=false∧s'.lt H.nxt∧∃v',den β s' v'∧∀w',Kp w (inW β H W) w'→(convert src dst v).run X.P w'= .ok v' w'):=by
 unfold bstrK at h
 split at h
 ·rename_i g id kk o n
  split at h
  ·rename_i c F hf
   split at h
   ·rename_i r hr
    split at h
    ·rename_i zs hzs;refine⟨_,h.2,fun hG=> ?_⟩;obtain⟨h1,h2,h3,h4,h5,h6,h7,h8⟩:=h.1 hG;refine⟨h1,trivial,_,rfl,fun w' hw'=> ?_⟩;have hd:=hv hG;simp only[den] at hd;obtain⟨e,e1,e2⟩:=isBy_ok h6;obtain⟨_,d2,_,e4,e5⟩:=z1h h7;rw[e5] at h8;have:=kdOf_string h8;subst this;obtain⟨hl,hget⟩:=bytK_get hzs;obtain⟨a,cap,rfl,_⟩:=z3k hd;rw[run_convert_bytes_string w' src dst e a n cap e1 e2 e4]
     cases n with
     |zero=>
      have:zs=[]:=List.eq_nil_of_length_eq_zero hl;subst this
      cases a with
      |none=>rfl
      |some a=>
       have hcs:(loadCells a 0).run X.P w'= .ok (([]:List Int).map (Value.int .u8)).toArray w':=run_loadCells_list (P:=X.P) w' a [] (fun j v hj=>by cases j<;>cases hj);exact run_bytesToString w' a 0 cap [] hcs
     |succ m=>
      obtain⟨L,c',hb,hv2⟩:=z4e hd (Nat.succ_pos m)
      cases hv2
      have hlk:=zt hf h2;rw[hr] at hlk
      have hcs:(loadCells ⟨L.blk,L.off+o*L.sz,none⟩ (m+1)).run X.P w'= .ok (zs.map (Value.int .u8)).toArray w':=by
       have:=run_loadCells_list (P:=X.P) w' ⟨L.blk,L.off+o*L.sz,none⟩ (zs.map (Value.int .u8)) (fun j u hj=>by
        obtain⟨z,hz,rfl⟩:=Option.map_eq_some_iff.1 (by rw[←List.getElem?_map];exact hj)
        have hjl:j<zs.length:=by
         rcases Nat.lt_or_ge j zs.length with h|h
         ·exact h
         ·rw[List.getElem?_eq_none h] at hz;cases hz
        obtain⟨L',hb',hlt,hsz,hlen,hcell⟩:=hS.cellsAt hlk (i:=o+j) (by omega);rw[hb] at hb'
        cases hb'
        obtain⟨_,_,u,q3,q4⟩:=hcell 0 (.int .u8 z) (by rw[hget j z hz];rfl);simp only[den] at q4;subst q4;rw[z3p];have:=(World.cell?_of_block (w:=w) (a:=⟨L.blk,L.off+(o+j)*L.sz+0,none⟩) (hw'.2 _ hlt (hS.notW hlk h5 hb))).trans q3;rw[hsz,h4] at this ⊢
        simpa [Nat.add_assoc] using this)
       rw[List.length_map,hl] at this;exact this
      exact run_bytesToString w' _ _ _ zs hcs
    ·exact h.elim
   ·exact h.elim
  ·exact h.elim
 ·exact h.elim
def convX (P:Program)(H:AH)(W:List Nat)(wr dr G:Bool)(src dst:TypeId)(s:SV)(k:SV→Prop):Prop:=
 match s with
 |.slc g id kk o n=>bstrK P H W dr G src dst (.slc g id kk o n) k
 |s=>convK P wr G src dst s k
end Go.Sk

namespace Go.Sk
open Go.RowKit
def spl {α:Type}(cs:List α)(off:Nat)(ps:List α):List α:=cs.take off++ps++cs.drop (off+ps.length)
theorem spl_length {α:Type}(cs:List α)(off:Nat)(ps:List α)(h:off+ps.length≤cs.length):(spl cs off ps).length=cs.length:=by
 simp[spl];omega
theorem fold_set (ps:List Value):∀(arr:Array Value) (off k:Nat),off+k+ps.length≤arr.size→
  ((ps.zipIdx k).foldl (fun cs (x:Value×Nat)=>cs.setIfInBounds (off+x.2) x.1) arr).toList=spl arr.toList (off+k) ps:=by
 induction ps with
 |nil=>intro arr off k _;simp[spl]
 |cons p ps ih=>
  intro arr off k h;simp only[List.length_cons] at h;rw[List.zipIdx_cons,List.foldl_cons,ih _ _ _ (by simp;omega)];simp only[spl,Array.toList_setIfInBounds,List.length_cons];apply List.ext_getElem?;intro i;simp only[List.getElem?_append,List.getElem?_take,List.getElem?_drop,List.length_append,List.length_take,List.length_set,Array.length_toList,List.getElem?_set,List.length_cons];have e1:min (off+(k+1)) arr.size=off+k+1:=by omega
  have e2:min (off+k) arr.size=off+k:=by omega
  simp only[e1,e2];rcases Nat.lt_trichotomy i (off+k) with h1|h1|h1
  ·simp[show i<off+k+1+ps.length by omega,show i<off+k+1 by omega,show i<off+(k+1) by omega,show i<off+k+(ps.length+1) by omega,h1,show¬off+k=i by omega]
  ·subst h1;simp[show off+k<off+k+1+ps.length by omega,show off+k<off+(k+1) by omega,show off+k<arr.size by omega]
  ·by_cases h2:i<off+k+1+ps.length
   ·simp only[h2,show¬i<off+k+1 by omega,show i<off+k+(ps.length+1) by omega,show¬i<off+k by omega,if_true,if_false];rw[show i-(off+k)=(i-(off+k+1))+1 by omega,List.getElem?_cons_succ]
   ·simp only[h2,show¬i<off+k+(ps.length+1) by omega,if_false];rw[show off+(k+1)+ps.length+(i-(off+k+1+ps.length))=i by omega,show off+k+(ps.length+1)+(i-(off+k+(ps.length+1)))=i by omega,if_neg (by omega)]
def okCells:SV→Bool
 |.agg _=>true
 |s=>s.scalar
theorem cells_den {β:Env}{s:SV}{v:Value}(hs:okCells s=true)(h:den β s v):z2h β s.cells v.cells.toList:=by
 cases s
 case agg l=>
  simp only[den] at h;obtain⟨vs,hvs,rfl⟩:=h;simpa [SV.cells,Value.cells] using hvs
 all_goals
  have h1:v.oneCell'=true:=(fun h'=>den_scalar h' h) hs;have hc:v.cells= #[v]:=by cases v<;>first|rfl|simp[Value.oneCell'] at h1
  rw[hc];exact⟨v,[],h,rfl,rfl⟩
theorem cells_lt {m:Nat}{s:SV}(h:s.lt m):SV.ltL m s.cells:=by
 cases s<;>simp only[SV.cells,SV.ltL]<;>first|exact h|exact⟨h,trivial⟩
def fillS (place:Nat→Option (Nat×Nat))(cs:List SV):List (Nat×SV)→Option (List SV)
 |[]=>some cs
 |(i,s)::r=>
  match place i with
  |some (off,sz)=>if okCells s=true∧s.cells.length=sz∧off+sz≤cs.length then fillS place (spl cs off s.cells) r else none
  |none=>none
theorem fillS_ok {β:Env}{m:Nat}(place:Nat→Option (Nat×Nat)):∀(ps:List (Nat×SV)) (pv:List (Nat×Value)) (cs cs':List SV) (arr:Array Value),
  ps.map (·.1)=pv.map (·.1)→z2h β (ps.map (·.2)) (pv.map (·.2))→SV.ltL m (ps.map (·.2))→z2h β cs arr.toList→SV.ltL m cs→fillS place cs ps=some cs'→
  ∃arr',Instr.fill place arr pv=some arr'∧z2h β cs' arr'.toList∧SV.ltL m cs'
 |[],pv,cs,cs',arr,h1,_,_,h4,h5,h6=>by
  cases pv with
  |cons=>simp at h1
  |nil=>simp only[fillS,Option.some.injEq] at h6;subst h6;exact⟨arr,rfl,h4,h5⟩
 |(i,s)::ps,pv,cs,cs',arr,h1,h2,h3,h4,h5,h6=>by
  cases pv with
  |nil=>simp at h1
  |cons p pv=>
   obtain⟨i',v⟩:=p;simp only[List.map_cons,List.cons.injEq] at h1;obtain⟨rfl,h1⟩:=h1;simp only[List.map_cons,z2h,List.cons.injEq] at h2;obtain⟨v',r',hd,hr,rfl,rfl⟩:=h2;simp only[List.map_cons,SV.ltL] at h3;simp only[fillS] at h6
   split at h6
   ·rename_i off sz hp
    split at h6
    ·rename_i hc;obtain⟨c1,c2,c3⟩:=hc;have hcd:=cells_den c1 hd;have hlen:=z27 hcd;have hlen2:=z27 h4;simp only[Array.length_toList] at hlen hlen2;simp only[Instr.fill,hp];rw[if_neg (by simp;omega)];have hfs:=fold_set v.cells.toList arr off 0 (by simp;omega);simp only[Nat.add_zero] at hfs
     have hnew:z2h β (spl cs off s.cells) (Array.foldl (fun cs (x:Value×Nat)=>cs.setIfInBounds (off+x.2) x.1) arr v.cells.zipIdx).toList:=by
      rw[←Array.foldl_toList,Array.toList_zipIdx,hfs];unfold spl;rw[show v.cells.toList.length=s.cells.length by simpa using hlen];exact denL_append (denL_append (denL_take _ h4) hcd) (denL_drop _ h4)
     refine fillS_ok place ps pv _ cs' _ h1 hr h3.2 hnew ?_ h6;refine SV.ltL_of_get fun j u hu=> ?_;unfold spl at hu;rcases List.mem_append.1 (List.mem_of_getElem? hu) with hm|hm
     ·rcases List.mem_append.1 hm with hm|hm
      ·obtain⟨q,hq⟩:=List.getElem?_of_mem hm;exact SV.ltL_get (ltL_take off h5) q u hq
      ·obtain⟨q,hq⟩:=List.getElem?_of_mem hm;exact SV.ltL_get (cells_lt h3.1) q u hq
     ·obtain⟨q,hq⟩:=List.getElem?_of_mem hm;exact SV.ltL_get (ltL_drop _ h5) q u hq
    ·cases h6
   ·cases h6
def z2x (P:Program)(t:TypeId):Option (List SV):=((P.info? t).bind (·.zero)).map fun v=>v.cells.toList.map z1t
theorem z3r (β:Env)(l:List Value):z2h β (l.map z1t) l:=by
 induction l with
 |nil=>simp[z2h]
 |cons v l ih=>exact⟨v,l,ofConst1_den β v,ih,rfl⟩
theorem z4c (m:Nat)(l:List Value):SV.ltL m (l.map z1t):=by
 induction l with
 |nil=>simp[SV.ltL]
 |cons v l ih=>exact⟨ofConst1_lt m v,ih⟩
theorem zeroOf_run {P:Program}{t:TypeId}{l:List SV}(h:z2x P t=some l):∃z,Yld P (zeroValue t) z∧l=z.cells.toList.map z1t:=by
 unfold z2x at h
 cases hi:P.info? t with
 |none=>simp[hi] at h
 |some i=>
  cases hz:i.zero with
  |none=>simp[hi,hz] at h
  |some z=>
   simp[hi,hz] at h;exact⟨z,fun w=>by simp[zeroValue,typeInfo,hi,hz],h.symm⟩
def partsK (fr:Fr)(G:Bool):List (Nat×Operand)→(List (Nat×SV)→Prop)→Prop
 |[],k=>k []
 |(i,x)::l,k=>opdK fr G x fun s=>partsK fr G l fun r=>k ((i,s)::r)
theorem partsK_ok {X:Cx}{β:Env}{m:Nat}{fr:Fr}{a:Act}(hF:FrOk X β m fr a){G:Bool}:∀{l:List (Nat×Operand)} {k:List (Nat×SV)→Prop},partsK fr G l k→
  ∃ss,k ss∧ss.map (·.1)=l.map (·.1)∧(G=true→z2h β (ss.map (·.2)) (l.map fun p=>a.eval p.2)∧SV.ltL m (ss.map (·.2)))
 |[],k,h=>⟨[],h,rfl,fun _=>⟨rfl,trivial⟩⟩
 |(i,x)::l,k,h=>by
  obtain⟨s,h1,h2⟩:=z1e hF h;obtain⟨r,h3,h4,h5⟩:=partsK_ok hF h1;exact⟨(i,s)::r,h3,by simp[h4],fun hG=>⟨⟨_,_,(h2 hG).1,(h5 hG).1,rfl⟩,(h2 hG).2,(h5 hG).2⟩⟩
def placeS (offs:List (Nat×Option Bool×Nat))(i:Nat):Option (Nat×Nat):=(offs[i]?).map fun x=>(x.1,x.2.2)
def buildK (P:Program)(G:Bool)(t:TypeId)(ps:List (Nat×SV))(k:SV→Prop):Prop:=
 match z2x P t,(z1l P t).kd with
 |some z,.struct=>
  match fillS (placeS (z1l P t).offs) z ps with
  |some cs=>(G=true→(z1l P t).ok=true∧(z1l P t).offs.all (fun x=>x.2.2 !=0)=true)∧k (.agg cs)
  |none=>False
 |some z,.array _ e=>
  match fillS (fun i=>some (i*z29 P e,z29 P e)) z ps with
  |some cs=>(G=true→(z1l P t).ok=true∧z29 P e≠0)∧k (.agg cs)
  |none=>False
 |_,_=>False
theorem fieldsMap {P:Program}(fs:List Field)(h:∀f∈fs,z29 P f.type≠0)(w:World):
  (fs.mapM (fun f=>do pure (f.offset,←sizeOf f.type):Field→Sem (Nat×Nat))).run P w= .ok (fs.map fun f=>(f.offset,z29 P f.type)) w:=by
 induction fs with
 |nil=>simp
 |cons f fs ih=>
  obtain⟨i,hi,hs⟩:=z3t (h f (by simp));have ih':=ih (fun g hg=>h g (by simp[hg]));simp only[List.mapM_cons,Sem.run_bind,Sem.run_pure,Result.andThen_ok,z1u hi,hs,ih',List.map_cons]
theorem buildK_ok {P:Program}{β:Env}{m:Nat}{G:Bool}{t:TypeId}{ps:List (Nat×SV)}{pv:List (Nat×Value)}{k:SV→Prop}(h:buildK P G t ps k)
  (he:ps.map (·.1)=pv.map (·.1)) (hv:G=true→z2h β (ps.map (·.2)) (pv.map (·.2))∧SV.ltL m (ps.map (·.2))):
  ∃s',k s'∧(G=true→s'.lt m∧∃v',den β s' v'∧Yld P (Instr.build t pv.toArray) v'):=by
 unfold buildK at h
 split at h
 ·rename_i z hz hkd
  split at h
  ·rename_i cs hcs;refine⟨_,h.2,fun hG=> ?_⟩;obtain⟨hok,hall⟩:=h.1 hG;obtain⟨hd,hl⟩:=hv hG;obtain⟨zv,hzr,rfl⟩:=zeroOf_run hz;obtain⟨inf,d,e1,e2,e3⟩:=z1h hok;rw[e3] at hkd hall hcs;obtain⟨fs,rfl⟩:=kdOf_struct hkd;obtain⟨arr',ha,hda,hla⟩:=fillS_ok (β:=β) (m:=m) (placeS (offsOf P (.struct fs))) ps pv _ cs zv.cells he hd hl (z3r β _) (z4c m _) hcs;refine⟨by simpa only[SV.lt] using hla,.agg arr',by simp only[den];exact⟨_,hda,by simp⟩,fun w=> ?_⟩
   have hf:∀f∈fs.toList,z29 P f.type≠0:=fun f hf=>by
    simp only[offsOf,List.all_map,List.all_eq_true,Function.comp,bne_iff_ne,ne_eq] at hall;exact hall f hf
   have hm:=fieldsMap fs.toList hf w
   have hma:(fs.mapM (fun f=>do pure (f.offset,←sizeOf f.type):Field→Sem (Nat×Nat))).run P w= .ok (fs.map fun f=>(f.offset,z29 P f.type)) w:=by
    rw[Array.mapM_eq_mapM_toList];simp only[Sem.run_map,hm,Result.andThen_ok];rw[←Array.toList_map,Array.toArray_toList]
   have hpl:(fun i=>(fs.map fun f=>(f.offset,z29 P f.type))[i]?)=placeS (offsOf P (.struct fs)):=by
    funext i
    simp only[placeS,offsOf,List.getElem?_map,Array.getElem?_map,Array.getElem?_toList,Option.map_map]
    cases fs[i]? <;>rfl
   simp only[Instr.build,Sem.run_bind,hzr w,Result.andThen_ok,run_underlying e2,hma,hpl,ha];simp
  ·exact h.elim
 ·rename_i z n e hz hkd
  split at h
  ·rename_i cs hcs;refine⟨_,h.2,fun hG=> ?_⟩;obtain⟨hok,hsz⟩:=h.1 hG;obtain⟨hd,hl⟩:=hv hG;obtain⟨zv,hzr,rfl⟩:=zeroOf_run hz;obtain⟨inf,d,e1,e2,e3⟩:=z1h hok;rw[e3] at hkd;have:=kdOf_array hkd;subst this;obtain⟨ei,hei,hei2⟩:=z3t hsz;obtain⟨arr',ha,hda,hla⟩:=fillS_ok (β:=β) (m:=m) _ ps pv _ cs zv.cells he hd hl (z3r β _) (z4c m _) hcs;refine⟨by simpa only[SV.lt] using hla,.agg arr',by simp only[den];exact⟨_,hda,by simp⟩,fun w=> ?_⟩;rw[←hei2] at ha;simp only[Instr.build,Sem.run_bind,hzr w,Result.andThen_ok,run_underlying e2,z1u hei,ha];simp
  ·exact h.elim
 ·exact h.elim
def optK (fr:Fr)(G:Bool)(x:Option Operand)(k:Option SV→Prop):Prop:=
 match x with
 |none=>k none
 |some x=>opdK fr G x fun s=>k (some s)
theorem optK_ok {X:Cx}{β:Env}{m:Nat}{fr:Fr}{a:Act}(hF:FrOk X β m fr a){G:Bool}{x:Option Operand}{k:Option SV→Prop}(h:optK fr G x k):
  ∃s,k s∧(G=true→denO β s (x.map a.eval)):=by
 cases x with
 |none=>exact⟨none,h,fun _=>trivial⟩
 |some x=>
  obtain⟨s,h1,h2⟩:=z1e hF h;exact⟨some s,h1,fun hG=>(h2 hG).1⟩
def pickB:Bool→SV→SV→Option Bool
 |bc,.bool x,.bool y=>some (cond bc x y)
 |_,_,_=>none
theorem pickB_bool {b x y:Bool}:pickB b (.bool x) (.bool y)=some (cond b x y):=rfl
def qop (P:Program)(wr dr:Bool)(H:AH)(W:List Nat)(fr:Fr)(G:Bool)(op:Op)(k:SV→Prop):Prop:=
 match op with
 |.move x=>opdK fr G x k
 |.assign x=>opdK fr G x k
 |.pick c a b=>
  opdK fr G c fun sc=>
   match sc with
   |.bool bc=>
    opdK fr (G && bc) a fun sa=>opdK fr (G && !bc) b fun sb=>
     match pickB bc sa sb with
     |some z=>k (.bool z)
     |none=>False
   |_=>False
 |.load t x=>opdK fr G x fun s=>loadK P H W G t s k
 |.nilCheck x=>opdK fr G x fun s=>
  match s with
  |.ptr id kk i j=>k (.ptr id kk i j)
  |.fn f l=>k (.fn f l)
  |_=>False
 |.binOp op t x y _=>opdK fr G x fun sx=>opdK fr G y fun sy=>binK P wr G op t sx sy k
 |.unOp op _ x=>opdK fr G x fun s=>unK wr G op s k
 |.convert src dst x=>opdK fr G x fun s=>convX P H W wr dr G src dst s k
 |.fieldAddr t x f=>opdK fr G x fun s=>faddrK P G t f s k
 |.field t x f=>opdK fr G x fun s=>fieldK P G t f s k
 |.indexAddr t x i=>opdK fr G x fun s=>opdK fr G i fun si=>iaddrK P H G t s si k
 |.index t x i=>opdK fr G x fun s=>opdK fr G i fun si=>indexK P G t s si k
 |.slice t x lo hi mx=>opdK fr G x fun s=>optK fr G lo fun l=>optK fr G hi fun h=>optK fr G mx fun m=>sliceK P H G t s l h m k
 |.extract x i=>opdK fr G x fun s=>
  match s with
  |.tup l=>match l[i]? with|some s=>k s|none=>False
  |_=>False
 |.makeFunc (.func f) first cap=>
  match first with
  |⟨[]⟩=>opdsK fr G cap.toList fun ss=>k (.fn f ss)
  |_=>False
 |.build t ps=>partsK fr G ps.toList fun ss=>buildK P G t ss k
 |.makeInterface t x=>opdK fr G x fun s=>(G=true→(∃e,(z1l P t).kd= .slice e)∧(z1l P t).ok=true)∧k (.ifc t s)
 |.call {callee:= .builtin .len,args:=⟨[x]⟩,argTypes:=⟨[t]⟩}=>opdK fr G x fun s=>lenK P dr H W G t s k
 |.call {callee:= .builtin .max,args,argTypes:=_}=>opdsK fr G args.toList fun ss=>mmK max ss k
 |.call {callee:= .builtin .min,args,argTypes:=_}=>opdsK fr G args.toList fun ss=>mmK min ss k
 |_=>False
theorem equal_bool {P:Program}{t:TypeId}(h:P.underlying t=some .bool)(p q:Bool)(w:World):(Op.equal t (.bool p) (.bool q)).run P w= .ok (p==q) w:=by
 have:∀d,(Op.equalIn (d+1) t (.bool p) (.bool q)).run P w= .ok (p==q) w:=fun d=>by simp[Op.equalIn,run_underlying h]
 exact this 9999
theorem equal_nil {P:Program}{t e:TypeId}(h:P.underlying t=some (.slice e))(ad:Option Addr)(n c:Nat)(w:World):(Op.equal t (.slice ad n c) (.slice none 0 0)).run P w= .ok ad.isNone w:=by
 have:∀d,(Op.equalIn (d+1) t (.slice ad n c) (.slice none 0 0)).run P w= .ok ad.isNone w:=fun d=>by cases ad<;>simp[Op.equalIn,run_underlying h]
 exact this 9999
def Good (X:Cx)(β:Env)(H:AH)(C:World→Prop)(o:Oper)(a:Act)(s:SV):Prop:=
 s.lt H.nxt∧∃v,den β s v∧∀w',C w'→(execOp a.eval o).run X.P w'= .ok (.value v) w'
theorem z2u {X:Cx}{β:Env}{H:AH}{C:World→Prop}{o:Oper}{a:Act}{s:SV}{v:Value}{e:Sem Value}(hl:s.lt H.nxt)(hd:den β s v)(he:execOp a.eval o=(do pure (.value (←e))))(hy:Yld X.P e v):Good X β H C o a s:=
 ⟨hl,v,hd,fun w' _=>by rw[he];simp[hy w']⟩
theorem qop_ok {X:Cx}{β:Env}{H:AH}{w:World}(hS:St X β H w){W:List Nat}{C:World→Prop}{fr:Fr}{a:Act}(hF:FrOk X β H.nxt fr a){G:Bool}{o:Oper}{k:SV→Prop}{dr:Bool}(hC:((∃t x,o.op= .load t x)∨dr=false)→∀w',C w'→Kp w (inW β H W) w')(h:qop X.P X.wrap dr H W fr G o.op k):
  ∃s,k s∧(G=true→Good X β H C o a s):=by
 unfold qop at h
 split at h
 ·--move
  rename_i x hop;obtain⟨s,h1,h2⟩:=z1e hF h;refine⟨s,h1,fun hG=>⟨(h2 hG).2,_,(h2 hG).1,fun w' _=>by simp[execOp,hop]⟩⟩
 ·rename_i x hop;obtain⟨s,h1,h2⟩:=z1e hF h;refine⟨s,h1,fun hG=>⟨(h2 hG).2,_,(h2 hG).1,fun w' _=>by simp[execOp,hop]⟩⟩
 ·--pick
  rename_i c x y hop;obtain⟨sc,h,hc⟩:=z1e hF h
  split at h
  ·rename_i bc;obtain⟨sa,h,ha⟩:=z1e hF h;obtain⟨sb,h,hb⟩:=z1e hF h;obtain⟨xb,rfl⟩:∃xb,sa= .bool xb:=by cases sa<;>first|exact⟨_,rfl⟩|exact(show False from h).elim
   obtain⟨yb,rfl⟩:∃yb,sb= .bool yb:=by cases sb<;>first|exact⟨_,rfl⟩|exact(show False from h).elim
   refine⟨_,h,fun hG=>⟨trivial,.bool (cond bc xb yb),rfl,fun w' _=> ?_⟩⟩;have hcv:=(hc hG).1;simp only[den] at hcv
   cases bc with
   |true=>
    have:=(ha (by simp[hG])).1;simp only[den] at this;simp[execOp,hop,hcv,asBool,this]
   |false=>
    have:=(hb (by simp[hG])).1;simp only[den] at this;simp[execOp,hop,hcv,asBool,this]
  ·exact h.elim
 ·--load
  rename_i t x hop;obtain⟨s,h,hx⟩:=z1e hF h;obtain⟨s',hk,hs⟩:=loadK_ok (v:=a.eval x) hS h (fun hG=>(hx hG).1);refine⟨s',hk,fun hG=> ?_⟩;obtain⟨hl,v',hd,hr⟩:=hs hG;exact⟨hl,v',hd,fun w' hw'=>by simp[execOp,hop,hr w' (hC (.inl ⟨_,_,hop⟩) w' hw')]⟩
 ·--nilCheck
  rename_i x hop;obtain⟨s,h,hx⟩:=z1e hF h
  split at h
  ·refine⟨_,h,fun hG=>⟨(hx hG).2,_,(hx hG).1,fun w' _=> ?_⟩⟩;have:=(hx hG).1;simp only[den] at this;obtain⟨L,_,e⟩:=this;simp[execOp,hop,e]
  ·refine⟨_,h,fun hG=>⟨(hx hG).2,_,(hx hG).1,fun w' _=> ?_⟩⟩;have:=(hx hG).1;simp only[den] at this;obtain⟨vs,_,e⟩:=this;simp[execOp,hop,e]
  ·exact h.elim
 ·--binOp
  rename_i op t x y t' hop;obtain⟨sx,h1,hx⟩:=z1e hF h;obtain⟨sy,h2,hy⟩:=z1e hF h1;clear h h1;have h:=h2;clear h2
  have guardOk:∀(v u:Value),(∀w,(eqGuard op t x y v u).run X.P w= .ok () w)→a.eval x=v→a.eval y=u→∀r,Yld X.P (binOp op t v u) r→∀w',(execOp a.eval o).run X.P w'= .ok (.value r) w':=fun v u hg e1 e2 r hr w'=>by
   simp[execOp,hop,e1,e2,hg w',hr w']
  unfold binK at h
  split at h
  ·rename_i kd p kd' q
   have gi:∀w,(eqGuard op t x y (.int kd p) (.int kd' q)).run X.P w= .ok () w:=fun w=>by
    unfold eqGuard;cases op<;>simp
   have sh:∀(op':BinOp),(op'= .shl∨op'= .shr)→op=op'→shiftK G op' kd p q k→∃s,k s∧(G=true→Good X β H C o a s):=fun op' ho he h=>by
    subst he;unfold shiftK at h
    split at h
    ·refine⟨_,h.2,fun hG=>⟨trivial,_,rfl,fun w' _=>guardOk _ _ gi (hx hG).1 (hy hG).1 _ (fun w=> ?_) w'⟩⟩;have:=h.1 hG;simp[binOp,Op.shift,show¬q<0 by omega]
    ·refine⟨_,h.2,fun hG=>⟨trivial,_,rfl,fun w' _=>guardOk _ _ gi (hx hG).1 (hy hG).1 _ (fun w=> ?_) w'⟩⟩;have:=h.1 hG;simp[binOp,Op.shift,show¬q<0 by omega]
    ·exact h.elim
   unfold binII at h
   split at h
   ·exact sh _ (.inl rfl) rfl h
   ·exact sh _ (.inr rfl) rfl h
   ·rename_i n1 n2;obtain⟨s,hk,hs⟩:=intK_ok ⟨n1,n2⟩ h.2;refine⟨s,hk,fun hG=> ?_⟩;obtain⟨hl,v,hd,hyd⟩:=hs hG;have hkk:=h.1 hG;subst hkk;refine⟨hl _,v,hd β,fun w' _=>guardOk _ _ gi (hx hG).1 (hy hG).1 v (fun w=> ?_) w'⟩;have h0:=hyd X.P w;have ht:binOp op t (.int kd' p) (.int kd' q)=binOp op 0 (.int kd' p) (.int kd' q):=by cases op<;>rfl
    rw[ht];exact h0
  ·rename_i xs ys
   have gi:∀w,(eqGuard op t x y (.string xs) (.string ys)).run X.P w= .ok () w:=fun w=>by
    unfold eqGuard;cases op<;>simp
   have go:∀r s,k s→(∀β,den β s r)→(∀m,s.lt m)→(G=true→∀w,(Op.stringOp op xs ys).run X.P w= .ok r w)→∃s,k s∧(G=true→Good X β H C o a s):=fun r s hk hd hl hr=>
    ⟨s,hk,fun hG=>⟨hl _,r,hd β,fun w' _=>guardOk _ _ gi (hx hG).1 (hy hG).1 r (fun w=>by
     have h0:=hr hG w;have:binOp op t (.string xs) (.string ys)=Op.stringOp op xs ys:=by cases op<;>rfl
     rw[this];exact h0) w'⟩⟩
   unfold strK at h
   split at h
   ·refine go _ _ h.2 (fun _=>rfl) (fun _=>trivial) (fun hG w=> ?_);have h2:((xs.size+ys.size:Nat):Int)≤9223372036854775807:=(h.1 hG).2
    have h3:¬(((xs.size+ys.size:Nat):Int)>IntKind.i64.max):=by
     have:IntKind.i64.max=9223372036854775807:=by decide
     rw[this];omega
    simp only[Op.stringOp,if_neg h3]
    rfl
   ·exact go _ _ h (fun _=>rfl) (fun _=>trivial) (fun _ w=>by simp[Op.stringOp,sEq])
   ·exact go _ _ h (fun _=>rfl) (fun _=>trivial) (fun _ w=>by simp[Op.stringOp,sEq])
   ·exact go _ _ h (fun _=>rfl) (fun _=>trivial) (fun _ w=>by simp[Op.stringOp,sLt])
   ·exact go _ _ h (fun _=>rfl) (fun _=>trivial) (fun _ w=>by simp[Op.stringOp,sLt,sEq])
   ·exact go _ _ h (fun _=>rfl) (fun _=>trivial) (fun _ w=>by simp[Op.stringOp,sLt,sEq])
   ·exact go _ _ h (fun _=>rfl) (fun _=>trivial) (fun _ w=>by simp[Op.stringOp,sLt])
   ·exact h.elim
  ·rename_i p q
   have bl:(z1l X.P t).kd= .bool→∀w,(Op.equal t (.bool p) (.bool q)).run X.P w= .ok (p==q) w:=fun hkd w=>by
    have hok:(z1l X.P t).ok=true:=by
     unfold z1l at hkd ⊢
     split
     ·rfl
     ·rename_i hn;split at hkd
      ·rename_i h1 h2;exact(hn _ _ h1 h2).elim
      ·cases hkd
    obtain⟨_,d,_,e2,e3⟩:=z1h hok;rw[e3] at hkd;have:=kdOf_bool hkd;subst this;exact equal_bool e2 p q w
   unfold binBB at h
   split at h
   ·refine⟨_,h.2,fun hG=>⟨trivial,_,rfl,fun w' _=>guardOk _ _ (fun w=>by simp[eqGuard]) (hx hG).1 (hy hG).1 _ (fun w=> ?_) w'⟩⟩;simp[binOp,bl (h.1 hG) w]
   ·refine⟨_,h.2,fun hG=>⟨trivial,_,rfl,fun w' _=>guardOk _ _ (fun w=>by simp[eqGuard]) (hx hG).1 (hy hG).1 _ (fun w=> ?_) w'⟩⟩;simp[binOp,bl (h.1 hG) w,bne]
   ·exact h.elim
  ·rename_i la lb
   have ag:EqT X.P t la lb→(op= .eql∨op= .neq)→G=true→∀w',∃xs ys,a.eval x= .agg xs∧a.eval y= .agg ys∧(do eqGuard op t x y (.agg xs) (.agg ys);Op.equal t (.agg xs) (.agg ys):Sem Bool).run X.P w'= .ok (eqL la lb) w':=fun he ho hG w'=>by
    have h1:=(hx hG).1;have h2:=(hy hG).1;simp only[den] at h1 h2;obtain⟨xs,d1,e1⟩:=h1;obtain⟨ys,d2,e2⟩:=h2;exact⟨_,_,e1,e2,he β xs ys d1 d2 x y op w' ho⟩
   unfold binAA at h
   split at h
   ·refine⟨_,h.2,fun hG=>⟨trivial,.bool (eqL la lb),rfl,fun w' _=> ?_⟩⟩;obtain⟨xs,ys,e1,e2,hr⟩:=ag (h.1 hG) (.inl rfl) hG w';simp only[execOp,hop,e1,e2,binOp];simp only[Sem.run_bind] at hr ⊢
    cases hg:(eqGuard .eql t x y (.agg xs) (.agg ys)).run X.P w' with
    |halt q w2=>rw[hg] at hr;simp at hr
    |ok u w2=>
     rw[hg] at hr;simp only[Result.andThen_ok] at hr ⊢;rw[hr];rfl
   ·refine⟨_,h.2,fun hG=>⟨trivial,.bool (!eqL la lb),rfl,fun w' _=> ?_⟩⟩;obtain⟨xs,ys,e1,e2,hr⟩:=ag (h.1 hG) (.inr rfl) hG w';simp only[execOp,hop,e1,e2,binOp];simp only[Sem.run_bind] at hr ⊢
    cases hg:(eqGuard .neq t x y (.agg xs) (.agg ys)).run X.P w' with
    |halt q w2=>rw[hg] at hr;simp at hr
    |ok u w2=>
     rw[hg] at hr;simp only[Result.andThen_ok] at hr ⊢;rw[hr];rfl
   ·exact h.elim
  ·--a slice and nil
   rename_i gg ii kk oo n
   have nl:∀(b:Bool),((∃e,(z1l X.P t).kd= .slice e)∧(z1l X.P t).ok=true)→G=true→∃(b:Bool),(0<n→b=false)∧∃v,a.eval x=v∧a.eval y= .slice none 0 0∧(∀w,(eqGuard op t x y v (.slice none 0 0)).run X.P w= .ok () w)∧∀w,(Op.equal t v (.slice none 0 0)).run X.P w= .ok b w:=fun _ hc hG=>by
    obtain⟨⟨e,hkd⟩,hok⟩:=hc;obtain⟨_,d,_,e2,e3⟩:=z1h hok;rw[e3] at hkd;have:=z2l hkd;subst this;have h1:=(hx hG).1;have h2:=(hy hG).1;simp only[den] at h1 h2;obtain⟨ad,c,hv,hc⟩:=z3k h1;refine⟨ad.isNone,fun hn=> ?_,_,hv,h2,fun w=>by unfold eqGuard;cases op<;>simp,fun w=> ?_⟩
    ·obtain⟨L,c',_,he⟩:=z4e h1 hn;rw[hv] at he;simp only[Value.slice.injEq] at he;rw[he.1];rfl
    ·cases ad with
     |none=>exact equal_nil e2 none n c w
     |some ad=>exact equal_nil e2 (some ad) n c w
   unfold binNil at h
   cases G with
   |false=>
    split at h
    ·exact⟨_,h.2 false (fun _=>rfl),fun hG=>by cases hG⟩
    ·exact⟨_,h.2 false (fun _=>rfl),fun hG=>by cases hG⟩
    ·exact h.elim
   |true=>
    split at h
    ·obtain⟨b,hb,v,e1,e2,hg,he⟩:=nl true (h.1 rfl) rfl;refine⟨_,h.2 b hb,fun hG=>⟨trivial,_,rfl,fun w' _=>guardOk _ _ hg e1 e2 _ (fun w=> ?_) w'⟩⟩
     cases v<;>simp[binOp,he w]
    ·obtain⟨b,hb,v,e1,e2,hg,he⟩:=nl true (h.1 rfl) rfl;refine⟨_,h.2 b hb,fun hG=>⟨trivial,_,rfl,fun w' _=>guardOk _ _ hg e1 e2 _ (fun w=> ?_) w'⟩⟩
     cases v<;>simp[binOp,he w]
    ·exact h.elim
  ·exact h.elim
 ·--unOp
  rename_i op t x hop;obtain⟨s,h,hx⟩:=z1e hF h;obtain⟨s',hk,hs⟩:=unK_ok (P:=X.P) (m:=H.nxt) (v:=a.eval x) h (fun hG=>(hx hG).1);refine⟨s',hk,fun hG=> ?_⟩;obtain⟨hl,v',hd,hr⟩:=hs hG;exact z2u hl hd (by simp only[execOp,hop]) hr
 ·rename_i src dst x hop;obtain⟨s,h,hx⟩:=z1e hF h;unfold convX at h
  split at h
  ·obtain⟨s',hk,hs⟩:=bstrK_ok (v:=a.eval x) hS h (fun hG=>(hx hG).1);refine⟨s',hk,fun hG=> ?_⟩;obtain⟨hdr,hl,v',hd,hr⟩:=hs hG;exact⟨hl,v',hd,fun w' hw'=>by simp[execOp,hop,hr w' (hC (.inr hdr) w' hw')]⟩
  ·obtain⟨s',hk,hs⟩:=convK_ok (m:=H.nxt) (v:=a.eval x) h (fun hG=>(hx hG).1);refine⟨s',hk,fun hG=> ?_⟩;obtain⟨hl,v',hd,hr⟩:=hs hG;exact z2u hl hd (by simp only[execOp,hop]) hr
 ·rename_i t x f hop;obtain⟨s,h,hx⟩:=z1e hF h;obtain⟨s',hk,hs⟩:=faddrK_ok (β:=β) (m:=H.nxt) (v:=a.eval x) h hx;refine⟨s',hk,fun hG=> ?_⟩;obtain⟨hl,v',hd,hr⟩:=hs hG;exact z2u hl hd (by simp only[execOp,hop]) hr
 ·rename_i t x f hop;obtain⟨s,h,hx⟩:=z1e hF h;obtain⟨s',hk,hs⟩:=fieldK_ok (β:=β) (m:=H.nxt) (v:=a.eval x) h hx;refine⟨s',hk,fun hG=> ?_⟩;obtain⟨hl,v',hd,hr⟩:=hs hG;exact z2u hl hd (by simp only[execOp,hop]) hr
 ·rename_i t x i hop;obtain⟨s,h,hx⟩:=z1e hF h;obtain⟨si,h,hi⟩:=z1e hF h;obtain⟨s',hk,hs⟩:=iaddrK_ok (v:=a.eval x) (vi:=a.eval i) hS h hx (fun hG=>(hi hG).1);refine⟨s',hk,fun hG=> ?_⟩;obtain⟨hl,v',hd,hr⟩:=hs hG;exact z2u hl hd (by simp only[execOp,hop]) hr
 ·rename_i t x i hop;obtain⟨s,h,hx⟩:=z1e hF h;obtain⟨si,h,hi⟩:=z1e hF h;obtain⟨s',hk,hs⟩:=indexK_ok (β:=β) (m:=H.nxt) (v:=a.eval x) (vi:=a.eval i) h (fun hG=>(hx hG).1) (fun hG=>(hi hG).1);refine⟨s',hk,fun hG=> ?_⟩;obtain⟨hl,v',hd,hr⟩:=hs hG;exact z2u hl hd (by simp only[execOp,hop]) hr
 ·rename_i t x lo hi mx hop;obtain⟨s,h,hx⟩:=z1e hF h;obtain⟨sl,h,hl⟩:=optK_ok hF h;obtain⟨sh,h,hh⟩:=optK_ok hF h;obtain⟨sm,h,hm⟩:=optK_ok hF h;obtain⟨s',hk,hs⟩:=sliceK_ok (v:=a.eval x) hS h hx hl hh hm;refine⟨s',hk,fun hG=> ?_⟩;obtain⟨hl,v',hd,hr⟩:=hs hG;exact z2u hl hd (by simp only[execOp,hop]) hr
 ·--extract
  rename_i x i hop;obtain⟨s,h,hx⟩:=z1e hF h
  split at h
  ·rename_i l
   split at h
   ·rename_i s' hs';refine⟨s',h,fun hG=> ?_⟩;obtain⟨hd,hl⟩:=hx hG;simp only[den,SV.lt] at hd hl;obtain⟨vs,hvs,e⟩:=hd;obtain⟨u,hu1,hu2⟩:=z3z hvs _ _ hs';refine z2u (e:=Instr.extract (a.eval x) i) (SV.ltL_get hl _ _ hs') hu2 (by simp only[execOp,hop]) (fun w=> ?_);simp[Instr.extract,e,hu1]
   ·exact h.elim
  ·exact h.elim
 ·--makeFunc
  rename_i f first cap hop
  split at h
  ·rename_i first' hfi;obtain⟨ss,hk,hs⟩:=opdsK_ok hF h;refine⟨_,hk,fun hG=> ?_⟩;refine z2u (e:=Instr.makeFunc (.func f) (Array.map a.eval ⟨[]⟩) (cap.map a.eval)) (by simp only[SV.lt];exact(hs hG).2) (v:= .func (.func f) #[] (cap.toList.map a.eval).toArray) (by simp only[den];exact⟨_,(hs hG).1,rfl⟩) (by simp only[execOp,hop]) (fun w=> ?_);simp[Instr.makeFunc];rw[←Array.toList_map,Array.toArray_toList]
  ·exact h.elim
 ·--build
  rename_i t ps hop;obtain⟨ss,h,he,hs⟩:=partsK_ok hF h;obtain⟨s',hk,hs'⟩:=buildK_ok (β:=β) (m:=H.nxt) (pv:=(ps.toList.map fun p=>(p.1,a.eval p.2))) h (by rw[he,List.map_map];rfl) (fun hG=>by rw[List.map_map];exact hs hG);refine⟨s',hk,fun hG=> ?_⟩;obtain⟨hl,v',hd,hr⟩:=hs' hG;refine z2u hl hd ?_ hr;simp only[execOp,hop]
  have:(ps.map fun x=>(x.1,a.eval x.2))=(ps.toList.map fun p=>(p.1,a.eval p.2)).toArray:=by
   rw[←List.map_toArray]
  rw[←this]
 ·--makeInterface
  rename_i t x hop;obtain⟨s,h1,hx⟩:=z1e hF h;refine⟨_,h1.2,fun hG=> ?_⟩;obtain⟨⟨e,hkd⟩,hok⟩:=h1.1 hG;obtain⟨_,d,_,e2,e3⟩:=z1h hok;rw[e3] at hkd;have hd:=z2l hkd;subst hd;refine z2u (e:=Instr.makeInterface t (a.eval x)) (v:= .iface t (a.eval x)) (hx hG).2 (by simp only[den];exact⟨_,(hx hG).1,rfl⟩) (by simp only[execOp,hop]) (fun w1=> ?_);simp[Instr.makeInterface,run_underlying e2]
 ·--len
  rename_i x t hop;obtain⟨s,h,hx⟩:=z1e hF h;obtain⟨s',hk,hs⟩:=lenK_ok (ty:=o.type) (v:=a.eval x) (C:=C) hS (fun hdr=>hC (.inr hdr)) h (fun hG=>(hx hG).1);refine⟨s',hk,fun hG=> ?_⟩;obtain⟨hl,v',hd,hr⟩:=hs hG;exact⟨hl,v',hd,fun w' hw'=>by simp[execOp,hop,resolve,invoke,builtin,hr w' hw']⟩
 ·rename_i args ats hop;obtain⟨ss,h,hx⟩:=opdsK_ok hF h;obtain⟨s',hk,hs⟩:=mmK_max (P:=X.P) (m:=H.nxt) (ats:=ats) (ty:=o.type) h (fun hG=>(hx hG).1);refine⟨s',hk,fun hG=> ?_⟩;obtain⟨hl,v',hd,hr⟩:=hs hG;refine⟨hl,v',hd,fun w' _=> ?_⟩;have he:args.map a.eval=(args.toList.map a.eval).toArray:=by rw[←List.map_toArray]
  simp only[execOp,hop,resolve,he,invoke,builtin,Sem.run_bind,Sem.run_pure,Result.andThen_ok,hr w']
 ·rename_i args ats hop;obtain⟨ss,h,hx⟩:=opdsK_ok hF h;obtain⟨s',hk,hs⟩:=mmK_min (P:=X.P) (m:=H.nxt) (ats:=ats) (ty:=o.type) h (fun hG=>(hx hG).1);refine⟨s',hk,fun hG=> ?_⟩;obtain⟨hl,v',hd,hr⟩:=hs hG;refine⟨hl,v',hd,fun w' _=> ?_⟩;have he:args.map a.eval=(args.toList.map a.eval).toArray:=by rw[←List.map_toArray]
  simp only[execOp,hop,resolve,he,invoke,builtin,Sem.run_bind,Sem.run_pure,Result.andThen_ok,hr w']
 ·exact h.elim
end Go.Sk

namespace Go.Sk
open Go.RowKit
def Env.set (β:Env)(id:Nat)(q:Nat→Option Loc):Env:=fun i k=>if i=id then q k else β i k
theorem Env.agree_set (β:Env)(m:Nat)(q:Nat→Option Loc):Env.agree m β (β.set m q):=fun id k h=>by
 unfold Env.set;rw[if_neg (by omega)]
theorem Env.agree.trans {m m':Nat}{a b c:Env}(h:Env.agree m a b)(h':Env.agree m' b c)(hm:m≤m'):Env.agree m a c:=
 fun id k hl=>(h' id k (Nat.lt_of_lt_of_le hl hm)).trans (h id k hl)
theorem Env.agree.refl (m:Nat)(β:Env):Env.agree m β β:=fun _ _ _=>rfl
theorem z1a (i c:Nat)(F:Nat→Obj)(os:List (Nat×Nat×(Nat→Obj)))(id k:Nat):
  look ((i,c,F)::os) id k=if i=id then(if k<c then(F k).opt else none) else look os id k:=by
 by_cases h:i=id<;>simp[look,find,h]
theorem St.new' {X:Cx}{β:Env}{H:AH}{w:World}(hS:St X β H w){c:Nat}{F:Nat→Obj}{q:Nat→Option Loc}
  (hq:∀k L,k<c→q k=some L→X.w0.heap.size≤L.blk∧∀id k' o L',look H.os id k'=some o→β id k'=some L'→L'.blk≠L.blk)
  (hsep:∀k k' L L',k<c→k'<c→q k=some L→q k'=some L'→L.blk=L'.blk→k=k')
  (ho:∀k,k<c→(F k).holds (β.set H.nxt q) w (q k)) (hl:∀k,k<c→(F k).lt (H.nxt+1)):
  St X (β.set H.nxt q) ⟨H.nxt+1,(H.nxt,c,F)::H.os⟩ w:=by
 have hag:=Env.agree_set β H.nxt q
 have hlk:∀id k o,look ((H.nxt,c,F)::H.os) id k=some o→(id=H.nxt∧k<c∧o=F k)∨(id<H.nxt∧look H.os id k=some o):=fun id k o h=>by
  rw[z1a] at h
  split at h
  ·rename_i he
   split at h
   ·exact .inl ⟨he.symm,by assumption,(Obj.opt_some h).1⟩
   ·cases h
  ·exact .inr ⟨(hS.lt _ _ _ h).1,h⟩
 have hold:∀id k,id<H.nxt→(β.set H.nxt q) id k=β id k:=fun id k h=>hag id k h;have hnew:∀k,(β.set H.nxt q) H.nxt k=q k:=fun k=>by unfold Env.set;rw[if_pos rfl]
 refine⟨hS.os,hS.tape,hS.output,hS.size,fun id k h=> ?_,fun id k o h=> ?_,fun id k id' k' o o' L L' h h' how hb hb' he=> ?_,fun b hb hn=> ?_,fun id k o L h how hb=> ?_,fun id k hb=> ?_,?_,fun id k o h=> ?_,hS.tabs,hS.drawn⟩
 ·rw[hold id k (Nat.lt_of_lt_of_le h hS.m0)];exact hS.fix id k h
 ·rcases hlk _ _ _ h with⟨rfl,hk,rfl⟩|⟨hlt,h0⟩
  ·rw[hnew];exact ho k hk
  ·rw[hold id k hlt];exact(hS.holds _ _ _ h0).agree hag (hS.lt _ _ _ h0).2
 ·rcases hlk _ _ _ h with⟨rfl,hk,rfl⟩|⟨hlt,h0⟩
  ·rw[hnew] at hb;rcases hlk _ _ _ h' with⟨rfl,hk',rfl⟩|⟨hlt',h0'⟩
   ·rw[hnew] at hb';exact⟨rfl,hsep _ _ _ _ hk hk' hb hb' he⟩
   ·rw[hold _ _ hlt'] at hb';exact absurd he.symm ((hq k L hk hb).2 _ _ _ _ h0' hb')
  ·rw[hold _ _ hlt] at hb;rcases hlk _ _ _ h' with⟨rfl,hk',rfl⟩|⟨hlt',h0'⟩
   ·rw[hnew] at hb';exact absurd he ((hq k' L' hk' hb').2 _ _ _ _ h0 hb)
   ·rw[hold _ _ hlt'] at hb';exact hS.sep _ _ _ _ _ _ _ _ h0 h0' how hb hb' he
 ·refine hS.old b hb fun id k o L h how hbb=> ?_;have hlt:=(hS.lt _ _ _ h).1;exact hn id k o L (by rw[z1a,if_neg (by omega)];exact h) how (by rw[hold _ _ hlt];exact hbb)
 ·rcases hlk _ _ _ h with⟨rfl,hk,rfl⟩|⟨hlt,h0⟩
  ·rw[hnew] at hb;exact .inr ⟨hS.m0,(hq k L hk hb).1⟩
  ·rw[hold _ _ hlt] at hb;exact hS.mine _ _ _ _ h0 how hb
 ·obtain⟨hlt,o,h,how⟩:=hS.keep id k hb;have hlt':=Nat.lt_of_lt_of_le hlt hS.m0;exact⟨hlt,o,by rw[z1a,if_neg (by omega)];exact h,how⟩
 ·exact Nat.le_succ_of_le hS.m0
 ·rcases hlk _ _ _ h with⟨rfl,hk,rfl⟩|⟨hlt,h0⟩
  ·exact⟨Nat.lt_succ_self _,hl k hk⟩
  ·refine⟨Nat.lt_succ_of_lt hlt,?_⟩;have:=(hS.lt _ _ _ h0).2
   cases o with
   |row r=>exact fun i j s hi hs=>SV.lt_mono (Nat.le_succ _) s (this i j s hi hs)
   |blk _ _=>trivial
   |mapo _ M=>exact⟨SV.lt_mono (Nat.le_succ _) _ this.1,fun v=>SV.lt_mono (Nat.le_succ _) _ (this.2 v)⟩
   |gone=>trivial
theorem St.blk_lt {X:Cx}{β:Env}{H:AH}{w:World}(hS:St X β H w){id k:Nat}{o:Obj}{L:Loc}(h:look H.os id k=some o)(hb:β id k=some L):L.blk<w.heap.size:=by
 have:=hS.holds _ _ _ h;rw[hb] at this;exact this.blk_lt (z38 h)
theorem St.new {X:Cx}{β:Env}{H:AH}{w w':World}(hS:St X β H w)(hw:Blw w.heap.size w w'){c:Nat}{F:Nat→Obj}{q:Nat→Option Loc}
  (hq:∀k L,k<c→q k=some L→w.heap.size≤L.blk) (hsep:∀k k' L L',k<c→k'<c→q k=some L→q k'=some L'→L.blk=L'.blk→k=k')
  (ho:∀k,k<c→(F k).holds (β.set H.nxt q) w' (q k)) (hl:∀k,k<c→(F k).lt (H.nxt+1)):
  St X (β.set H.nxt q) ⟨H.nxt+1,(H.nxt,c,F)::H.os⟩ w':=
 St.new' (hS.ext hw) (fun k L hk hL=>⟨Nat.le_trans hS.size (hq k L hk hL),fun id k' o L' h hb=>by have:=hS.blk_lt h hb;have:=hq k L hk hL;omega⟩) hsep ho hl
theorem St.less {X:Cx}{β:Env}{H H':AH}{w:World}(hS:St X β H w)(hn:H'.nxt=H.nxt)(hl:∀id k o,look H'.os id k=some o→look H.os id k=some o)
  (hm:∀id k o,id<X.m0→look H.os id k=some o→o.own=true→look H'.os id k=some o):St X β H' w where
 os:=hS.os
 tape:=hS.tape
 output:=hS.output
 size:=hS.size
 fix:=hS.fix
 holds id k o h:=hS.holds _ _ _ (hl _ _ _ h)
 sep id k id' k' o o' L L' h h':=hS.sep _ _ _ _ _ _ _ _ (hl _ _ _ h) (hl _ _ _ h')
 old b hb hnn:=hS.old b hb fun id k o L h how hbb=>by
  rcases hS.mine _ _ _ _ h how hbb with⟨h1,_⟩|⟨_,h2⟩
  ·exact hnn id k o L (hm _ _ _ h1 h how) how hbb
  ·omega
 mine id k o L h:=hS.mine _ _ _ _ (hl _ _ _ h)
 keep id k hb:=by
  obtain⟨hlt,o,h,how⟩:=hS.keep id k hb;exact⟨hlt,o,hm _ _ _ hlt h how,how⟩
 m0:=by rw[hn];exact hS.m0
 lt id k o h:=by rw[hn];exact hS.lt _ _ _ (hl _ _ _ h)
 tabs:=hS.tabs
 drawn:=hS.drawn
theorem St.upd {X:Cx}{β:Env}{H:AH}{os':List (Nat×Nat×(Nat→Obj))}{w w':World}(hS:St X β H w){id kk:Nat}{o o':Obj}{L:Loc}(hl:look H.os id kk=some o)(how:o.own=true)(hb:β id kk=some L)(how':o'.own=true)
  (hos:∀id' k',look os' id' k'=if id'=id∧k'=kk then some o' else look H.os id' k')
  (hw:w'.os=w.os∧w'.tape=w.tape∧w'.output=w.output∧w'.drawn=w.drawn∧w'.heap.size=w.heap.size∧∀b,b≠L.blk→w'.heap[b]? =w.heap[b]?)
  (ho:o'.holds β w' (some L)) (hlt:o'.lt H.nxt):St X β ⟨H.nxt,os'⟩ w':=by
 obtain⟨w1,w2,w3,wd,w4,w5⟩:=hw
 have hlk:∀id' k' u,look os' id' k'=some u→(id'=id∧k'=kk∧u=o')∨(¬(id'=id∧k'=kk)∧look H.os id' k'=some u):=fun id' k' u h=>by
  rw[hos] at h
  split at h
  ·rename_i he
   cases h
   exact .inl ⟨he.1,he.2,rfl⟩
  ·exact .inr ⟨by assumption,h⟩
 --every object of the new knowledge has a counterpart of the same ownership
 have hcp:∀id' k' u,look os' id' k'=some u→∃u0,look H.os id' k'=some u0∧u0.own=u.own:=fun id' k' u h=>by
  rcases hlk _ _ _ h with⟨rfl,rfl,rfl⟩|⟨_,h⟩
  ·exact⟨o,hl,how.trans how'.symm⟩
  ·exact⟨u,h,rfl⟩
 have hpc:∀id' k' u,look H.os id' k'=some u→∃u0,look os' id' k'=some u0∧u0.own=u.own:=fun id' k' u h=>by
  by_cases he:id'=id∧k'=kk
  ·obtain⟨rfl,rfl⟩:=he;rw[hl] at h;cases h
   exact⟨o',by rw[hos];simp,how'.trans how.symm⟩
  ·exact⟨u,by rw[hos,if_neg he];exact h,rfl⟩
 refine⟨w1.trans hS.os,w2.trans hS.tape,w3.trans hS.output,by rw[w4];exact hS.size,hS.fix,fun id' k' u h=> ?_,fun id1 k1 id2 k2 u1 u2 L1 L2 h1 h2 h3 h4 h5 h6=> ?_,fun b hbl hn=> ?_,fun id' k' u L' h h1 h2=> ?_,fun id' k' hbs=> ?_,hS.m0,fun id' k' u h=> ?_,hS.tabs,by rw[wd];exact hS.drawn⟩
 ·rcases hlk _ _ _ h with⟨rfl,rfl,rfl⟩|⟨hne,h⟩
  ·rw[hb];exact ho
  ·refine(hS.holds _ _ _ h).mono (by omega) fun L' hL' _=>w5 _ fun he=> ?_;have:=hS.sep _ _ _ _ _ _ _ _ hl h how hb hL' he.symm;exact hne ⟨this.1.symm,this.2.symm⟩
 ·obtain⟨v1,g1,e1⟩:=hcp _ _ _ h1;obtain⟨v2,g2,_⟩:=hcp _ _ _ h2;exact hS.sep _ _ _ _ _ _ _ _ g1 g2 (e1.trans h3) h4 h5 h6
 ·have hbL:b≠L.blk:=fun he=>by
   obtain⟨u0,g,e⟩:=hpc _ _ _ hl;exact hn _ _ _ _ g (e.trans how) hb he.symm
  rw[w5 b hbL];refine hS.old b hbl fun id' k' u L' h h1 h2=> ?_;obtain⟨u0,g,e⟩:=hpc _ _ _ h;exact hn _ _ _ _ g (e.trans h1) h2
 ·obtain⟨v1,g1,e1⟩:=hcp _ _ _ h;exact hS.mine _ _ _ _ g1 (e1.trans h1) h2
 ·obtain⟨h0,u,h,h1⟩:=hS.keep id' k' hbs;obtain⟨u0,g,e⟩:=hpc _ _ _ h;exact⟨h0,u0,g,e.trans h1⟩
 ·rcases hlk _ _ _ h with⟨rfl,rfl,rfl⟩|⟨_,h⟩
  ·exact⟨(hS.lt _ _ _ hl).1,hlt⟩
  ·exact hS.lt _ _ _ h
def setO:List (Nat×Nat×(Nat→Obj))→Nat→Nat→Obj→List (Nat×Nat×(Nat→Obj))
 |[],_,_,_=>[]
 |(i,c,F)::l,id,kk,o=>if i=id then(i,match kk with
  |0=>if c=1 then(1,fun _=>o) else(c,fun k=>if k=0 then o else F k)
  |j+1=>(c,fun k=>if k=j+1 then o else F k))::l else(i,c,F)::setO l id kk o
theorem z2v:∀(os:List (Nat×Nat×(Nat→Obj))) (id kk:Nat) (o o0:Obj),look os id kk=some o0→∀id' k',look (setO os id kk o) id' k'=if id'=id∧k'=kk then o.opt else look os id' k'
 |[],id,kk,o,o0,h,_,_=>by simp[look,find] at h
 |(i,c,F)::l,id,kk,o,o0,h,id',k'=>by
  rw[z1a] at h;simp only[setO]
  by_cases hi:i=id
  ·subst hi;rw[if_pos rfl] at h
   have hk:kk<c:=by
    rcases Nat.lt_or_ge kk c with h1|h1
    ·exact h1
    ·rw[if_neg (by omega)] at h;cases h
   rw[if_pos rfl]
   cases kk with
   |succ j=>
    simp only;rw[z1a,z1a]
    by_cases hid:i=id'
    ·subst hid;simp only[if_true,true_and]
     by_cases hk':k'=j+1
     ·subst hk';simp[hk]
     ·simp[hk']
    ·have:¬id'=i:=fun h=>hid h.symm;simp[hid,this]
   |zero=>
   by_cases hc:c=1
   ·subst hc;simp only[if_true];rw[z1a,z1a]
    by_cases hid:i=id'
    ·subst hid;simp only[if_true]
     by_cases hk':k'=0
     ·subst hk';simp
     ·simp[hk']
    ·have:¬id'=i:=fun h=>hid h.symm;simp[hid,this]
   ·simp only;rw[if_neg hc,z1a,z1a]
    by_cases hid:i=id'
    ·subst hid;simp only[if_true,true_and]
     by_cases hk':k'=0
     ·subst hk';simp[hk]
     ·simp[hk']
    ·have:¬id'=i:=fun h=>hid h.symm;simp[hid,this]
  ·rw[if_neg hi] at h;rw[if_neg hi,z1a,z1a]
   by_cases hid:i=id'
   ·subst hid;simp[hi]
   ·simp only[hid,if_false];exact z2v l id kk o o0 h id' k'
def fam (own:Bool)(e:TypeId)(sz:Nat)(G:Nat→Obj):Nat→Obj
 |0=> .row ⟨own,false,e,sz,0,fun _=>[]⟩
 |i+1=>G i
theorem z2k (own:Bool)(e:TypeId)(sz:Nat)(G:Nat→Obj)(i:Nat):fam own e sz G (i+1)=G i:=rfl
theorem fam_zero (own:Bool)(e:TypeId)(sz:Nat)(G:Nat→Obj):fam own e sz G 0= .row ⟨own,false,e,sz,0,fun _=>[]⟩:=rfl
theorem setF_fam (own:Bool)(e:TypeId)(sz:Nat)(G:Nat→Obj)(j:Nat)(o:Obj):(fun k=>if k=j+1 then o else fam own e sz G k)=fam own e sz (fun i=>if i=j then o else G i):=by
 funext k
 cases k with
 |zero=>rfl
 |succ i=>simp only[fam,Nat.add_right_cancel_iff]
def dropO:List (Nat×Nat×(Nat→Obj))→Nat→List (Nat×Nat×(Nat→Obj))
 |[],_=>[]
 |x::l,id=>if x.1=id then dropO l id else x::dropO l id
theorem look_dropO:∀(os:List (Nat×Nat×(Nat→Obj))) (id id' k:Nat),look (dropO os id) id' k=if id'=id then none else look os id' k
 |[],id,id',k=>by simp[dropO,look,find]
 |(i,c,F)::l,id,id',k=>by
  simp only[dropO];have ih:=look_dropO l id id' k
  by_cases h:i=id
  ·subst h;rw[if_pos rfl,ih,z1a]
   by_cases h2:id'=i
   ·simp[h2]
   ·simp[h2,show¬i=id' from fun e=>h2 e.symm]
  ·rw[if_neg h,z1a,z1a,ih]
   by_cases h2:i=id'
   ·subst h2;simp[h]
   ·simp[h2]
theorem St.drop {X:Cx}{β:Env}{H:AH}{w:World}(hS:St X β H w)(id:Nat)(hid:X.m0≤id):St X β ⟨H.nxt,dropO H.os id⟩ w:=
 hS.less rfl (fun id' k o h=>by
  rw[look_dropO] at h
  split at h
  ·cases h
  ·exact h) (fun id' k o hlt h _=>by rw[look_dropO,if_neg (by omega)];exact h)
theorem St.lose {X:Cx}{β:Env}{H:AH}{w:World}(hS:St X β H w)(id kk:Nat)(hid:X.m0≤id){o0:Obj}(hl:look H.os id kk=some o0):St X β ⟨H.nxt,setO H.os id kk .gone⟩ w:=
 hS.less rfl (fun id' k o h=>by
  rw[z2v _ _ _ _ _ hl] at h
  split at h
  ·cases h
  ·exact h) (fun id' k o hlt h _=>by rw[z2v _ _ _ _ _ hl,if_neg (by omega)];exact h)
end Go.Sk

namespace Go.Sk
open Go.RowKit
theorem row_holds {β:Env}{w:World}{b cap:Nat}{cur:Array Value}{e:TypeId}{var:Bool}{sz n:Nat}{f:Nat→List SV}{cs:List SV}{vs:List Value}
  (hb:w.heap[b]? =some (.cells cur e (0,0))) (hc:cur.size=cap*sz) (hn:n≤cap) (hm:cap≤maxLen) (hp:∀j,j<n*sz→cur[j]? =vs[j]?)
  (hd:z2h β cs vs) (hsc:∀s∈cs,s.scalar=true)
  (hf:∀i,i<n→(f i).length=sz∧∀j,j<sz→(f i)[j]? =cs[i*sz+j]?):
  (Obj.row ⟨true,var,e,sz,n,f⟩).holds β w (some ⟨b,0,sz,cap⟩):=by
 refine .inr ⟨_,rfl,rfl,(Array.getElem?_eq_some_iff.1 hb).1,fun i hi=>⟨(hf i hi).1,fun j s hs=> ?_⟩,fun _=>⟨rfl,hn,hm,cur,hb,hc⟩⟩
 have hj:j<sz:=by
  have:=(List.getElem?_eq_some_iff.1 hs).1;rw[(hf i hi).1] at this;exact this
 rw[(hf i hi).2 j hj] at hs;obtain⟨v,hv,hdv⟩:=z3z hd _ _ hs;refine⟨hsc _ (List.mem_of_getElem? hs),v,?_,hdv⟩
 have hlt:i*sz+j<n*sz:=by
  have:(i+1)*sz≤n*sz:=Nat.mul_le_mul_right _ hi;rw[Nat.add_mul] at this;omega
 simp only[World.cell?,hb,Nat.zero_add];simp[hp _ hlt,hv]
theorem row_holds_new {β:Env}{w:World}{e:TypeId}{var:Bool}{sz n:Nat}{f:Nat→List SV}{cs:List SV}{vs:List Value}
  (hl:cs.length=n*sz) (hm:n≤maxLen) (hd:z2h β cs vs) (hsc:∀s∈cs,s.scalar=true)
  (hf:∀i,i<n→(f i).length=sz∧∀j,j<sz→(f i)[j]? =cs[i*sz+j]?):
  (Obj.row ⟨true,var,e,sz,n,f⟩).holds β (w.alloc (.cells vs.toArray e)) (some ⟨w.heap.size,0,sz,n⟩):=
 row_holds (heap_alloc_new w _) (by have:=z27 hd;simp;omega) (Nat.le_refl _) hm (fun j _=>by simp) hd hsc hf
theorem row_lt {m:Nat}{var own:Bool}{e:TypeId}{sz n:Nat}{f:Nat→List SV}{cs:List SV}(hl:SV.ltL m cs)
  (hf:∀i,i<n→(f i).length=sz∧∀j,j<sz→(f i)[j]? =cs[i*sz+j]?):(Obj.row ⟨own,var,e,sz,n,f⟩).lt m:=fun i j s hi hs=>by
 have hi':i<n:=hi
 have hj:j<sz:=by
  have:=(List.getElem?_eq_some_iff.1 hs).1;rw[(hf i hi').1] at this;exact this
 have hs':(f i)[j]? =some s:=hs;rw[(hf i hi').2 j hj] at hs';exact SV.ltL_get hl _ _ hs'
def Sub (H H':AH):Prop:=∀id k o,id<H.nxt→look H'.os id k=some o→o.own=true→∃o0,look H.os id k=some o0∧o0.own=true
theorem Sub.refl (H:AH):Sub H H:=fun _ _ o _ h ho=>⟨o,h,ho⟩
theorem Sub.trans {a b c:AH}(h:Sub a b)(h':Sub b c)(hn:a.nxt≤b.nxt):Sub a c:=fun id k o hi hl ho=>by
 obtain⟨o1,h1,h2⟩:=h' id k o (Nat.lt_of_lt_of_le hi hn) hl ho;exact h id k o1 hi h1 h2
def Aft (X:Cx)(β:Env)(H:AH)(_w:World)(k:SV→AH→Prop)(v:Value)(w':World):Prop:=
 ∃β' s H',k s H'∧den β' s v∧s.lt H'.nxt∧St X β' H' w'∧Env.agree H.nxt β β'∧H.nxt≤H'.nxt∧Sub H H'
theorem sub_cons {H:AH}(os:List (Nat×Nat×(Nat→Obj)))(c:Nat)(F:Nat→Obj)(h:∀id k o,look os id k=some o→look H.os id k=some o):Sub H ⟨H.nxt+1,(H.nxt,c,F)::os⟩:=fun id k o hi hl ho=>by
 rw[z1a,if_neg (by omega)] at hl;exact⟨o,h _ _ _ hl,ho⟩
theorem aft_new {X:Cx}{β:Env}{H:AH}{w:World}(hS:St X β H w){e:TypeId}{var:Bool}{sz n:Nat}{f:Nat→List SV}{cs:List SV}{vs:List Value}{s:SV}{v:Value}{k:SV→AH→Prop}
  (hl:cs.length=n*sz) (hm:n≤maxLen) (hd:z2h β cs vs) (hlt:SV.ltL H.nxt cs) (hsc:∀s∈cs,s.scalar=true)
  (hf:∀i,i<n→(f i).length=sz∧∀j,j<sz→(f i)[j]? =cs[i*sz+j]?)
  (hv:∀β':Env,β' H.nxt 0=some ⟨w.heap.size,0,sz,n⟩→den β' s v) (hsl:s.lt (H.nxt+1))
  (hk:k s ⟨H.nxt+1,(H.nxt,uQ (.row ⟨true,var,e,sz,n,f⟩))::H.os⟩):Aft X β H w k v (w.alloc (.cells vs.toArray e)):=by
 have hag:=Env.agree_set β H.nxt (fun _=>some ⟨w.heap.size,0,sz,n⟩);refine⟨β.set H.nxt (fun _=>some ⟨w.heap.size,0,sz,n⟩),s,_,hk,hv _ (by unfold Env.set;rw[if_pos rfl]),hsl,?_,hag,Nat.le_succ _,sub_cons _ _ _ fun _ _ _ h=>h⟩;refine St.new hS ((Blw.refl _ w).alloc (Nat.le_refl _) _) (fun k L _ he=>by cases he;exact Nat.le_refl _) (fun k k' _ _ h h' _ _ _=>by omega) (fun k _=> ?_) (fun k _=>row_lt (SV.ltL_mono (Nat.le_succ _) _ hlt) hf);exact row_holds_new hl hm (z4j hag cs vs hlt hd) hsc hf
def allocK (P:Program)(H:AH)(e:TypeId)(k:SV→AH→Prop):Prop:=
 match z2x P e with
 |some z=>z.all SV.scalar=true∧k (.ptr H.nxt 0 0 0) ⟨H.nxt+1,(H.nxt,uQ (.row ⟨true,true,e,z.length,1,fun _=>z⟩))::H.os⟩
 |none=>False
theorem one_row (cs:List SV):∀i,i<1→((fun _=>cs:Nat→List SV) i).length=cs.length∧∀j,j<cs.length→((fun _=>cs:Nat→List SV) i)[j]? =cs[i*cs.length+j]? :=fun i hi=>by
 have:i=0:=by omega
 subst this;simp
theorem allocK_ok {X:Cx}{β:Env}{H:AH}{w:World}(hS:St X β H w){e:TypeId}{k:SV→AH→Prop}(h:allocK X.P H e k):
  ∃v w',(Instr.alloc e true (.tuple #[])).run X.P w= .ok v w'∧Aft X β H w k v w'∧Blw w.heap.size w w':=by
 unfold allocK at h
 split at h
 ·rename_i z hz;obtain⟨zv,hzr,rfl⟩:=zeroOf_run hz;refine⟨.pointer (some ⟨w.heap.size,0,none⟩),w.alloc (.cells zv.cells e),?_,?_,(Blw.refl _ w).alloc (Nat.le_refl _) _⟩
  ·simp only[Instr.alloc,Sem.run_bind,hzr w,Result.andThen_ok,newVar,newRow,run_newObj,Sem.run_pure]
   rfl
  ·have:=aft_new (vs:=zv.cells.toList) hS (n:=1) (by simp) (by simp[maxLen]) (z3r β _) (z4c _ _) (fun s hs=>(List.all_eq_true.1 h.1) s hs) (one_row _) (v:= .pointer (some ⟨w.heap.size,0,none⟩)) (fun β' hb=>by simp only[den];exact⟨_,hb,by simp⟩) (Nat.lt_succ_self _) h.2;simpa using this
 ·exact h.elim
def boxK (H:AH)(e:TypeId)(s:SV)(k:SV→AH→Prop):Prop:=
 (okCells s=true∧s.cells.all SV.scalar=true)∧k (.ptr H.nxt 0 0 0) ⟨H.nxt+1,(H.nxt,uQ (.row ⟨true,true,e,s.cells.length,1,fun _=>s.cells⟩))::H.os⟩
theorem boxK_ok {X:Cx}{β:Env}{H:AH}{w:World}(hS:St X β H w){e:TypeId}{s:SV}{v:Value}{k:SV→AH→Prop}(h:boxK H e s k)(hv:den β s v)(hl:s.lt H.nxt):
  ∃v' w',(Instr.box e v).run X.P w= .ok v' w'∧Aft X β H w k v' w'∧Blw w.heap.size w w':=by
 obtain⟨⟨h1,h2⟩,h3⟩:=h;refine⟨.pointer (some ⟨w.heap.size,0,none⟩),w.alloc (.cells v.cells e),?_,?_,(Blw.refl _ w).alloc (Nat.le_refl _) _⟩
 ·simp only[Instr.box,newVar,newRow,Sem.run_bind,run_newObj,Result.andThen_ok,Sem.run_pure]
  rfl
 ·have:=aft_new (vs:=v.cells.toList) hS (n:=1) (by simp) (by simp[maxLen]) (cells_den h1 hv) (cells_lt hl) (fun s hs=>(List.all_eq_true.1 h2) s hs) (one_row _) (v:= .pointer (some ⟨w.heap.size,0,none⟩)) (fun β' hb=>by simp only[den];exact⟨_,hb,by simp⟩) (Nat.lt_succ_self _) h3;simpa using this
def chunk (sz:Nat)(cs:List SV):Nat→List (List SV)
 |0=>[]
 |n+1=>cs.take sz::chunk sz (cs.drop sz) n
theorem chunk_get (sz:Nat):∀(n:Nat) (cs:List SV) (i:Nat),i<n→∀d,(chunk sz cs n).getD i d=(cs.drop (i*sz)).take sz
 |0,_,_,h,_=>by omega
 |n+1,cs,0,_,_=>by simp[chunk]
 |n+1,cs,i+1,h,d=>by
  simp only[chunk,List.getD_cons_succ];rw[chunk_get sz n _ i (by omega) d,List.drop_drop,Nat.add_mul,Nat.one_mul,Nat.add_comm]
def dfl:SV→SV
 |.int k _=> .int k 0
 |.str _=> .str default
 |.bool _=> .bool false
 |s=>s
def dfls:List SV→List SV
 |[]=>[]
 |s::l=>dfl s::dfls l
def z4d (sz n:Nat)(cs:List SV):Nat→List SV:=
 match intsOf .i64 cs with
 |some ns=>if sz=1 then fun i=>[.int .i64 (ns.getD i default)] else fun i=>(chunk sz cs n).getD i (dfls (cs.take sz))
 |none=>fun i=>(chunk sz cs n).getD i (dfls (cs.take sz))
theorem rowsOf_ok {sz n:Nat}{cs:List SV}(hl:cs.length=n*sz):∀i,i<n→(z4d sz n cs i).length=sz∧∀j,j<sz→(z4d sz n cs i)[j]? =cs[i*sz+j]? :=fun i hi=>by
 have gen:((chunk sz cs n).getD i (dfls (cs.take sz))).length=sz∧∀j,j<sz→((chunk sz cs n).getD i (dfls (cs.take sz)))[j]? =cs[i*sz+j]? :=by
  rw[chunk_get sz n cs i hi];have hb:(i+1)*sz≤n*sz:=Nat.mul_le_mul_right _ hi;rw[Nat.add_mul] at hb;refine⟨by rw[List.length_take,List.length_drop];omega,fun j hj=> ?_⟩;rw[List.getElem?_take,if_pos hj,List.getElem?_drop]
 unfold z4d
 cases hns:intsOf .i64 cs with
 |none=>exact gen
 |some ns=>
  by_cases h1:sz=1
  ·subst h1;simp only[if_true];refine⟨rfl,fun j hj=> ?_⟩;have:j=0:=by omega
   subst this;have:=intsOf_get hns i (by omega);simp[this]
  ·simp only[if_neg h1];exact gen
def replZ (z:List SV):Nat→List SV
 |0=>[]
 |n+1=>z++replZ z n
def bsliceK (P:Program)(H:AH)(t:TypeId)(len:Nat)(ps:List (Nat×SV))(k:SV→AH→Prop):Prop:=
 match(z1l P t).kd with
 |.slice e=>
  match z2x P e with
  |some z=>
   match fillS (fun i=>some (i*z29 P e,z29 P e)) (replZ z len) ps with
   |some cs=>((z1l P t).ok=true∧z29 P e≠0∧z.length=z29 P e∧cs.length=len*z29 P e∧len*z29 P e≤16777216∧len≤16777216∧cs.all SV.scalar=true)∧
     k (.slc true H.nxt 0 0 len) ⟨H.nxt+1,(H.nxt,uQ (.row ⟨true,false,e,z29 P e,len,z4d (z29 P e) len cs⟩))::H.os⟩
   |none=>False
  |none=>False
 |_=>False
theorem replZ_eq (z:List Value):∀n,(z.map z1t).length≠0→replZ (z.map z1t) n=((List.range (n*z.length)).map fun j=>z.getD (j%z.length) default).map z1t
 |0,_=>by simp[replZ]
 |n+1,h=>by
  rw[replZ,replZ_eq z n h];simp only[List.length_map] at h;apply List.ext_getElem?;intro j;rw[List.getElem?_append];simp only[List.length_map,List.getElem?_map]
  by_cases hj:j<z.length
  ·have h1:j<(n+1)*z.length:=by rw[Nat.add_mul];omega
   rw[if_pos hj,List.getElem?_range h1];simp[Nat.mod_eq_of_lt hj,hj,List.getD]
  ·rw[if_neg hj]
   by_cases hj2:j<(n+1)*z.length
   ·have h1:j-z.length<n*z.length:=by rw[Nat.add_mul] at hj2;omega
    rw[List.getElem?_range h1,List.getElem?_range hj2]
    have:(j-z.length)%z.length=j%z.length:=by
     conv=>rhs;rw[show j=(j-z.length)+z.length by omega]
     simp
    simp[this]
   ·have h1:¬j-z.length<n*z.length:=by rw[Nat.add_mul] at hj2;omega
    rw[List.getElem?_eq_none (by simpa using h1),List.getElem?_eq_none (by simpa using hj2)]
theorem bsliceK_ok {X:Cx}{β:Env}{H:AH}{w:World}(hS:St X β H w){t:TypeId}{len:Nat}{ps:List (Nat×SV)}{pv:List (Nat×Value)}{k:SV→AH→Prop}(h:bsliceK X.P H t len ps k)
  (he:ps.map (·.1)=pv.map (·.1)) (hd:z2h β (ps.map (·.2)) (pv.map (·.2))) (hl:SV.ltL H.nxt (ps.map (·.2))):
  ∃v' w',(Instr.buildSlice t len pv.toArray).run X.P w= .ok v' w'∧Aft X β H w k v' w'∧Blw w.heap.size w w':=by
 unfold bsliceK at h
 split at h
 ·rename_i e hkd
  split at h
  ·rename_i z hz
   split at h
   ·rename_i cs hcs;obtain⟨⟨hok,hsz,hzl,hcl,h24,hlen,hsc⟩,hk⟩:=h;obtain⟨zv,hzr,rfl⟩:=zeroOf_run hz;obtain⟨inf,d,e1,e2,e3⟩:=z1h hok;rw[e3] at hkd;have:=z2l hkd;subst this;obtain⟨ei,hei,hei2⟩:=z3t hsz;have hzs:zv.cells.size=z29 X.P e:=by simpa using hzl
    have hne:(zv.cells.toList.map z1t).length≠0:=by rw[hzl];exact hsz
    rw[replZ_eq _ _ hne] at hcs
    have hzz:((Array.range (len*z29 X.P e)).map (zv.cells[· %zv.cells.size]!)).toList=(List.range (len*zv.cells.toList.length)).map fun j=>zv.cells.toList.getD (j%zv.cells.toList.length) default:=by
     simp[hzs,List.getD,Array.getElem!_eq_getD,Array.getD_eq_getD_getElem?]
    obtain⟨arr',ha,hda,hla⟩:=fillS_ok (β:=β) (m:=H.nxt) _ ps pv _ cs ((Array.range (len*z29 X.P e)).map (zv.cells[· %zv.cells.size]!)) he hd hl
     (by rw[hzz];exact z3r β _) (z4c _ _) hcs
    refine⟨.slice (some ⟨w.heap.size,0,none⟩) len len,w.alloc (.cells arr' e),?_,?_,(Blw.refl _ w).alloc (Nat.le_refl _) _⟩
    ·have h0:¬(len*ei.size>2^24):=by rw[hei2];omega
     have hall:(Instr.buildSlice t len pv.toArray).run X.P w= .ok (.slice (some ⟨w.heap.size,0,none⟩) len len) (w.alloc (.cells arr' e)):=by
      simp only[Instr.buildSlice,Sem.run_bind,run_underlying e2,Result.andThen_ok,z1u hei,if_neg h0]
      by_cases hz0:len*ei.size=0
      ·have hlen0:len=0:=by
        rcases Nat.mul_eq_zero.1 hz0 with h|h
        ·exact h
        ·omega
       subst hlen0;rw[hei2];have hr0:Array.range 0= #[]:=rfl;have ha':Instr.fill (fun i=>some (i*z29 X.P e,z29 X.P e)) #[] pv=some arr':=by simpa [hr0] using ha
       simp[ha',newRow,hr0]
      ·simp only[hz0,if_false,Sem.run_bind,hzr w,Result.andThen_ok,Sem.run_pure];rw[hei2];simp[ha,newRow]
     exact hall
    ·have hlen2:=z27 hda
     have:=aft_new (e:=e) (var:=false) (vs:=arr'.toList) hS (n:=len) hcl (by simp only[maxLen];omega) hda hla (fun s hs=>(List.all_eq_true.1 hsc) s hs) (rowsOf_ok hcl) (s:= .slc true H.nxt 0 0 len) (v:= .slice (some ⟨w.heap.size,0,none⟩) len len)
      (fun β' hb=>by simp only[den,z4l,if_true];exact .inr ⟨_,_,hb,trivial,rfl,Nat.le_refl _,Nat.le_refl _,rfl⟩) (Nat.lt_succ_self _) hk
     simpa using this
   ·exact h.elim
  ·exact h.elim
 ·exact h.elim
end Go.Sk

namespace Go.Sk
open Go.RowKit
def updF (r:Row)(i:Nat)(c:List SV):Nat→List SV:=
 if r.var then fun _=>c else fun i'=>if i'=i then c else r.f i'
def storeK (P:Program)(H:AH)(dr:Bool)(W:List Nat)(t:TypeId)(sa sv:SV)(k:SV→AH→Prop):Prop:=
 match sa with
 |.ptr id kk i j=>
  match find H.os id with
  |some (c,F)=>
   match F kk with
   |.row r=>
    (r.own=true∧kk<c∧i<r.n∧(r.var=true→r.n=1)∧(dr=true→W.contains id=true)∧okCells sv=true∧sv.cells.all SV.scalar=true∧sv.cells.length=z29 P t∧z29 P t≠0∧j+sv.cells.length≤r.sz)∧
    k (.raw undef) ⟨H.nxt,setO H.os id kk (.row {r with f:=updF r i (spl (r.f i) j sv.cells)})⟩
   |_=>False
  |none=>False
 |_=>False
theorem spl_get {α:Type}(cs:List α)(off:Nat)(ps:List α)(j:Nat)(h:off+ps.length≤cs.length):(spl cs off ps)[j]? =if off≤j∧j<off+ps.length then ps[j-off]? else cs[j]? :=by
 unfold spl;rw[List.getElem?_append,List.getElem?_append];simp only[List.length_append,List.length_take,List.getElem?_take,List.getElem?_drop];have e:min off cs.length=off:=by omega
 simp only[e]
 by_cases h1:j<off
 ·simp[h1,show¬off≤j by omega,show j<off+ps.length by omega]
 ·by_cases h2:j<off+ps.length
  ·simp[h1,h2,show off≤j by omega]
  ·simp only[h1,h2,if_false,and_false]
   congr 1;omega
theorem row_apart {i i' sz j j':Nat}(hj:j<sz)(hj':j'<sz)(h:i*sz+j=i'*sz+j'):i=i'∧j=j':=by
 have h1:(i*sz+j)/sz=i:=by
  rw[Nat.mul_comm,Nat.mul_add_div (by omega),Nat.div_eq_of_lt hj];omega
 have h2:(i'*sz+j')/sz=i':=by
  rw[Nat.mul_comm,Nat.mul_add_div (by omega),Nat.div_eq_of_lt hj'];omega
 have:i=i':=by rw[←h1,←h2,h]
 subst this;exact⟨rfl,by omega⟩
theorem storeK_ok {X:Cx}{β:Env}{H:AH}{w:World}(hS:St X β H w){dr:Bool}{W:List Nat}{t:TypeId}{sa sv:SV}{va vv:Value}{k:SV→AH→Prop}(h:storeK X.P H dr W t sa sv k)
  (ha:den β sa va) (hv:den β sv vv) (hlv:sv.lt H.nxt):
  ∃w',(Instr.storeAt t va vv).run X.P w= .ok () w'∧Aft X β H w k undef w'∧(dr=true→Kp w (inW β H W) w'):=by
 unfold storeK at h
 split at h
 ·rename_i id kk i j
  split at h
  ·rename_i c F hf
   split at h
   ·rename_i r hr;obtain⟨⟨hown,hkk,hi,hvar,hW,hok,hsc,hlen,hsz,hfit⟩,hk⟩:=h;have hl:=zt hf hkk;rw[hr] at hl;simp only[den] at ha;obtain⟨L,hb,rfl⟩:=ha;have hh:=hS.holds _ _ _ hl;rcases hh with⟨h0,_⟩|⟨L',hq,h1,h2,h3,h4⟩
    ·omega
    ·rw[hb] at hq
     cases hq
     obtain⟨hoff,hncap,hmax,cur,hcur,hcs⟩:=h4 hown;have hcd:=cells_den hok hv;have hclen:=z27 hcd;simp only[Array.length_toList] at hclen;obtain⟨ti,hti,hti2⟩:=z3t hsz
     have hrow:i*r.sz+r.sz≤r.n*r.sz:=by
      have:=Nat.mul_le_mul_right r.sz hi;rw[Nat.succ_mul] at this;exact this
     have hcap:r.n*r.sz≤L.cap*r.sz:=Nat.mul_le_mul_right _ hncap
     have hst:=run_storeCells_at X.P L.blk (L.off+i*L.sz+j) r.e vv.cells.toList 0 cur w hcur (by rw[h1,hoff];simp;omega) (fun u hu=>by
      obtain⟨q,hq⟩:=List.getElem?_of_mem hu
      obtain⟨s,hs⟩:∃s,sv.cells[q]? =some s:=by
       have:q<sv.cells.length:=by
        have:=(List.getElem?_eq_some_iff.1 hq).1;simp at this;omega
       exact⟨_,List.getElem?_eq_getElem this⟩
      obtain⟨u',hu',hd'⟩:=z3z hcd q s hs;rw[hq] at hu'
      cases hu'
      exact den_scalar ((List.all_eq_true.1 hsc) s (List.mem_of_getElem? hs)) hd')
     simp only[Nat.add_zero] at hst
     let o:=L.off+i*L.sz+j
     let cur':Array Value:=(cur.toList.take o++vv.cells.toList++cur.toList.drop (o+vv.cells.toList.length)).toArray
     have hspl:cur'.toList=spl cur.toList o vv.cells.toList:=rfl
     have hofit:o+vv.cells.toList.length≤cur.toList.length:=by
      simp only[o,Array.length_toList];rw[h1,hoff,hclen,hcs];omega
     have hcur':cur'.size=cur.size:=by
      have:=spl_length cur.toList o vv.cells.toList hofit;rw[←hspl] at this;simpa using this
     have hget:∀q:Nat,cur'[q]? =if o≤q∧q<o+vv.cells.toList.length then vv.cells.toList[q-o]? else cur[q]? :=fun q=>by
      have:=spl_get cur.toList o vv.cells.toList q hofit;rw[←hspl] at this;simpa using this
     have hheap:=setRow_heap w L.blk cur cur' r.e (0,0) hcur;refine⟨w.setRow L.blk cur',?_,?_,?_⟩
     ·have hsize:¬(vv.cells.size≠ti.size):=by omega
      simp only[Instr.storeAt,Instr.sureAddr,Sem.run_bind,Sem.run_pure,Result.andThen_ok,storeVar,z1u hti,if_neg hsize];exact hst
     ·refine⟨β,.raw undef,_,hk,rfl,trivial,?_,Env.agree.refl _ _,Nat.le_refl _,fun id' k' o' _ hl' ho'=> ?_⟩
      rotate_left
      ·rw[z2v _ _ _ _ _ hl] at hl'
       split at hl'
       ·rename_i he;exact⟨.row r,by rw[he.1,he.2];exact hl,hown⟩
       ·exact⟨_,hl',ho'⟩
      refine St.upd hS hl hown hb (o':= .row {r with f:=updF r i (spl (r.f i) j sv.cells)}) hown (z2v _ _ _ _ _ hl) ⟨rfl,rfl,rfl,rfl,by simp[World.setRow],fun b hbne=>setRow_other w L.blk b _ hbne⟩ ?_ ?_
      ·have hri:(r.f i).length=r.sz:=(h3 i hi).1
       have hfi:∀i',i'<r.n→i'≠i→updF r i (spl (r.f i) j sv.cells) i'=r.f i':=fun i' hi' hne=>by
        unfold updF
        split
        ·rename_i hv';have:=hvar hv';omega
        ·show(if i'=i then _ else _)=_
         rw[if_neg hne]
       have hfii:updF r i (spl (r.f i) j sv.cells) i=spl (r.f i) j sv.cells:=by
        unfold updF
        split
        ·rfl
        ·show(if i=i then _ else _)=_
         rw[if_pos rfl]
       refine .inr ⟨L,rfl,h1,by simpa [World.setRow] using h2,fun i' hi'=> ?_,fun _=>⟨hoff,hncap,hmax,cur',hheap,by rw[hcur'];exact hcs⟩⟩;have hcell:∀q:Nat,(w.setRow L.blk cur').cell? ⟨L.blk,q,none⟩=cur'[q]? :=fun q=>by simp[World.cell?,hheap]
       have hcell0:∀q:Nat,w.cell? ⟨L.blk,q,none⟩=cur[q]? :=fun q=>by simp[World.cell?,hcur]
       by_cases hii:i'=i
       ·subst hii;simp only[hfii];refine⟨by rw[spl_length _ _ _ (by omega)];exact hri,fun j' s hs=> ?_⟩;rw[spl_get _ _ _ _ (by omega)] at hs
        split at hs
        ·rename_i hin;obtain⟨u,hu,hud⟩:=z3z hcd _ _ hs;refine⟨(List.all_eq_true.1 hsc) s (List.mem_of_getElem? hs),u,?_,hud⟩;rw[hcell,hget,if_pos (by simp only[o];rw[Array.length_toList,hclen];omega)];rw[←hu];congr 1;simp only[o];omega
        ·rename_i hnin;obtain⟨h5,u,hu,hud⟩:=(h3 i' hi).2 j' s hs;refine⟨h5,u,?_,hud⟩;rw[hcell,hget,if_neg (by simp only[o];rw[Array.length_toList,hclen];omega),←hcell0];exact hu
       ·simp only[hfi i' hi' hii];refine⟨(h3 i' hi').1,fun j' s hs=> ?_⟩;obtain⟨h5,u,hu,hud⟩:=(h3 i' hi').2 j' s hs;refine⟨h5,u,?_,hud⟩
        have hj':j'<r.sz:=by
         have:=(List.getElem?_eq_some_iff.1 hs).1;rw[(h3 i' hi').1] at this;exact this
        rw[hcell,hget,if_neg ?_,←hcell0]
        ·exact hu
        ·rintro⟨q1,q2⟩;rw[Array.length_toList,hclen] at q2;simp only[o,h1] at q1 q2;have hjj:(L.off+i'*r.sz+j')-(L.off+i*r.sz)<r.sz:=by omega
         have:=row_apart (i:=i') (i':=i) (sz:=r.sz) (j:=j') (j':=(L.off+i'*r.sz+j')-(L.off+i*r.sz)) hj' hjj (by omega);exact hii this.1
      ·intro i' j' s hi' hs;have hs':(updF r i (spl (r.f i) j sv.cells) i')[j']? =some s:=hs;have hi'':i'<r.n:=hi';have hlt:=(hS.lt _ _ _ hl).2;unfold updF at hs'
       have hspl2:∀(q:Nat) (s:SV),(spl (r.f i) j sv.cells)[q]? =some s→s.lt H.nxt:=fun q s hq=>by
        rw[spl_get _ _ _ _ (by rw[(h3 i hi).1];omega)] at hq
        split at hq
        ·exact SV.ltL_get (cells_lt hlv) _ _ hq
        ·exact hlt i q s hi hq
       split at hs'
       ·exact hspl2 _ _ hs'
       ·simp only at hs'
        split at hs'
        ·exact hspl2 _ _ hs'
        ·exact hlt i' j' s hi'' hs'
     ·intro hdr;refine⟨by simp[World.setRow],fun b hb2 hnb=>setRow_other w L.blk b _ fun he=>hnb ?_⟩;have hWc:=hW hdr;exact⟨id,kk,.row r,L,by simpa using hWc,hl,hown,hb,he.symm⟩
   ·exact h.elim
  ·exact h.elim
 ·exact h.elim
theorem aft_newC {X:Cx}{β:Env}{H:AH}{w:World}(hS:St X β H w){e:TypeId}{var:Bool}{sz n cap:Nat}{f:Nat→List SV}{cs:List SV}{vs:List Value}{s:SV}{v:Value}{k:SV→AH→Prop}
  (hl:cs.length=cap*sz) (hn:n≤cap) (hm:cap≤maxLen) (hd:z2h β cs vs) (hlt:SV.ltL H.nxt cs) (hsc:∀s∈cs,s.scalar=true)
  (hf:∀i,i<n→(f i).length=sz∧∀j,j<sz→(f i)[j]? =cs[i*sz+j]?)
  (hv:∀β':Env,β' H.nxt 0=some ⟨w.heap.size,0,sz,cap⟩→den β' s v) (hsl:s.lt (H.nxt+1))
  (hk:k s ⟨H.nxt+1,(H.nxt,uQ (.row ⟨true,var,e,sz,n,f⟩))::H.os⟩):Aft X β H w k v (w.alloc (.cells vs.toArray e)):=by
 have hag:=Env.agree_set β H.nxt (fun _=>some ⟨w.heap.size,0,sz,cap⟩);refine⟨β.set H.nxt (fun _=>some ⟨w.heap.size,0,sz,cap⟩),s,_,hk,hv _ (by unfold Env.set;rw[if_pos rfl]),hsl,?_,hag,Nat.le_succ _,sub_cons _ _ _ fun _ _ _ h=>h⟩;refine St.new hS ((Blw.refl _ w).alloc (Nat.le_refl _) _) (fun k L _ he=>by cases he;exact Nat.le_refl _) (fun k k' _ _ h h' _ _ _=>by omega) (fun k _=> ?_) (fun k _=>row_lt (SV.ltL_mono (Nat.le_succ _) _ hlt) hf);exact row_holds (heap_alloc_new w _) (by have:=z27 hd;simp;omega) hn hm (fun j _=>by simp) (z4j hag cs vs hlt hd) hsc hf
def mkK (P:Program)(H:AH)(t:TypeId)(sl sc:SV)(k:SV→AH→Prop):Prop:=
 match sl,sc with
 |.int _ l,.int _ c=>
  match(z1l P t).kd with
  |.slice e=>
   match z2x P e with
   |some z=>((z1l P t).ok=true∧z29 P e≠0∧z.length=z29 P e∧z.all SV.scalar=true∧(z1l P e).ok=true∧0≤l∧l≤c∧c≤1073741824∧(z1l P e).bytes≤1024)∧
     k (.slc true H.nxt 0 0 l.toNat) ⟨H.nxt+1,(H.nxt,uQ (.row ⟨true,false,e,z29 P e,l.toNat,fun _=>z⟩))::H.os⟩
   |none=>False
  |_=>False
 |_,_=>False
theorem replZ_get (z:List SV):∀(n i:Nat),i<n→∀j,j<z.length→z[j]? =(replZ z n)[i*z.length+j]?
 |0,_,h,_,_=>by omega
 |n+1,0,_,j,hj=>by simp only[replZ,Nat.zero_mul,Nat.zero_add];rw[List.getElem?_append,if_pos hj]
 |n+1,i+1,h,j,hj=>by
  simp only[replZ];rw[List.getElem?_append,if_neg (by rw[Nat.add_mul];omega),replZ_get z n i (by omega) j hj]
  congr 1
  rw[Nat.add_mul];omega
theorem replZ_length (z:List SV):∀n,(replZ z n).length=n*z.length
 |0=>by simp[replZ]
 |n+1=>by simp[replZ,replZ_length z n,Nat.add_mul];omega
theorem replZ_mem (z:List SV):∀n s,s∈replZ z n→s∈z
 |0,s,h=>by simp[replZ] at h
 |n+1,s,h=>by
  simp only[replZ,List.mem_append] at h;rcases h with h|h
  ·exact h
  ·exact replZ_mem z n s h
theorem mkK_ok {X:Cx}{β:Env}{H:AH}{w:World}(hS:St X β H w){t:TypeId}{sl sc:SV}{vl vc:Value}{k:SV→AH→Prop}(h:mkK X.P H t sl sc k)(hl:den β sl vl)(hc:den β sc vc):
  ∃v' w',(Instr.makeSlice t vl vc).run X.P w= .ok v' w'∧Aft X β H w k v' w'∧Blw w.heap.size w w':=by
 unfold mkK at h
 split at h
 ·rename_i kl l kc c
  split at h
  ·rename_i e hkd
   split at h
   ·rename_i z hz;obtain⟨⟨hok,hsz,hzl,hsc,hoke,h0,hcl,hbig,hby⟩,hk⟩:=h;simp only[den] at hl hc;subst hl hc;obtain⟨inf,d,e1,e2,e3⟩:=z1h hok;rw[e3] at hkd;have:=z2l hkd;subst this;obtain⟨ei,de,e4,e5,e6⟩:=z1h hoke;rw[e6] at hby;have hby':ei.bytes≤1024:=hby;clear hby;have hei2:ei.size=z29 X.P e:=by unfold z29;simp[e4]
    have hzz:∃zv,ei.zero=some zv∧z=zv.cells.toList.map z1t:=by
     unfold z2x at hz;simp only[e4,Option.bind_some] at hz
     cases hz0:ei.zero with
     |none=>simp[hz0] at hz
     |some zv=>simp[hz0] at hz;exact⟨zv,rfl,hz.symm⟩
    obtain⟨zv,hzv,rfl⟩:=hzz
    have hbm:(ei.bytes:Int)*c≤281474976710656:=by
     have h1:(ei.bytes:Int)*c≤1024*c:=Int.mul_le_mul_of_nonneg_right (by omega) (by omega);omega
    have hrun:=run_make (P:=X.P) w t e ei zv e2 e4 hzv kl kc l c h0 hcl hbm (by omega);refine⟨_,_,hrun,?_,(Blw.refl _ w).alloc (Nat.le_refl _) _⟩;have hzsz:zv.cells.size=ei.size:=by have:=hzl;simp at this;omega
    have hmade:(madeCells zv.cells (c.toNat*ei.size)).toList=(List.range (c.toNat*zv.cells.toList.length)).map fun j=>zv.cells.toList.getD (j%zv.cells.toList.length) default:=by
     simp[madeCells,hzsz,List.getD,Array.getElem!_eq_getD,Array.getD_eq_getD_getElem?]
    have hne:(zv.cells.toList.map z1t).length≠0:=by rw[hzl];exact hsz
    have hrz:=replZ_eq zv.cells.toList c.toNat hne
    have hd:z2h β (replZ (zv.cells.toList.map z1t) c.toNat) (madeCells zv.cells (c.toNat*ei.size)).toList:=by
     rw[hrz,hmade];exact z3r β _
    have hm:c.toNat≤maxLen:=by unfold maxLen;omega
    have hrl:(replZ (zv.cells.toList.map z1t) c.toNat).length=c.toNat*z29 X.P e:=by rw[replZ_length,hzl]
    have hlt:SV.ltL H.nxt (replZ (zv.cells.toList.map z1t) c.toNat):=by rw[hrz];exact z4c _ _
    have hf:∀i,i<l.toNat→((fun _=>zv.cells.toList.map z1t:Nat→List SV) i).length=z29 X.P e∧∀j,j<z29 X.P e→((fun _=>zv.cells.toList.map z1t:Nat→List SV) i)[j]? =(replZ (zv.cells.toList.map z1t) c.toNat)[i*z29 X.P e+j]? :=fun i hi=>⟨hzl,fun j hj=>by rw[←hzl];exact replZ_get _ _ i (by omega) j (by rw[hzl];exact hj)⟩;have hall:∀s∈replZ (zv.cells.toList.map z1t) c.toNat,s.scalar=true:=fun s hs=>(List.all_eq_true.1 hsc) s (replZ_mem _ _ s hs)
    have hnew:=aft_newC (e:=e) (var:=false) (sz:=z29 X.P e) (n:=l.toNat) (cap:=c.toNat) (f:=fun _=>zv.cells.toList.map z1t) (vs:=(madeCells zv.cells (c.toNat*ei.size)).toList) (s:= .slc true H.nxt 0 0 l.toNat) (v:= .slice (some ⟨w.heap.size,0,none⟩) l.toNat c.toNat) hS hrl (by omega) hm hd hlt hall hf
     (fun β' hb=>by simp only[den,z4l,if_true];exact .inr ⟨_,c.toNat,hb,trivial,rfl,by omega,Nat.le_refl _,rfl⟩) (Nat.lt_succ_self _) hk
    rw[Array.toArray_toList] at hnew;exact hnew
   ·exact h.elim
  ·exact h.elim
 ·exact h.elim
end Go.Sk

namespace Go.Sk
open Go.RowKit
def z2t (f:Nat→List SV):Nat→List SV
 |0=>[]
 |n+1=>z2t f n++f n
theorem z48 {f:Nat→List SV}{sz:Nat}:∀{n:Nat},(∀i,i<n→(f i).length=sz)→(z2t f n).length=n*sz
 |0,_=>by simp[z2t]
 |n+1,h=>by
  rw[z2t,List.length_append,z48 fun i hi=>h i (by omega),h n (by omega),Nat.add_mul];omega
theorem flatS_get {f:Nat→List SV}{sz:Nat}:∀{n:Nat},(∀i,i<n→(f i).length=sz)→∀i,i<n→∀j,j<sz→(f i)[j]? =(z2t f n)[i*sz+j]?
 |0,_,_,hi,_,_=>by omega
 |n+1,h,i,hi,j,hj=>by
  have hl:=z48 (f:=f) (sz:=sz) (n:=n) fun i hi=>h i (by omega);rw[z2t,List.getElem?_append,hl]
  by_cases hin:i<n
  ·have:i*sz+j<n*sz:=by
    have h2:(i+1)*sz≤n*sz:=Nat.mul_le_mul_right _ hin;rw[Nat.add_mul] at h2;omega
   rw[if_pos this];exact flatS_get (fun i hi=>h i (by omega)) i hin j hj
  ·have:i=n:=by omega
   subst this;rw[if_neg (by omega)]
   congr 1;omega
theorem flatS_mem {f:Nat→List SV}{sz:Nat}:∀{n:Nat},(∀i,i<n→(f i).length=sz)→∀(q:Nat) (s:SV),(z2t f n)[q]? =some s→∃i j,i<n∧j<sz∧q=i*sz+j∧(f i)[j]? =some s
 |0,_,q,s,hq=>by simp[z2t] at hq
 |n+1,h,q,s,hq=>by
  have hl:=z48 (f:=f) (sz:=sz) (n:=n) fun i hi=>h i (by omega);rw[z2t,List.getElem?_append,hl] at hq
  split at hq
  ·obtain⟨i,j,h1,h2,h3,h4⟩:=flatS_mem (fun i hi=>h i (by omega)) q s hq;exact⟨i,j,by omega,h2,h3,h4⟩
  ·have hj:q-n*sz<sz:=by
    have:=(List.getElem?_eq_some_iff.1 hq).1;rw[h n (by omega)] at this;exact this
   exact⟨n,q-n*sz,by omega,hj,by omega,hq⟩
theorem run_append_zero {P:Program}(w:World)(t ty e:TypeId)(i:TypeInfo)(ht:P.underlying t=some (.slice e))(hi:P.info? e=some i)(a:Option Addr)(n c c':Nat)(hn:n≤c):
  (Builtin.append_ #[t,t] ty #[.slice a n c,.slice none 0 c']).run P w= .ok (.slice a n c) w:=by
 cases a with
 |none=>simp[Builtin.append_,run_underlying ht,sizeOf,typeInfo,hi,Builtin.lenOf,Builtin.firstCells,hn]
 |some a=>simp[Builtin.append_,run_underlying ht,sizeOf,typeInfo,hi,Builtin.lenOf,Builtin.firstCells,hn,storeCells]
def OwnsRow (w:World)(e:TypeId)(sz:Nat)(v:Value)(n:Nat)(xs:List Value):Prop:=
 xs.length=n*sz∧((v= .slice none 0 0∧n=0)∨∃g cap bc cur,v= .slice (some ⟨g,0,none⟩) n cap∧w.heap[g]? =some (.cells cur e (0,0))∧n≤cap∧cap≤bc∧bc≤maxLen∧cur.size=bc*sz∧cur.toList.take (n*sz)=xs)
theorem OwnsRow.cells {w:World}{e:TypeId}{sz:Nat}{n:Nat}{xs:List Value}{g cap bc:Nat}{cur:Array Value}(hg:w.heap[g]? =some (.cells cur e (0,0)))(htake:cur.toList.take (n*sz)=xs)(j:Nat)(u:Value)(h:xs[j]? =some u):w.cell? ((⟨g,0,none⟩:Addr).add j)=some u:=by
 rw[z3p,Nat.zero_add];rw[←htake,List.getElem?_take] at h
 split at h
 ·simp only[World.cell?,hg];simpa using h
 ·cases h
structure Appended (w w':World) (e:TypeId) (sz:Nat) (v v':Value) (n m:Nat) (cells:List Value):Prop where
 os:w'.os=w.os
 tape:w'.tape=w.tape
 output:w'.output=w.output
 size:w.heap.size≤w'.heap.size
 block:∀k,k<w.heap.size→some k≠v.ownBlock→w'.heap[k]? =w.heap[k]?
 drawn:w.drawn≤w'.drawn
 out:(v= .slice none 0 0∧m=0∧v'= .slice none 0 0)∨
  ∃g cap bc cur,v'= .slice (some ⟨g,0,none⟩) (n+m) cap∧w'.heap[g]? =some (.cells cur e (0,0))∧n+m≤cap∧cap≤bc∧bc≤maxLen∧cur.size=bc*sz∧cur.toList.take ((n+m)*sz)=cells∧(some g=v.ownBlock∨w.heap.size≤g)
theorem run_append_at {P : Program} (w : World) (t ty e : TypeId) (i : TypeInfo) (z : Value) (ht : P.underlying t = some (.slice e)) (hi : P.info? e = some i) (hz : i.zero = some z)
    (hzs:z.cells.size=i.size) (v:Value) (n:Nat) (xs:List Value) (hown:OwnsRow w e i.size v n xs)
    (a:Option Addr) (m c:Nat) (news:List Value) (hl:news.length=m*i.size) (hnews:∀b,a=some b→∀(j:Nat) (u:Value),news[j]? =some u→w.cell? (b.add j)=some u) (hna:a=none→m=0) (h1:∀u∈news,u.oneCell'=true)
    (h63:n+m≤maxLen) (hbytes:(n+m)*i.bytes≤140737488355328):
    ∃v' w',(Builtin.append_ #[t,t] ty #[v,.slice a m c]).run P w= .ok v' w'∧Appended w w' e i.size v v' n m (xs++news):=by
  have hsmall:n+m≤9223372036854775807:=by simp only[maxLen] at h63;omega
  have hlen:(xs++news).length=(n+m)*i.size:=by rw[List.length_append,hown.1,hl,Nat.add_mul]
  cases a with
  |none=>
    have hm:=hna rfl;subst hm;have hn0:news=[]:=List.eq_nil_of_length_eq_zero (by simpa using hl);subst hn0;rcases hown.2 with⟨rfl,rfl⟩|⟨g,cap,bc,cur,rfl,hg,hnc,hcb,hcm,hcs,htake⟩
    · exact⟨_,w,run_append_zero w t ty e i ht hi none 0 0 c (Nat.le_refl _),⟨rfl,rfl,rfl,Nat.le_refl _,fun _ _ _=>rfl,Nat.le_refl _,.inl ⟨rfl,rfl,rfl⟩⟩⟩
    · exact⟨_,w,run_append_zero w t ty e i ht hi _ n cap c hnc,⟨rfl,rfl,rfl,Nat.le_refl _,fun _ _ _=>rfl,Nat.le_refl _,.inr ⟨g,cap,bc,cur,rfl,hg,hnc,hcb,hcm,hcs,by simpa using htake,.inl rfl⟩⟩⟩
  |some ad=>
    have hnews':=hnews ad rfl
    have grown : ∀ (old : Nat), old < n + m → ∀ (v : Value),
        Appended w (w.drew.alloc (.cells (xs.toArray++news.toArray++Builtin.zeroCells z.cells (grownCap w (n+m) old e-(n+m))) e)) e i.size v (.slice (some ⟨w.heap.size,0,none⟩) (n+m) (grownCap w (n+m) old e)) n m (xs++news):=by
      intro old ho v;have hge:=grownCap_ge w (n+m) old e;have hcm:grownCap w (n+m) old e≤maxLen:=grownCap_le_maxLen w (n+m) old e h63;refine⟨rfl,rfl,rfl,by simp,fun k hk _=>heap_alloc_old w.drew _ hk,Nat.le_succ _,.inr ⟨w.heap.size,_,_,_,rfl,heap_alloc_new w.drew _,hge,Nat.le_refl _,hcm,?_,?_,.inr (Nat.le_refl _)⟩⟩
      · simp only[Array.size_append,List.size_toArray,size_zeroCells,hzs,hown.1,hl,←Nat.add_mul]
        congr 1
        omega
      · simp only[Array.toList_append,List.append_assoc];rw[←List.append_assoc,←hlen];exact List.take_left
    rcases hown.2 with⟨rfl,rfl⟩|⟨g,cap,bc,cur,rfl,hg,hnc,hcb,hcm,hcs,htake⟩
    · have hx:xs=[]:=List.eq_nil_of_length_eq_zero (by simpa using hown.1);subst hx
      by_cases hm:m=0
      · subst hm;have hn0:news=[]:=List.eq_nil_of_length_eq_zero (by simpa using hl);subst hn0;refine⟨.slice none 0 0,w,?_,⟨rfl,rfl,rfl,Nat.le_refl _,fun _ _ _=>rfl,Nat.le_refl _,.inl ⟨rfl,rfl,rfl⟩⟩⟩;simp[Builtin.append_,run_underlying ht,sizeOf,typeInfo,hi,Builtin.lenOf,Builtin.firstCells,loadCells,loadCellsFrom]
      · have hr:=run_append_nil (P:=P) w t ty e i z ht hi hz ad m c news hl hnews' (by omega) (by omega) (by have hb:=hbytes;simp only[Nat.zero_add] at hb;omega);have hgr:=grown 0 (by omega) (.slice none 0 0);simp only[Nat.zero_add,List.nil_append,Array.empty_append] at hgr;exact⟨_,_,hr,by simpa only[Nat.zero_add,List.nil_append] using hgr⟩
    · by_cases hroom:n+m≤cap
      · have hfit:n*i.size+news.length≤cur.size:=by rw[hl,hcs,←Nat.add_mul];exact Nat.mul_le_mul_right _ (Nat.le_trans hroom hcb)
        have hr:=run_append_room (P:=P) w t ty e i ht hi g n cap cur hg ad m c news hl hnews' h1 hroom hfit;refine⟨_,_,hr,⟨rfl,rfl,rfl,by simp,fun k _ hk=>setRow_other w g k _ (fun e=>hk (by simp[Value.ownBlock,e])),Nat.le_refl _,.inr ⟨g,cap,bc,_,rfl,setRow_heap w g cur _ e _ hg,hroom,hcb,hcm,?_,?_,.inl rfl⟩⟩⟩
        · simp only[List.size_toArray,List.length_append,List.length_take,List.length_drop,Array.length_toList];omega
        · rw[htake,←hlen];exact List.take_left
      · have holds:∀(j:Nat) (u:Value),xs[j]? =some u→w.cell? ((⟨g,0,none⟩:Addr).add j)=some u:=OwnsRow.cells (cap:=cap) (bc:=bc) hg htake;have hr:=run_append_grow (P:=P) w t ty e i z ht hi hz ⟨g,0,none⟩ n cap xs hown.1 holds ad m c news hl hnews' (by omega) (by omega) (growslice_fits (by omega) hbytes);exact⟨_,_,hr,grown cap (by omega) _⟩
def app (f:Nat→List SV)(n:Nat)(g:Nat→List SV):Nat→List SV:=fun i=>if i<n then f i else g (i-n)
def srcF (f:Nat→List SV)(o:Nat):Nat→List SV:=fun i=>f (o+i)
theorem srcF_zero (f:Nat→List SV):srcF f 0=f:=by funext i;simp[srcF]
def srcK (H:AH)(sz:Nat)(x:SV)(k:Nat→(Nat→List SV)→Prop):Prop:=
 match x with
 |.nils=>k 0 (fun _=>[])
 |.slc _ id kk o m=>
  match find H.os id with
  |some (c,F)=>
   match F kk with
   |.row r=>(kk<c∧o+m≤r.n∧r.sz=sz)∧k m (srcF r.f o)
   |_=>False
  |none=>False
 |_=>False
def appendK (P:Program)(m0:Nat)(dr:Bool)(W:List Nat)(H:AH)(t t':TypeId)(s x:SV)(k:SV→AH→Prop):Prop:=
 match(z1l P t).kd with
 |.slice e=>
  (t'=t∧(z1l P t).ok=true∧(z1l P e).ok=true∧z29 P e≠0∧(z2x P e).map List.length=some (z29 P e))∧
  srcK H (z29 P e) x fun m g=>
   match s with
   |.nils=>(m≤1073741824∧(z1l P e).bytes≤1024)∧k (.slc true H.nxt 0 0 m) ⟨H.nxt+1,(H.nxt,uQ (.row ⟨true,false,e,z29 P e,m,g⟩))::H.os⟩
   |.slc true id 0 0 n=>
    match find H.os id with
    |some (c,F)=>
     match F 0 with
     |.row r=>(r.own=true∧(dr=true→W.contains id=true)∧c=1∧m0≤id∧n≤r.n∧r.sz=z29 P e∧r.e=e∧n+m≤1073741824∧(z1l P e).bytes≤1024)∧
       k (.slc true H.nxt 0 0 (n+m)) ⟨H.nxt+1,(H.nxt,uQ (.row ⟨true,false,e,z29 P e,n+m,app r.f n g⟩))::dropO H.os id⟩
     |_=>False
    |none=>False
   |.slc true id (j+1) 0 n=>
    match find H.os id with
    |some (c,F)=>
     match F (j+1) with
     |.row r=>(r.own=true∧(dr=true→W.contains id=true)∧j+1<c∧m0≤id∧n≤r.n∧r.sz=z29 P e∧r.e=e∧n+m≤1073741824∧(z1l P e).bytes≤1024)∧
       k (.slc true H.nxt 0 0 (n+m)) ⟨H.nxt+1,(H.nxt,uQ (.row ⟨true,false,e,z29 P e,n+m,app r.f n g⟩))::setO H.os id (j+1) .gone⟩
     |_=>False
    |none=>False
   |_=>False
 |_=>False
theorem St.extBut {X:Cx}{β:Env}{H:AH}{w w':World}(h:St X β H w)(h1:w'.os=w.os)(h2:w'.tape=w.tape)(h3:w'.output=w.output)(h4:w.heap.size≤w'.heap.size)(h8:w.drawn≤w'.drawn){B:Nat→Prop}
  (h5:∀b,b<w.heap.size→¬B b→w'.heap[b]? =w.heap[b]?) (h6:∀b,B b→X.w0.heap.size≤b) (h7:∀id k o L,look H.os id k=some o→β id k=some L→¬B L.blk):St X β H w' where
 os:=h1.trans h.os
 tape:=h2.trans h.tape
 output:=h3.trans h.output
 size:=Nat.le_trans h.size h4
 fix:=h.fix
 holds id k o ho:=(h.holds id k o ho).mono h4 fun L hL hl=>h5 _ hl (h7 _ _ _ _ ho hL)
 sep:=h.sep
 old b hb hn:=(h5 b (Nat.lt_of_lt_of_le hb h.size) (fun hB=>by have:=h6 b hB;omega)).trans (h.old b hb hn)
 mine:=h.mine
 keep:=h.keep
 m0:=h.m0
 lt:=h.lt
 tabs:=h.tabs
 drawn:=Nat.le_trans h.drawn h8
def rowVals (w:World)(L:Loc)(o:Nat)(cnt:Nat):List Value:=(List.range cnt).map fun q=>(w.cell? ⟨L.blk,o+q,none⟩).getD undef
theorem row_vals {β:Env}{w:World}{r:Row}{L:Loc}(h:r.cellsOk β w L)(hsz:L.sz=r.sz){o m:Nat}(hom:o+m≤r.n):
  z2h β (z2t (fun i=>r.f (o+i)) m) (rowVals w L (L.off+o*r.sz) (m*r.sz))∧
  (∀(j:Nat) (u:Value),(rowVals w L (L.off+o*r.sz) (m*r.sz))[j]? =some u→w.cell? ⟨L.blk,L.off+o*r.sz+j,none⟩=some u)∧
  (∀s∈z2t (fun i=>r.f (o+i)) m,s.scalar=true):=by
 have hlen:∀i,i<m→((fun i=>r.f (o+i)) i).length=r.sz:=fun i hi=>(h (o+i) (by omega)).1;have hfl:=z48 hlen
 have key:∀(q:Nat) (s:SV),(z2t (fun i=>r.f (o+i)) m)[q]? =some s→s.scalar=true∧∃v,w.cell? ⟨L.blk,L.off+o*r.sz+q,none⟩=some v∧den β s v:=fun q s hq=>by
  obtain⟨i,j,hi,hj,rfl,hs⟩:=flatS_mem hlen q s hq;obtain⟨h1,v,h2,h3⟩:=(h (o+i) (by omega)).2 j s hs;refine⟨h1,v,?_,h3⟩;rw[hsz,Nat.add_mul] at h2;rw[←h2];congr 2;omega
 refine⟨?_,fun j u hj=> ?_,fun s hs=> ?_⟩
 ·have:=denL_mk (β:=β) _ (fun q=>(w.cell? ⟨L.blk,L.off+o*r.sz+q,none⟩).getD undef) (fun q s hq=>by
   obtain⟨_,v,h2,h3⟩:=key q s hq
   rw[h2];exact h3)
  rw[hfl] at this;exact this
 ·unfold rowVals at hj;rw[List.getElem?_map] at hj
  have hlt:j<m*r.sz:=by
   rcases Nat.lt_or_ge j (m*r.sz) with h'|h'
   ·exact h'
   ·rw[List.getElem?_eq_none (by simpa using h')] at hj;cases hj
  rw[List.getElem?_range hlt] at hj
  cases hj
  obtain⟨_,v,h2,_⟩:=key j _ (List.getElem?_eq_getElem (by rw[hfl];exact hlt));simp[h2]
 ·obtain⟨q,hq⟩:=List.getElem?_of_mem hs;exact(key q s hq).1
theorem rowVals_length (w:World)(L:Loc)(o cnt:Nat):(rowVals w L o cnt).length=cnt:=by simp[rowVals]
theorem srcK_ok {X:Cx}{β:Env}{H:AH}{w:World}(hS:St X β H w){sz:Nat}{x:SV}{vx:Value}{k:Nat→(Nat→List SV)→Prop}(h:srcK H sz x k)(hx:den β x vx):
  ∃m g a c news,k m g∧vx= .slice a m c∧(a=none→m=0)∧news.length=m*sz∧(∀b,a=some b→∀(j:Nat) (u:Value),news[j]? =some u→w.cell? (b.add j)=some u)∧
   z2h β (z2t g m) news∧SV.ltL H.nxt (z2t g m)∧(∀s∈z2t g m,s.scalar=true)∧(∀i,i<m→(g i).length=sz):=by
 unfold srcK at h
 split at h
 ·simp only[den] at hx;subst hx;exact⟨0,_,none,0,[],h,rfl,fun _=>rfl,by simp,fun b hb=>(by cases hb),rfl,trivial,fun s hs=>(by cases hs),fun i hi=>by omega⟩
 ·rename_i g id kk o m
  split at h
  ·rename_i c F hf
   split at h
   ·rename_i r hr;obtain⟨⟨hk,hom,hsz⟩,h⟩:=h;have hl:=zt hf hk;rw[hr] at hl;have hkg:k m (fun i=>r.f (o+i)):=h;simp only[den] at hx;obtain⟨a0,c0,rfl,hmc⟩:=z3k hx
    by_cases hm:m=0
    ·subst hm;exact⟨0,_,a0,c0,[],hkg,rfl,fun _=>rfl,by simp,fun b hb j u hj=>(by simp at hj),rfl,trivial,fun s hs=>(by cases hs),fun i hi=>by omega⟩
    ·obtain⟨L,c1,hb,he⟩:=z4e hx (by omega);simp only[Value.slice.injEq] at he;obtain⟨rfl,_,rfl⟩:=he;rcases hS.holds _ _ _ hl with⟨_,hq⟩|⟨L',hq,h1,h2,h3,_⟩
     ·rw[hb] at hq;cases hq
     ·rw[hb] at hq
      cases hq
      obtain⟨q1,q2,q3⟩:=row_vals h3 h1 hom;subst hsz;refine⟨m,_,_,c0,_,hkg,rfl,fun hn=>(by cases hn),rowVals_length _ _ _ _,fun b hb' j u hj=> ?_,q1,?_,q3,fun i hi=>(h3 _ (by omega)).1⟩
      ·cases hb'
       rw[z3p,h1];exact q2 j u hj
      ·refine SV.ltL_of_get fun q s hq=> ?_;obtain⟨i,j,hi,hj,rfl,hs⟩:=flatS_mem (fun i hi=>(h3 (o+i) (by omega)).1) q s hq;exact(hS.lt _ _ _ hl).2 (o+i) j s (by show o+i<r.n;omega) hs
   ·exact h.elim
  ·exact h.elim
 ·exact h.elim
theorem flatS_app (f g:Nat→List SV)(n:Nat):∀m,z2t (app f n g) (n+m)=z2t f n++z2t g m
 |0=>by
  have:∀n',n'≤n→z2t (app f n g) n'=z2t f n':=by
   intro n'
   induction n' with
   |zero=>intro _;rfl
   |succ q ih=>intro hq;simp only[z2t];rw[ih (by omega)];congr 1;unfold app;rw[if_pos (by omega)]
  simp[this n (Nat.le_refl _),z2t]
 |m+1=>by
  rw[←Nat.add_assoc];simp only[z2t];rw[flatS_app f g n m,List.append_assoc]
  congr 2
  unfold app;rw[if_neg (by omega)]
  congr 1;omega
theorem appendK_ok {X : Cx} {β : Env} {H : AH} {w : World} (hS : St X β H w) {dr : Bool} {W : List Nat} {t t' ty : TypeId} {s x : SV} {vs vx : Value} {k : SV → AH → Prop} (h : appendK X.P X.m0 dr W H t t' s x k) (hs : den β s vs) (hx : den β x vx) :
    ∃v' w',(Builtin.append_ #[t,t'] ty #[vs,vx]).run X.P w= .ok v' w'∧Aft X β H w k v' w'∧(dr=true→Kp w (inW β H W) w'):=by
  unfold appendK at h
  split at h
  · rename_i e hkd;obtain⟨⟨rfl,hok,hoke,hsz,hzl⟩,h⟩:=h;obtain⟨m,g,a,c,news,h2,rfl,hna,hnl,hnews,hnd,hnlt,hnsc,hgl⟩:=srcK_ok hS h hx;clear h;have h:=h2;clear h2;obtain⟨inf,d,e1,e2,e3⟩:=z1h hok;rw[e3] at hkd;have:=z2l hkd;subst this;obtain⟨ei,de,e4,e5,e6⟩:=z1h hoke;have hei2:ei.size=z29 X.P e:=by unfold z29;simp[e4]
    have hbyt:(z1l X.P e).bytes=ei.bytes:=by rw[e6]
    have hzz:∃zv,ei.zero=some zv∧zv.cells.size=ei.size:=by
      unfold z2x at hzl;simp only[e4,Option.bind_some] at hzl
      cases hz0:ei.zero with
      |none=>simp[hz0] at hzl
      |some zv=>simp[hz0] at hzl;exact⟨zv,rfl,by omega⟩
    obtain⟨zv,hzv,hzs⟩:=hzz
    have hone:∀u∈news,u.oneCell'=true:=fun u hu=>by
      obtain⟨q,hq⟩:=List.getElem?_of_mem hu;have hlen:=z27 hnd;obtain⟨s',hs'⟩:∃s',(z2t g m)[q]? =some s':=⟨_,List.getElem?_eq_getElem (by have:=(List.getElem?_eq_some_iff.1 hq).1;omega)⟩;obtain⟨u',hu',hd'⟩:=z3z hnd q s' hs';rw[hq] at hu';cases hu'
      exact den_scalar (hnsc s' (List.mem_of_getElem? hs')) hd'
    --what follows,once the old row is known
    have main : ∀ (H1 : AH) (n : Nat) (f : Nat → List SV) (xs : List Value), H1.nxt = H.nxt → (∀ id k o, look H1.os id k = some o → look H.os id k = some o) → St X β H1 w → OwnsRow w e ei.size vs n xs → z2h β (z2t f n) xs → SV.ltL H.nxt (z2t f n) → (∀ s ∈ z2t f n, s.scalar = true) → (∀ i, i < n → (f i).length = z29 X.P e) →
        (∀b,vs.ownBlock=some b→dr=true→inW β H W b)→(∀b,vs.ownBlock=some b→X.w0.heap.size≤b∧∀id k o L,look H1.os id k=some o→β id k=some L→L.blk≠b)→n+m≤1073741824→(z1l X.P e).bytes≤1024→
        k (.slc true H.nxt 0 0 (n+m)) ⟨H.nxt+1,(H.nxt,uQ (.row ⟨true,false,e,z29 X.P e,n+m,app f n g⟩))::H1.os⟩→
        ∃v' w',(Builtin.append_ #[t',t'] ty #[vs,.slice a m c]).run X.P w= .ok v' w'∧Aft X β H w k v' w'∧(dr=true→Kp w (inW β H W) w'):=by
      intro H1 n f xs hnxt hsub hS1 hown hfd hflt hfsc hfl hWb hblk hbig hby hk;rw[hbyt] at hby
      have hbytes:(n+m)*ei.bytes≤140737488355328:=by
        have:(n+m)*ei.bytes≤1073741824*1024:=Nat.mul_le_mul hbig hby;omega
      obtain⟨v',w',hr,hA⟩:=run_append_at (P:=X.P) w t' ty e ei zv e2 e4 hzv hzs vs n xs hown a m c news (by rw[hei2];exact hnl) hnews hna hone (by unfold maxLen;omega) hbytes;refine⟨v',w',hr,?_,fun hdr=>⟨hA.size,fun b hb hnb=>hA.block b hb fun he=>hnb (hWb b he.symm hdr)⟩⟩;have hS2:St X β H1 w':=hS1.extBut (B:=fun b=>vs.ownBlock=some b) hA.os hA.tape hA.output hA.size hA.drawn (fun b hb hnb=>hA.block b hb (fun he=>hnb he.symm)) (fun b hb=>(hblk b hb).1) (fun id k o L hl hb hc=>(hblk _ hc).2 id k o L hl hb rfl)
      have hlenA:∀i,i<n+m→(app f n g i).length=z29 X.P e:=fun i hi=>by
        unfold app
        split
        · exact hfl i (by assumption)
        · exact hgl _ (by omega)
      have hcs:(z2t (app f n g) (n+m)).length=(n+m)*z29 X.P e:=z48 hlenA;rcases hA.out with⟨rfl,rfl,rfl⟩|⟨gb,cap,bc,cur,rfl,hheap,hcap,hcb,hmax,hcsz,htake,hgb⟩
      · --nothing is appended to nil
        have hn0:n=0:=by
          rcases hown.2 with⟨_,h⟩|⟨_,_,_,_,h,_⟩
          · exact h
          · cases h
        subst hn0;have hag:=Env.agree_set β H.nxt (fun _=>none);refine⟨β.set H.nxt (fun _=>none),_,_,hk,?_,Nat.lt_succ_self _,?_,hag,Nat.le_succ _,sub_cons _ _ _ hsub⟩
        · simp only[den,z4l,if_true];refine .inl ⟨by unfold Env.set;rw[if_pos rfl],?_⟩;simp
        · rw[←hnxt];refine St.new' hS2 (fun k L _ he=>by cases he) (fun k k' _ _ h h' _ _ _=>by omega) (fun k _=> .inl ⟨rfl,rfl⟩) (fun k _=>fun i j s hi _=> ?_);have hi':i<0+0:=hi;omega
      · have hag:=Env.agree_set β H.nxt (fun _=>some ⟨gb,0,z29 X.P e,bc⟩);refine⟨β.set H.nxt (fun _=>some ⟨gb,0,z29 X.P e,bc⟩),_,_,hk,?_,Nat.lt_succ_self _,?_,hag,Nat.le_succ _,sub_cons _ _ _ hsub⟩
        · simp only[den,z4l,if_true];exact .inr ⟨_,cap,by unfold Env.set;rw[if_pos rfl],trivial,rfl,hcap,hcb,rfl⟩
        · have hall:SV.ltL H.nxt (z2t (app f n g) (n+m)):=by
            rw[flatS_app]
            exact SV.ltL_of_get fun q s hq=>by
              rcases List.mem_append.1 (List.mem_of_getElem? hq) with hm|hm
              · obtain⟨q',hq'⟩:=List.getElem?_of_mem hm;exact SV.ltL_get hflt q' s hq'
              · obtain⟨q',hq'⟩:=List.getElem?_of_mem hm;exact SV.ltL_get hnlt q' s hq'
          have hdd:z2h β (z2t (app f n g) (n+m)) (xs++news):=by rw[flatS_app];exact denL_append hfd hnd
          have hscA:∀s∈z2t (app f n g) (n+m),s.scalar=true:=fun s hs=>by
            rw[flatS_app] at hs;rcases List.mem_append.1 hs with hm|hm
            · exact hfsc s hm
            · exact hnsc s hm
          have hfA:∀i,i<n+m→(app f n g i).length=z29 X.P e∧∀j,j<z29 X.P e→(app f n g i)[j]? =(z2t (app f n g) (n+m))[i*z29 X.P e+j]? :=fun i hi=>⟨hlenA i hi,flatS_get hlenA i hi⟩;rw[←hnxt];refine St.new' hS2 (fun k L _ he=> ?_) (fun k k' _ _ h h' _ _ _=>by omega) (fun k _=> ?_) (fun k _=>row_lt (SV.ltL_mono (by omega) _ hall) hfA)
          · cases he
            rcases hgb with hgb|hgb
            · exact hblk _ hgb.symm
            · refine⟨Nat.le_trans hS1.size hgb,fun id k o L hl hb he=> ?_⟩;have:=hS1.blk_lt hl hb;simp only at he;omega
          · rw[hnxt];refine row_holds (b:=gb) (cap:=bc) hheap (by rw[←hei2];exact hcsz) (Nat.le_trans hcap hcb) hmax (fun j hj=> ?_) (z4j hag _ _ hall hdd) hscA hfA;have:j<((n+m)*ei.size):=by rw[hei2];exact hj
            rw[←htake,List.getElem?_take,if_pos this];simp
    --an own row,at any place of a family
    have fin : ∀ (id kk n : Nat) (r : Row) (os1 : List (Nat × Nat × (Nat → Obj))), look H.os id kk = some (.row r) → r.own = true → (dr = true → W.contains id = true) → X.m0 ≤ id → n ≤ r.n → r.sz = z29 X.P e → r.e = e → n + m ≤ 1073741824 → (z1l X.P e).bytes ≤ 1024 →
        (∀id' k' o,look os1 id' k'=some o→look H.os id' k'=some o∧¬(id'=id∧k'=kk))→St X β ⟨H.nxt,os1⟩ w→z4l β true id kk 0 n vs→
        k (.slc true H.nxt 0 0 (n+m)) ⟨H.nxt+1,(H.nxt,uQ (.row ⟨true,false,e,z29 X.P e,n+m,app r.f n g⟩))::os1⟩→
        ∃v' w',(Builtin.append_ #[t',t'] ty #[vs,.slice a m c]).run X.P w= .ok v' w'∧Aft X β H w k v' w'∧(dr=true→Kp w (inW β H W) w'):=by
      intro id kk n r os1 hl hown hWid hm0 hrn hrsz hre hbig hby hos1 hSd hs hk;simp only[z4l,if_true] at hs;have hdsub:∀id' k o,look os1 id' k=some o→look H.os id' k=some o:=fun id' k o h=>(hos1 _ _ _ h).1;rcases hS.holds _ _ _ hl with⟨hn0,hq⟩|⟨L,hq,h1,h2,h3,h4⟩
      · --nil,in fact
        rcases hs with⟨_,rfl,_,rfl⟩|⟨L,_,hb,_⟩
        · refine main ⟨H.nxt,os1⟩ 0 r.f [] rfl hdsub hSd ⟨by simp,.inl ⟨rfl,rfl⟩⟩ rfl trivial (fun s hs=>by cases hs) (fun i hi=>by omega) (fun b hb=>by simp[Value.ownBlock] at hb) (fun b hb=>by simp[Value.ownBlock] at hb) hbig hby hk
        · rw[hq] at hb;cases hb
      · rcases hs with⟨hb,_⟩|⟨L',cs,hb,_,hoff,hncap,hcL,rfl⟩
        · rw[hq] at hb;cases hb
        · rw[hq] at hb
          cases hb
          obtain⟨_,hrc,hmax,cur,hcur,hcsz⟩:=h4 hown;obtain⟨q1,q2,q3⟩:=row_vals h3 h1 (o:=0) (m:=n) (by omega);have hfun:(fun i=>r.f (0+i))=r.f:=by funext i;rw[Nat.zero_add]
          rw[hfun] at q1 q3;refine main ⟨H.nxt,os1⟩ n r.f _ rfl hdsub hSd ⟨?_,.inr ⟨L.blk,cs,L.cap,cur,rfl,by rw[←hre];exact hcur,hncap,hcL,hmax,by rw[hei2,←hrsz];exact hcsz,?_⟩⟩ q1 ?_ q3 (fun i hi=>by rw[←hrsz];exact(h3 i (by omega)).1) (fun b hb hdr=> ?_) (fun b hb=> ?_) hbig hby hk
          · rw[rowVals_length,hrsz,hei2]
          · --the first cells of the block are the row's values
            apply List.ext_getElem?;intro q;rw[List.getElem?_take,hei2,←hrsz]
            by_cases hq2:q<n*r.sz
            · rw[if_pos hq2];have hlt:q<(rowVals w L (L.off+0*r.sz) (n*r.sz)).length:=by rw[rowVals_length];exact hq2
              have:=q2 q _ (List.getElem?_eq_getElem hlt);rw[List.getElem?_eq_getElem hlt,←this];simp[World.cell?,hcur,hoff]
            · rw[if_neg hq2,List.getElem?_eq_none (by rw[rowVals_length];omega)]
          · refine SV.ltL_of_get fun q s hq=> ?_;obtain⟨i,j,hi,hj,rfl,hs⟩:=flatS_mem (sz:=r.sz) (fun i hi=>(h3 i (by omega)).1) q s hq;exact(hS.lt _ _ _ hl).2 i j s (by show i<r.n;omega) hs
          · simp only[Value.ownBlock,Option.some.injEq] at hb;subst hb;exact⟨id,kk,_,L,by simpa using hWid hdr,hl,hown,hq,rfl⟩
          · simp only[Value.ownBlock,Option.some.injEq] at hb;subst hb;refine⟨?_,fun id' k' o L' hl2 hb2 he=> ?_⟩
            · rcases hS.mine _ _ _ _ hl hown hq with⟨h,_⟩|⟨_,h⟩
              · omega
              · exact h
            · obtain⟨hl3,hne⟩:=hos1 _ _ _ hl2;have:=hS.sep _ _ _ _ _ _ _ _ hl hl3 hown hq hb2 he.symm;exact hne ⟨this.1.symm,this.2.symm⟩
    split at h
    · --nil
      obtain⟨⟨hbig,hby⟩,hk⟩:=h;simp only[den] at hs;subst hs;refine main H 0 (fun _=>[]) [] rfl (fun _ _ _ h=>h) hS ⟨by simp,.inl ⟨rfl,rfl⟩⟩ rfl trivial (fun s hs=>by cases hs) (fun i hi=>by omega) (fun b hb=>by simp[Value.ownBlock] at hb) (fun b hb=>by simp[Value.ownBlock] at hb) (by omega) hby ?_;rw[Nat.zero_add];have:app (fun _=>[]) 0 g=g:=by funext i;simp[app]
      rw[this];exact hk
    · rename_i id n
      split at h
      · rename_i cc F hf
        split at h
        · rename_i r hr;obtain⟨⟨hown,hWid,hc1,hm0,hrn,hrsz,hre,hbig,hby⟩,hk⟩:=h;subst hc1;have hl:=zt hf (show(0:Nat)<1 by omega);rw[hr] at hl
          exact fin id 0 n r _ hl hown hWid hm0 hrn hrsz hre hbig hby (fun id' k o h=>by
            rw[look_dropO] at h
            split at h
            · cases h
            · rename_i hne;exact⟨h,fun hh=>hne hh.1⟩) (hS.drop id hm0) hs hk
        · exact h.elim
      · exact h.elim
    · rename_i id j n
      split at h
      · rename_i cc F hf
        split at h
        · rename_i r hr;obtain⟨⟨hown,hWid,hc1,hm0,hrn,hrsz,hre,hbig,hby⟩,hk⟩:=h;have hl:=zt hf hc1;rw[hr] at hl
          exact fin id (j+1) n r _ hl hown hWid hm0 hrn hrsz hre hbig hby (fun id' k o h=>by
            rw[z2v _ _ _ _ _ hl] at h
            split at h
            · cases h
            · rename_i hne;exact⟨h,hne⟩) (hS.lose id (j+1) hm0 hl) hs hk
        · exact h.elim
      · exact h.elim
    · exact h.elim
  · exact h.elim
end Go.Sk

namespace Go.Sk
open Go.RowKit
def z5i (f:Nat→List SV)(o m:Nat)(g:Nat→List SV):Nat→List SV:=fun q=>if o≤q∧q<o+m then g (q-o) else f q
theorem setO_same {os:List (Nat×Nat×(Nat→Obj))}{id kk:Nat}{o:Obj}(h:look os id kk=some o)(id' k':Nat):look (setO os id kk o) id' k'=look os id' k':=by
 rw[z2v _ _ _ _ _ h]
 split
 ·rename_i he;rw[he.1,he.2,h];exact Obj.opt_of (z38 h)
 ·rfl
theorem over_ok {X:Cx}{β:Env}{H:AH}{w:World}(hS:St X β H w){id kk:Nat}{r:Row}(hl:look H.os id kk=some (.row r))(hown:r.own=true){L:Loc}(hb:β id kk=some L){o m:Nat}(hom:o+m≤r.n)(hn0:0<r.n){g:Nat→List SV}{vs:List Value}
  (hvs:vs.length=m*r.sz) (hgl:∀q,q<m→(g q).length=r.sz) (hgd:z2h β (z2t g m) vs) (hglt:SV.ltL H.nxt (z2t g m)) (hgs:∀s∈z2t g m,s.scalar=true):
  ∃w',(storeCells ⟨L.blk,L.off+o*L.sz,none⟩ vs).run X.P w= .ok () w'∧St X β ⟨H.nxt,setO H.os id kk (.row {r with f:=z5i r.f o m g})⟩ w'∧w.heap.size≤w'.heap.size∧∀b,b≠L.blk→w'.heap[b]? =w.heap[b]? :=by
 rcases hS.holds _ _ _ hl with⟨h0,_⟩|⟨L',hq,h1,h2,h3,h4⟩
 ·omega
 ·rw[hb] at hq
  cases hq
  obtain⟨hoff,hncap,hmax,cur,hcur,hcs⟩:=h4 hown;have hfit0:(o+m)*r.sz≤L.cap*r.sz:=Nat.mul_le_mul_right _ (by omega);rw[Nat.add_mul] at hfit0
  have hst:=run_storeCells_at X.P L.blk (L.off+o*L.sz) r.e vs 0 cur w hcur (by rw[h1,hoff,hvs];simp;omega) (fun u hu=>by
   obtain⟨q,hq⟩:=List.getElem?_of_mem hu
   obtain⟨s,hs⟩:∃s,(z2t g m)[q]? =some s:=by
    have h5:q<vs.length:=(List.getElem?_eq_some_iff.1 hq).1;have h6:=z27 hgd;exact⟨_,List.getElem?_eq_getElem (by omega)⟩
   obtain⟨u',hu',hd'⟩:=z3z hgd q s hs;rw[hq] at hu'
   cases hu'
   exact den_scalar (hgs s (List.mem_of_getElem? hs)) hd')
  simp only[Nat.add_zero] at hst
  let p:=L.off+o*L.sz
  let cur':Array Value:=(cur.toList.take p++vs++cur.toList.drop (p+vs.length)).toArray
  have hspl:cur'.toList=spl cur.toList p vs:=rfl;have hofit:p+vs.length≤cur.toList.length:=by simp only[p,Array.length_toList];rw[h1,hoff,hvs,hcs];omega
  have hcur':cur'.size=cur.size:=by
   have:=spl_length cur.toList p vs hofit;rw[←hspl] at this;simpa using this
  have hget:∀q:Nat,cur'[q]? =if p≤q∧q<p+vs.length then vs[q-p]? else cur[q]? :=fun q=>by
   have:=spl_get cur.toList p vs q hofit;rw[←hspl] at this;simpa using this
  have hheap:=setRow_heap w L.blk cur cur' r.e (0,0) hcur;refine⟨w.setRow L.blk cur',hst,?_,by simp[World.setRow],fun b hbne=>setRow_other w L.blk b _ hbne⟩;refine St.upd hS hl hown hb (o':= .row {r with f:=z5i r.f o m g}) hown (z2v _ _ _ _ _ hl) ⟨rfl,rfl,rfl,rfl,by simp[World.setRow],fun b hbne=>setRow_other w L.blk b _ hbne⟩ ?_ ?_
  ·refine .inr ⟨L,rfl,h1,by simpa [World.setRow] using h2,fun i hi=> ?_,fun _=>⟨hoff,hncap,hmax,cur',hheap,by rw[hcur'];exact hcs⟩⟩;have hcell:∀q:Nat,(w.setRow L.blk cur').cell? ⟨L.blk,q,none⟩=cur'[q]? :=fun q=>by simp[World.cell?,hheap]
   have hcell0:∀q:Nat,w.cell? ⟨L.blk,q,none⟩=cur[q]? :=fun q=>by simp[World.cell?,hcur]
   have hi':i<r.n:=hi
   by_cases hin:o≤i∧i<o+m
   ·have hio:i-o<m:=by omega
    have hov:z5i r.f o m g i=g (i-o):=by unfold z5i;rw[if_pos hin]
    simp only[hov];refine⟨hgl _ hio,fun j s hs=> ?_⟩
    have hj:j<r.sz:=by
     have:=(List.getElem?_eq_some_iff.1 hs).1;rw[hgl _ hio] at this;exact this
    have hs2:(z2t g m)[(i-o)*r.sz+j]? =some s:=by rw[←flatS_get hgl (i-o) hio j hj];exact hs
    obtain⟨u,hu,hud⟩:=z3z hgd _ s hs2;refine⟨hgs s (List.mem_of_getElem? hs2),u,?_,hud⟩;have e1:i*r.sz=o*r.sz+(i-o)*r.sz:=by rw[←Nat.add_mul];congr 1;omega
    have e2:(i-o)*r.sz+r.sz≤m*r.sz:=by
     have:=Nat.mul_le_mul_right r.sz (show i-o+1≤m by omega);rw[Nat.add_mul,Nat.one_mul] at this;exact this
    rw[hcell,hget,if_pos (by simp only[p];rw[h1,hvs];omega)];rw[←hu];congr 1;simp only[p];rw[h1];omega
   ·have hov:z5i r.f o m g i=r.f i:=by unfold z5i;rw[if_neg hin]
    simp only[hov];refine⟨(h3 i hi').1,fun j s hs=> ?_⟩;obtain⟨h5,u,hu,hud⟩:=(h3 i hi').2 j s hs;refine⟨h5,u,?_,hud⟩
    have hj:j<r.sz:=by
     have:=(List.getElem?_eq_some_iff.1 hs).1;rw[(h3 i hi').1] at this;exact this
    rw[hcell,hget,if_neg ?_,←hcell0]
    ·exact hu
    ·rintro⟨q1,q2⟩;simp only[p] at q1 q2;rw[h1] at q1 q2;rw[hvs] at q2
     by_cases hlt:i<o
     ·have:=Nat.mul_le_mul_right r.sz (show i+1≤o by omega);rw[Nat.add_mul,Nat.one_mul] at this;omega
     ·have:=Nat.mul_le_mul_right r.sz (show o+m≤i by omega);rw[Nat.add_mul] at this;omega
  ·intro i j s hi hs;have hs':(z5i r.f o m g i)[j]? =some s:=hs;unfold z5i at hs'
   split at hs'
   ·rename_i hin
    have hj:j<r.sz:=by
     have:=(List.getElem?_eq_some_iff.1 hs').1;rw[hgl _ (by omega)] at this;exact this
    have hs2:(z2t g m)[(i-o)*r.sz+j]? =some s:=by rw[←flatS_get hgl (i-o) (by omega) j hj];exact hs'
    exact SV.ltL_get hglt _ s hs2
   ·exact(hS.lt _ _ _ hl).2 i j s hi hs'
theorem over_none {X:Cx}{β:Env}{H:AH}{w:World}(hS:St X β H w){id kk:Nat}{r:Row}(hl:look H.os id kk=some (.row r)){o:Nat}{g:Nat→List SV}:St X β ⟨H.nxt,setO H.os id kk (.row {r with f:=z5i r.f o 0 g})⟩ w:=by
 have e:({r with f:=z5i r.f o 0 g}:Row)=r:=by
  have:z5i r.f o 0 g=r.f:=by funext q;unfold z5i;rw[if_neg (by omega)]
  rw[this]
 rw[e];have hm:=setO_same hl;exact St.less hS rfl (fun id' k' o' h=>by rw[hm] at h;exact h) (fun id' k' o' _ h _=>by rw[hm];exact h)
def copyK (P:Program)(H:AH)(dr:Bool)(W:List Nat)(t:TypeId)(sd ss:SV)(k:SV→AH→Prop):Prop:=
 match(z1l P t).kd with
 |.slice e=>
  ((z1l P t).ok=true∧z29 P e≠0)∧
  srcK H (z29 P e) ss fun m g=>
   match sd with
   |.slc _ id kk o n=>
    match find H.os id with
    |some (c,F)=>
     match F kk with
     |.row r=>(r.own=true∧kk<c∧(dr=true→W.contains id=true)∧o+n≤r.n∧r.sz=z29 P e)∧
       k (.int .i64 (min m n:Nat)) ⟨H.nxt,setO H.os id kk (.row {r with f:=z5i r.f o (min m n) g})⟩
     |_=>False
    |none=>False
   |_=>False
 |_=>False
theorem flatS_take {g:Nat→List SV}{sz m:Nat}(h:∀i,i<m→(g i).length=sz):∀q,q≤m→z2t g q=(z2t g m).take (q*sz):=by
  induction m with
  | zero => intro q hq; have : q = 0 := by omega
            subst this;simp[z2t]
  |succ m ih=>
    intro q hq;have hm:=z48 (sz:=sz) (n:=m) fun i hi=>h i (by omega)
    by_cases e:q=m+1
    · subst e;rw[List.take_of_length_le];rw[z48 h];exact Nat.le_refl _
    · simp only[z2t];rw[List.take_append_of_le_length (by rw[hm];exact Nat.mul_le_mul_right _ (by omega))];exact ih (fun i hi=>h i (by omega)) q (by omega)
theorem copyK_ok {X : Cx} {β : Env} {H : AH} {w : World} (hS : St X β H w) {dr : Bool} {W : List Nat} {t t' ty : TypeId} {sd ss : SV} {vd vs : Value} {k : SV → AH → Prop} (h : copyK X.P H dr W t sd ss k) (hd : den β sd vd) (hs : den β ss vs) :
    ∃v' w',(Builtin.copy_ #[t,t'] ty #[vd,vs]).run X.P w= .ok v' w'∧Aft X β H w k v' w'∧(dr=true→Kp w (inW β H W) w'):=by
  unfold copyK at h
  split at h
  · rename_i e hkd;obtain⟨⟨hok,hsz⟩,h⟩:=h;obtain⟨m,g,a,c,news,h2,rfl,hna,hnl,hnews,hnd,hnlt,hnsc,hgl⟩:=srcK_ok hS h hs;clear h;obtain⟨inf,d,e1,e2,e3⟩:=z1h hok;rw[e3] at hkd;have hk2:=z2l hkd;subst hk2;obtain⟨ei,hei,hei2⟩:=z3t hsz
    split at h2
    · rename_i gg id kk o n
      split at h2
      · rename_i cc F hf
        split at h2
        · rename_i r hr;obtain⟨⟨hown,hkk,hW,hon,hrsz⟩,hk⟩:=h2;have hl:=zt hf hkk;rw[hr] at hl;simp only[den] at hd;obtain⟨ad,cap,rfl,hnc⟩:=z3k hd;have hmin:Nat.min m n=min m n:=rfl
          --what is read
          have hread:(Builtin.firstCells ei.size (min m n) (.slice a m c)).run X.P w= .ok (news.take (min m n*ei.size)).toArray w:=by
            cases a with
            |none=>
              have hm0:=hna rfl;subst hm0;have:news=[]:=List.eq_nil_of_length_eq_zero (by rw[hnl];simp);subst this;simp[Builtin.firstCells]
            |some b=>
              have hlen:(news.take (min m n*ei.size)).length=min m n*ei.size:=by
                rw[List.length_take,hnl,←hei2];have:=Nat.mul_le_mul_right ei.size (show min m n≤m by omega);omega
              have:=run_loadCells_list (P:=X.P) w b (news.take (min m n*ei.size)) (fun j v hj=>by
                rw[List.getElem?_take] at hj
                split at hj
                · exact hnews b rfl j v hj
                · cases hj)
              rw[hlen] at this;simpa [Builtin.firstCells] using this
          have hsub:∀(i j:Nat),True:=fun _ _=>trivial
          by_cases h0:min m n=0
          · --nothing is written
            rw[h0] at hk hread;refine⟨goInt 0,w,?_,⟨β,_,_,hk,by simp only[den];rfl,trivial,over_none hS hl,Env.agree.refl _ _,Nat.le_refl _,fun id' k' o' _ hl' ho'=> ?_⟩,fun _=>Kp.refl _ _⟩
            · have hst:∀A:Addr,(storeCells A (#[]:Array Value).toList 0).run X.P w= .ok () w:=fun A=>by simp[storeCells]
              cases ad with
              |none=>simp[Builtin.copy_,run_underlying e2,Builtin.lenOf,z1u hei,h0,hread,hmin]
              |some A=>simp[Builtin.copy_,run_underlying e2,Builtin.lenOf,z1u hei,h0,hread,hmin,storeCells]
            · rw[setO_same (o:= .row {r with f:=z5i r.f o 0 g})] at hl'
              · exact⟨_,hl',ho'⟩
              · have e:({r with f:=z5i r.f o 0 g}:Row)=r:=by
                  have:z5i r.f o 0 g=r.f:=by funext q;unfold z5i;rw[if_neg (by omega)]
                  rw[this]
                rw[e];exact hl
          · obtain⟨L,c1,hb,he⟩:=z4e hd (by omega);simp only[Value.slice.injEq] at he;obtain⟨rfl,_,rfl⟩:=he;have hgl':∀q,q<min m n→(g q).length=r.sz:=fun q hq=>by rw[hrsz];exact hgl q (by omega)
            have htk:=flatS_take hgl (min m n) (by omega)
            obtain ⟨w', hst, hS', hsize, hoth⟩ := over_ok (vs := news.take (min m n * ei.size)) hS hl hown hb (o := o) (m := min m n) (by omega) (by omega) (by
                rw[List.length_take,hnl,hrsz,hei2];have:=Nat.mul_le_mul_right (z29 X.P e) (show min m n≤m by omega)
                omega) hgl' (by rw[htk,←hei2];exact denL_take _ hnd) (by rw[htk];exact ltL_take _ hnlt) (fun s hs=>by rw[htk] at hs;exact hnsc s (List.mem_of_mem_take hs))
            refine⟨.int .i64 ((min m n:Nat):Int),w',?_,⟨β,_,_,hk,by simp only[den],trivial,hS',Env.agree.refl _ _,Nat.le_refl _,fun id' k' o' _ hl' ho'=> ?_⟩,fun hdr=>⟨hsize,fun b hb2 hnb=>hoth b fun he=>hnb ⟨id,kk,.row r,L,by simpa using hW hdr,hl,hown,hb,he.symm⟩⟩⟩
            · simp[Builtin.copy_,run_underlying e2,Builtin.lenOf,z1u hei,hread,hmin,hst,goInt]
            · rw[z2v _ _ _ _ _ hl] at hl'
              split at hl'
              · rename_i he;exact⟨.row r,by rw[he.1,he.2];exact hl,hown⟩
              · exact⟨_,hl',ho'⟩
        · exact h2.elim
      · exact h2.elim
    · exact h2.elim
  · exact h.elim
def clearK (P:Program)(H:AH)(dr:Bool)(W:List Nat)(t:TypeId)(ss:SV)(k:SV→AH→Prop):Prop:=
 match(z1l P t).kd with
 |.slice e=>
  match z2x P e with
  |some z=>
   match ss with
   |.slc _ id kk o n=>
    match find H.os id with
    |some (c,F)=>
     match F kk with
     |.row r=>((z1l P t).ok=true∧z29 P e≠0∧z.length=z29 P e∧z.all SV.scalar=true∧r.own=true∧kk<c∧(dr=true→W.contains id=true)∧o+n≤r.n∧r.sz=z29 P e)∧
       k (.tup []) ⟨H.nxt,setO H.os id kk (.row {r with f:=z5i r.f o n (fun _=>z)})⟩
     |_=>False
    |none=>False
   |_=>False
  |none=>False
 |_=>False
theorem flatS_const (z:List SV):∀n,z2t (fun _=>z) n=replZ z n
 |0=>rfl
 |n+1=>by
  have h:∀n,replZ z n++z=z++replZ z n:=fun n=>by
   induction n with
   |zero=>simp[replZ]
   |succ n ih=>simp only[replZ];rw[List.append_assoc,ih]
  simp only[z2t,replZ];rw[flatS_const z n,h]
theorem clearK_ok {X:Cx}{β:Env}{H:AH}{w:World}(hS:St X β H w){dr:Bool}{W:List Nat}{t ty:TypeId}{ss:SV}{vs:Value}{k:SV→AH→Prop}(h:clearK X.P H dr W t ss k)(hs:den β ss vs):
  ∃v' w',(Builtin.clear_ #[t] ty #[vs]).run X.P w= .ok v' w'∧Aft X β H w k v' w'∧(dr=true→Kp w (inW β H W) w'):=by
 unfold clearK at h
 split at h
 ·rename_i e hkd
  split at h
  ·rename_i z hz
   split at h
   ·rename_i gg id kk o n
    split at h
    ·rename_i cc F hf
     split at h
     ·rename_i r hr;obtain⟨⟨hok,hsz,hzl,hzs,hown,hkk,hW,hon,hrsz⟩,hk⟩:=h;have hl:=zt hf hkk;rw[hr] at hl;obtain⟨inf,d,e1,e2,e3⟩:=z1h hok;rw[e3] at hkd;have hk2:=z2l hkd;subst hk2;obtain⟨zv,hzv,hzz⟩:=zeroOf_run hz;simp only[den] at hs;obtain⟨ad,cap,rfl,hnc⟩:=z3k hs
      by_cases h0:n=0
      ·subst h0;refine⟨.tuple #[],w,?_,⟨β,_,_,hk,by simp only[den];exact⟨[],rfl,rfl⟩,trivial,over_none hS hl,Env.agree.refl _ _,Nat.le_refl _,fun id' k' o' _ hl' ho'=> ?_⟩,fun _=>Kp.refl _ _⟩
       ·cases ad<;>simp[Builtin.clear_,run_underlying e2]
       ·have e:({r with f:=z5i r.f o 0 fun _=>z}:Row)=r:=by
         have:z5i r.f o 0 (fun _=>z)=r.f:=by funext q;unfold z5i;rw[if_neg (by omega)]
         rw[this]
        rw[e,setO_same hl] at hl';exact⟨_,hl',ho'⟩
      ·obtain⟨L,c1,hb,he⟩:=z4e hs (by omega);simp only[Value.slice.injEq] at he;obtain⟨rfl,_,rfl⟩:=he;have hzc:zv.cells.size=z.length:=by rw[hzz];simp
       have hcells:z2t (fun _=>z) n=(Builtin.zeroCells zv.cells n).toList.map z1t:=by
        rw[flatS_const,hzz,replZ_eq _ _ (by rw[←hzz];omega)]
        congr 1
        simp[Builtin.zeroCells,List.getD,Array.getElem!_eq_getD,Array.getD_eq_getD_getElem?]
       have hden:z2h β (z2t (fun _=>z) n) (Builtin.zeroCells zv.cells n).toList:=by rw[hcells];exact z3r β _
       have hlt:SV.ltL H.nxt (z2t (fun _=>z) n):=by rw[hcells];exact z4c _ _
       obtain⟨w',hst,hS',hsize,hoth⟩:=over_ok hS hl hown hb (o:=o) (m:=n) (g:=fun _=>z) (vs:=(Builtin.zeroCells zv.cells n).toList) hon (by omega) (by simp[Builtin.zeroCells];rw[hzc,hzl,hrsz]) (fun _ _=>by rw[hzl,hrsz]) hden hlt (fun s hs=>by
        rw[flatS_const] at hs
        exact List.all_eq_true.1 hzs s (replZ_mem z n s hs))
       refine⟨.tuple #[],w',?_,⟨β,_,_,hk,by simp only[den];exact⟨[],rfl,rfl⟩,trivial,hS',Env.agree.refl _ _,Nat.le_refl _,fun id' k' o' _ hl' ho'=> ?_⟩,fun hdr=>⟨hsize,fun b hb2 hnb=>hoth b fun he=>hnb ⟨id,kk,.row r,L,by simpa using hW hdr,hl,hown,hb,he.symm⟩⟩⟩
       ·obtain⟨n',rfl⟩:∃n',n=n'+1:=⟨n-1,by omega⟩;simp[Builtin.clear_,run_underlying e2,hzv w,hst]
       ·rw[z2v _ _ _ _ _ hl] at hl'
        split at hl'
        ·rename_i he;exact⟨.row r,by rw[he.1,he.2];exact hl,hown⟩
        ·exact⟨_,hl',ho'⟩
     ·exact h.elim
    ·exact h.elim
   ·exact h.elim
  ·exact h.elim
 ·exact h.elim
end Go.Sk

namespace Go.Sk
open Go.RowKit
def z5c.ofKd:Kd→Option z5c
 |.int .i64=>some (.ints [])
 |.string=>some (.strs [])
 |_=>none
def z5c.has:z5c→SV→Option Bool
 |.ints l,.int .i64 n=>some (l.contains n)
 |.strs l,.str s=>some (l.any (· ==s))
 |_,_=>none
def z5c.add:z5c→SV→Option z5c
 |.ints l,.int .i64 n=>some (.ints (if l.contains n then l else l++[n]))
 |.strs l,.str s=>some (.strs (if l.any (· ==s) then l else l++[s]))
 |_,_=>none
def z5c.okKd:z5c→Kd→Bool
 |.ints _,.int .i64=>true
 |.strs _,.string=>true
 |_,_=>false
def zeroB (P:Program)(t:TypeId):Bool:=match(P.info? t).bind (·.zero) with
 |some (.bool false)=>true
 |_=>false
def zeroS (P:Program)(t:TypeId):Option SV:=((P.info? t).bind (·.zero)).map ofConst
theorem zeroS_run {P:Program}{t:TypeId}{s:SV}(h:zeroS P t=some s):∃z,(∀w,(zeroValue t).run P w= .ok z w)∧s=ofConst z:=by
 unfold zeroS at h
 cases hi:P.info? t with
 |none=>simp[hi] at h
 |some i=>
  cases hz:i.zero with
  |none=>simp[hi,hz] at h
  |some z=>
   simp[hi,hz] at h;exact⟨z,fun w=>by simp[zeroValue,typeInfo,hi,hz],h.symm⟩
def KeyT (P:Program)(kt:TypeId):Prop:=
 P.underlying kt=some (.struct (P.fieldsOf kt))∧P.stoodInHeld kt=false∧∃f0 f1:Field,P.fieldsOf kt= #[f0,f1]∧f0.name≠ "_" ∧f1.name≠ "_" ∧f0.offset=0∧f1.offset=1∧
  P.underlying f0.type=some (.int .i64)∧P.underlying f1.type=some (.int .u32)
theorem plain_int {P:Program}{t:TypeId}{k:IntKind}(h:P.underlying t=some (.int k)):P.plainKey t=true:=by
 unfold Program.plainKey;rw[h]
theorem KeyT.chk {P:Program}{kt:TypeId}(h:KeyT P kt)(em:Bool)(a b:Int)(w:World):(Instr.checkKey em 10000 kt (.agg #[.int .i64 a,.int .u32 b])).run P w= .ok () w:=by
 obtain⟨h1,h2,f0,f1,h3,n0,n1,o0,o1,u0,u1⟩:=h;rw[h3] at h1;have p0:=run_part_plain w (plain_int u0) (xs:= #[.int .i64 a,.int .u32 b]) (off:=0) (v:= .int .i64 a) rfl;have p1:=run_part_plain w (plain_int u1) (xs:= #[.int .i64 a,.int .u32 b]) (off:=1) (v:= .int .u32 b) rfl;have c0:(Instr.checkKey em 9999 f0.type (.int .i64 a)).run P w= .ok () w:=MapKept.run_checkKey u0 (by simp[MapKept.IsKey]) em 9998;have c1:(Instr.checkKey em 9999 f1.type (.int .u32 b)).run P w= .ok () w:=MapKept.run_checkKey u1 (by simp[MapKept.IsKey]) em 9998;unfold Instr.checkKey;simp[run_underlying h1,n0,n1,o0,o1,p0,p1,c0,c1]
theorem KeyT.eq {P:Program}{kt:TypeId}(h:KeyT P kt)(a b a' b':Int)(w:World):(Op.equal kt (.agg #[.int .i64 a,.int .u32 b]) (.agg #[.int .i64 a',.int .u32 b'])).run P w= .ok (a==a' && b==b') w:=by
 obtain⟨h1,h2,f0,f1,h3,n0,n1,o0,o1,u0,u1⟩:=h;have p0:=fun x y=>run_part_plain w (plain_int u0) (xs:= #[.int .i64 x,.int .u32 y]) (off:=0) (v:= .int .i64 x) rfl;have p1:=fun x y=>run_part_plain w (plain_int u1) (xs:= #[.int .i64 x,.int .u32 y]) (off:=1) (v:= .int .u32 y) rfl;have c0:=run_equalIn_int w 9998 f0.type .i64 .i64 a a' u0;have c1:=run_equalIn_int w 9998 f1.type .u32 .u32 b b' u1;have:=run_equalIn_struct w 9999 kt #[.int .i64 a,.int .u32 b] #[.int .i64 a',.int .u32 b'] h1 h2;refine Eq.trans this ?_;rw[h3];simp only[Op.eqFields,Sem.run_bind,Sem.run_ite,n0,n1,o0,o1,p0,p1,ne_eq,not_false_eq_true,if_true,Result.andThen_ok];rw[c0]
 cases a==a'
 ·simp
 ·simp only[Result.andThen_ok,Bool.not_true,Bool.false_eq_true,if_false,Sem.run_bind,p1];rw[c1]
  cases b==b'<;>simp
theorem prs_find {P:Program}{kt:TypeId}(h:KeyT P kt)(a b:Int):∀(l:List MapEntry) (i:Nat),(∀x∈l,∃a' b',x.key= .agg #[.int .i64 a',.int .u32 b'])→
  ((∀w,(Instr.findAsking kt (.agg #[.int .i64 a,.int .u32 b]) l i).run P w= .ok none w)∧∀x∈l,x.key≠ .agg #[.int .i64 a,.int .u32 b])∨
   ∃j e,(∀w,(Instr.findAsking kt (.agg #[.int .i64 a,.int .u32 b]) l i).run P w= .ok (some (i+j,e.val)) w)∧l[j]? =some e∧e.key= .agg #[.int .i64 a,.int .u32 b]
 |[],_,_=> .inl ⟨fun w=>by simp[Instr.findAsking],fun x hx=>by cases hx⟩
 |e::es,i,hl=>by
  obtain⟨a',b',he⟩:=hl e (.head _);have hq:=fun w=>h.eq a b a' b' w
  by_cases hc:a=a'∧b=b'
  ·obtain⟨rfl,rfl⟩:=hc;exact .inr ⟨0,e,fun w=>by simp[Instr.findAsking,he,hq],rfl,he⟩
  ·have hf:(a==a' && b==b')=false:=by
    rw[Bool.eq_false_iff];intro g;simp only[Bool.and_eq_true,beq_iff_eq] at g;exact hc g
   have hne:e.key≠ .agg #[.int .i64 a,.int .u32 b]:=fun g=>by
    rw[he] at g;simp only[Value.agg.injEq,Array.mk.injEq,List.cons.injEq,Value.int.injEq,true_and,and_true] at g;exact hc ⟨g.1.symm,g.2.symm⟩
   rcases prs_find h a b es (i+1) (fun x hx=>hl x (.tail _ hx)) with⟨h1,h2⟩|⟨j,e',h1,h2,h3⟩
   ·exact .inl ⟨fun w=>by simp[Instr.findAsking,he,hq,hf,h1],fun x hx=>by
     cases hx with
     |head=>exact hne
     |tail _ hx=>exact h2 x hx⟩
   ·exact .inr ⟨j+1,e',fun w=>by simp[Instr.findAsking,he,hq,hf,h1];omega,by simpa using h2,h3⟩
def z2z.ofKd (z:SV):Kd→Option z2z
 |.int .i64=>some (.ints 0 (fun _=>false) (fun _=>z) z)
 |.struct=>some (.prs 0 (fun _ _=>false) (fun _ _=>z) z)
 |_=>none
def z2z.get:z2z→SV→Option (Bool×SV)
 |.ints _ h g _,.int .i64 a=>some (h a,g a)
 |.prs _ h g _,.agg [.int .i64 a,.int .u32 b]=>some (h a b,g a b)
 |_,_=>none
def z2z.put:z2z→SV→SV→Option z2z
 |.ints n h g z,.int .i64 a,s=>some (.ints (if h a then n else n+1) (fun x=>x==a||h x) (fun x=>if x=a then s else g x) z)
 |.prs n h g z,.agg [.int .i64 a,.int .u32 b],s=>some (.prs (if h a b then n else n+1) (fun x y=>(x==a && y==b)||h x y) (fun x y=>if x=a∧y=b then s else g x y) z)
 |_,_,_=>none
def z2z.okKd:z2z→Kd→Bool
 |.ints ..,.int .i64=>true
 |.prs ..,.struct=>true
 |_,_=>false
def z2z.okP (P:Program)(kt:TypeId):z2z→Prop
 |.ints .. =>True
 |.prs .. =>KeyT P kt
def mmapK (P:Program)(H:AH)(t:TypeId)(k:SV→AH→Prop):Prop:=
 match(z1l P t).kd with
 |.map kt et=>
  match(z1l P et).kd with
  |.bool=>
   match z5c.ofKd (z1l P kt).kd with
   |some ks=>(z1l P t).ok=true∧k (.mp H.nxt 0) ⟨H.nxt+1,(H.nxt,uQ (.blk true ks))::H.os⟩
   |none=>False
  |_=>
   match zeroS P et with
   |some z=>
    match z2z.ofKd z (z1l P kt).kd with
    |some M=>(z1l P t).ok=true∧k (.mp H.nxt 0) ⟨H.nxt+1,(H.nxt,uQ (.mapo true M))::H.os⟩
    |none=>False
   |none=>False
 |_=>False
theorem ofKd_set {d:Kd}{ks:z5c}(h:z5c.ofKd d=some ks):IsSet ks (.map #[] 0):=by
 unfold z5c.ofKd at h
 split at h
 ·cases h;exact⟨#[],0,rfl,rfl,fun e he=>by simp at he⟩
 ·cases h;exact⟨#[],0,rfl,rfl,fun e he=>by simp at he⟩
 ·cases h
theorem mmapK_ok {X:Cx}{β:Env}{H:AH}{w:World}(hS:St X β H w){t:TypeId}{r:Option Value}(hr:r=none∨∃kd n,r=some (.int kd n)){k:SV→AH→Prop}(h:mmapK X.P H t k):
  ∃v w',(Instr.makeMap t r).run X.P w= .ok v w'∧Aft X β H w k v w'∧Blw w.heap.size w w':=by
 have main:∀(o:Obj) (kt et:TypeId),(z1l X.P t).kd= .map kt et→(z1l X.P t).ok=true→(∀β',o.holds β' (w.alloc (.map #[] 0)) (some ⟨w.heap.size,0,0,0⟩))→o.lt (H.nxt+1)→k (.mp H.nxt 0) ⟨H.nxt+1,(H.nxt,uQ o)::H.os⟩→∃v w',(Instr.makeMap t r).run X.P w= .ok v w'∧Aft X β H w k v w'∧Blw w.heap.size w w':=by
  intro o kt et hkd hok hh hlt hk;obtain⟨inf,d,e1,e2,e3⟩:=z1h hok;rw[e3] at hkd;have:=kdOf_map hkd;subst this;refine⟨.map (some w.heap.size),w.alloc (.map #[] 0),?_,?_,(Blw.refl _ w).alloc (Nat.le_refl _) _⟩
  ·rcases hr with rfl|⟨kd,n,rfl⟩
   ·simp only[Instr.makeMap,Sem.run_bind,Sem.run_pure,run_newObj,Result.andThen_ok]
    rfl
   ·simp[Instr.makeMap,run_underlying e2,asInt,asIntOf,run_newObj]
  ·have hag:=Env.agree_set β H.nxt (fun _=>some ⟨w.heap.size,0,0,0⟩);refine⟨β.set H.nxt (fun _=>some ⟨w.heap.size,0,0,0⟩),.mp H.nxt 0,_,hk,?_,Nat.lt_succ_self _,?_,hag,Nat.le_succ _,sub_cons _ _ _ fun _ _ _ h=>h⟩
   ·simp only[den];exact⟨_,by unfold Env.set;rw[if_pos rfl],rfl⟩
   ·exact St.new hS ((Blw.refl _ w).alloc (Nat.le_refl _) _) (fun k L _ he=>by cases he;exact Nat.le_refl _) (fun k k' _ _ h h' _ _ _=>by omega) (fun k _=>hh _) (fun k _=>hlt)
 unfold mmapK at h
 split at h
 ·rename_i kt et hkd
  split at h
  ·split at h
   ·rename_i ks hks;obtain⟨hok,hk⟩:=h;exact main (.blk true ks) kt et hkd hok (fun _=>⟨_,_,rfl,heap_alloc_new w _,ofKd_set hks⟩) trivial hk
   ·exact h.elim
  ·split at h
   ·rename_i z hz
    split at h
    ·rename_i M hM;obtain⟨hok,hk⟩:=h;obtain⟨z0,_,hz0⟩:=zeroS_run hz;unfold z2z.ofKd at hM
     split at hM
     ·cases hM
      refine main (.mapo true (.ints 0 (fun _=>false) (fun _=>z) z)) kt et hkd hok (fun _=>⟨_,_,rfl,heap_alloc_new w _,#[],0,rfl,rfl,List.nodup_nil,fun k=> ?_,fun e he=>by simp at he,fun k _ v hv=> ?_⟩) ⟨?_,fun v=> ?_⟩ hk
      ·simp only[z2z.has];split<;>simp
      ·simp only[z2z.val];split<;>exact hv
      ·rw[hz0];exact ofConst_lt _ _
      ·simp only[z2z.val];split<;>(rw[hz0];exact ofConst_lt _ _)
     ·cases hM
      refine main (.mapo true (.prs 0 (fun _ _=>false) (fun _ _=>z) z)) kt et hkd hok (fun _=>⟨_,_,rfl,heap_alloc_new w _,#[],0,rfl,rfl,List.nodup_nil,fun k=> ?_,fun e he=>by simp at he,fun k _ v hv=> ?_⟩) ⟨?_,fun v=> ?_⟩ hk
      ·simp only[z2z.has];split<;>simp
      ·simp only[z2z.val];split<;>exact hv
      ·rw[hz0];exact ofConst_lt _ _
      ·simp only[z2z.val];split<;>(rw[hz0];exact ofConst_lt _ _)
     ·cases hM
    ·exact h.elim
   ·exact h.elim
 ·exact h.elim
def mputK (P:Program)(H:AH)(dr:Bool)(W:List Nat)(t:TypeId)(sm sk sv:SV)(k:SV→AH→Prop):Prop:=
 match sm with
 |.mp id kk=>
  match find H.os id,(z1l P t).kd with
  |some (c,F),.map kt _=>
   match F kk with
   |.blk own ks=>
    match z5c.add ks sk,sv with
    |some ks',.bool b=>(b=true∧own=true∧kk<c∧(dr=true→W.contains id=true)∧(z1l P t).ok=true∧(z1l P kt).ok=true∧ks.okKd (z1l P kt).kd=true)∧
      k (.raw undef) ⟨H.nxt,setO H.os id kk (.blk own ks')⟩
    |_,_=>False
   |.mapo own M=>
    match z2z.put M sk sv with
    |some M'=>(own=true∧kk<c∧(dr=true→W.contains id=true)∧(z1l P t).ok=true∧(z1l P kt).ok=true∧M.okKd (z1l P kt).kd=true∧M.okP P kt)∧
      k (.raw undef) ⟨H.nxt,setO H.os id kk (.mapo own M')⟩
    |none=>False
   |_=>False
  |_,_=>False
 |_=>False
def mlookK (P:Program)(H:AH)(t:TypeId)(sm sk:SV)(ok:Bool)(k:SV→AH→Prop):Prop:=
 match sm with
 |.mp id kk=>
  match find H.os id,(z1l P t).kd with
  |some (c,F),.map kt et=>
   match F kk with
   |.blk _ ks=>
    match z5c.has ks sk with
    |some b=>(ok=false∧kk<c∧(z1l P t).ok=true∧(z1l P kt).ok=true∧ks.okKd (z1l P kt).kd=true∧zeroB P et=true)∧k (.bool b) H
    |none=>False
   |.mapo _ M=>
    match z2z.get M sk with
    |some (b,s)=>(kk<c∧(z1l P t).ok=true∧(z1l P kt).ok=true∧M.okKd (z1l P kt).kd=true∧M.okP P kt∧zeroS P et=some M.z)∧k (if ok then .tup [s,.bool b] else s) H
    |none=>False
   |_=>False
  |_,_=>False
 |_=>False
theorem key_find {P : Program} {kt : TypeId} {ks : z5c} {sk : SV} {b : Bool} (hh : z5c.has ks sk = some b) (hok : (z1l P kt).ok = true) (hkd : ks.okKd (z1l P kt).kd = true) {β : Env} {vk : Value} (hk : den β sk vk)
    {es:Array MapEntry} (hes:es.toList.map (·.key)=ks.vals):
    (∃d,P.underlying kt=some d∧MapKept.IsKey d vk∧((b=false∧Instr.findNow d vk es.toList 0=some none)∨(b=true∧∃j e,Instr.findNow d vk es.toList 0=some (some (j,e.val))∧es[j]? =some e∧e.key=vk)))∧
    ((b=true→z5c.add ks sk=some ks)∧(b=false→∃ks',z5c.add ks sk=some ks'∧ks'.vals=ks.vals++[vk])):=by
  obtain⟨inf,d,e1,e2,e3⟩:=z1h hok;rw[e3] at hkd
  have key : ∀ (hisk : MapKept.IsKey d vk) (hall : ∀ x ∈ es.toList, MapKept.IsKey d x.key) (hb : b = true ↔ vk ∈ ks.vals),
      (b=false∧Instr.findNow d vk es.toList 0=some none)∨(b=true∧∃j e,Instr.findNow d vk es.toList 0=some (some (j,e.val))∧es[j]? =some e∧e.key=vk):=fun hisk hall hb=>by
    rcases MapKept.findNow_spec hisk es.toList 0 hall with⟨h1,h2⟩|⟨j,e,h1,h2,h3⟩
    · refine .inl ⟨?_,h1⟩
      cases b with
      |false=>rfl
      |true=>
        have:=hb.1 rfl;rw[←hes] at this;obtain⟨x,hx,he⟩:=List.mem_map.1 this;exact absurd he (h2 x hx)
    · refine .inr ⟨hb.2 ?_,j,e,by simpa using h1,by simpa using h2,h3⟩;rw[←hes,←h3];exact List.mem_map.2 ⟨e,List.mem_of_getElem? h2,rfl⟩
  cases ks with
  |ints l=>
    unfold z5c.has at hh
    split at hh
    · rename_i l' n heq
      cases heq
      cases hh
      simp only[den] at hk;subst hk
      have hd:∃kd,d= .int kd:=by
        simp only[z5c.okKd] at hkd
        cases d<;>simp[kdOf] at hkd
        exact⟨_,rfl⟩
      obtain⟨kd,rfl⟩:=hd
      have hkd2:kd= .i64:=by
        simp only[z5c.okKd,kdOf] at hkd
        cases kd<;>simp at hkd
        rfl
      subst hkd2;refine⟨⟨_,e2,by simp[MapKept.IsKey],key (by simp[MapKept.IsKey]) (fun x hx=> ?_) ?_⟩,fun hb=> ?_,fun hb=> ?_⟩
      · have:x.key∈es.toList.map (·.key):=List.mem_map.2 ⟨x,hx,rfl⟩;rw[hes] at this;simp only[z5c.vals] at this;obtain⟨q,_,hq⟩:=List.mem_map.1 this;rw[←hq];simp[MapKept.IsKey]
      · simp[z5c.vals]
      · simp only[z5c.add,hb,if_true]
      · simp only[z5c.add,hb];exact⟨_,rfl,by simp[z5c.vals]⟩
    · cases ‹z5c.ints l=z5c.strs _›
    · cases hh
  |strs l=>
    unfold z5c.has at hh
    split at hh
    · cases ‹z5c.strs l=z5c.ints _›
    · rename_i l' s heq
      cases heq
      cases hh
      simp only[den] at hk;subst hk
      have hd:d= .string:=by
        simp only[z5c.okKd] at hkd
        cases d<;>simp[kdOf] at hkd
        rfl
      subst hd;refine⟨⟨_,e2,by simp[MapKept.IsKey],key (by simp[MapKept.IsKey]) (fun x hx=> ?_) ?_⟩,fun hb=> ?_,fun hb=> ?_⟩
      · have:x.key∈es.toList.map (·.key):=List.mem_map.2 ⟨x,hx,rfl⟩;rw[hes] at this;simp only[z5c.vals] at this;obtain⟨q,_,hq⟩:=List.mem_map.1 this;rw[←hq];simp[MapKept.IsKey]
      · simp only[z5c.vals,List.any_eq_true,MapKept.bytes_beq,List.mem_map,Value.string.injEq]
      · simp only[z5c.add,hb,if_true]
      · simp only[z5c.add,hb];exact⟨_,rfl,by simp[z5c.vals]⟩
    · cases hh
theorem add_has {ks:z5c}{sk:SV}{ks':z5c}(h:z5c.add ks sk=some ks'):∃b,z5c.has ks sk=some b:=by
 unfold z5c.add at h
 split at h
 ·exact⟨_,rfl⟩
 ·exact⟨_,rfl⟩
 ·cases h
structure KOk (P:Program) (kt:TypeId) (M:z2z) (vk:Value) (es:Array MapEntry):Prop where
 chk:∀(em:Bool) (w:World),(Instr.checkKey em 10000 kt vk).run P w= .ok () w
 stays:∀w:World,(Instr.keyThatStays vk vk).run P w= .ok vk w
 find:(M.has vk=false∧∀w:World,(Instr.findKey kt vk es.toList).run P w= .ok none w)∨(M.has vk=true∧∃j e,(∀w:World,(Instr.findKey kt vk es.toList).run P w= .ok (some (j,e.val)) w)∧es[j]? =some e∧e.key=vk)
theorem mapo_find {P:Program}{kt:TypeId}{M:z2z}{sk:SV}{b:Bool}{s:SV}(hh:z2z.get M sk=some (b,s))(hok:(z1l P kt).ok=true)(hkd:M.okKd (z1l P kt).kd=true)(hP:M.okP P kt){β:Env}{vk:Value}(hk:den β sk vk)
  {es:Array MapEntry} (hes:∀k,M.has k=true↔∃e∈es.toList,e.key=k):
  b=M.has vk∧s=M.val vk∧KOk P kt M vk es:=by
 obtain⟨inf,d,e1,e2,e3⟩:=z1h hok;rw[e3] at hkd;unfold z2z.get at hh
 split at hh
 ·rename_i n h g z a
  cases hh
  simp only[den] at hk;subst hk
  have hd:d= .int .i64:=by
   simp only[z2z.okKd] at hkd
   cases d<;>simp[kdOf] at hkd
   rename_i kd
   cases kd<;>simp at hkd
   rfl
  subst hd;have hisk:MapKept.IsKey (.int .i64) (.int .i64 a):=by simp[MapKept.IsKey]
  have hall:∀x∈es.toList,MapKept.IsKey (.int .i64) x.key:=fun x hx=>by
   have:=(hes x.key).2 ⟨x,hx,rfl⟩;simp only[z2z.has] at this
   split at this
   ·rename_i a' hka;unfold keyI at hka
    split at hka
    ·rename_i a2 hka2;rw[hka2];simp[MapKept.IsKey]
    ·cases hka
   ·cases this
  refine⟨rfl,rfl,fun em w=>MapKept.run_checkKey e2 hisk em 9999,fun w=>MapKept.run_keyThatStays hisk,?_⟩;rcases MapKept.findNow_spec hisk es.toList 0 hall with⟨h1,h2⟩|⟨j,e,h1,h2,h3⟩
  ·refine .inl ⟨?_,fun w=>MapKept.run_findKey e2 h1⟩
   cases hb:(z2z.ints n h g z).has (.int .i64 a) with
   |false=>rfl
   |true=>
    obtain⟨x,hx,he⟩:=(hes _).1 hb;exact absurd he (h2 x hx)
  ·exact .inr ⟨(hes _).2 ⟨e,List.mem_of_getElem? h2,h3⟩,j,e,fun w=>by have:=MapKept.run_findKey (P:=P) (w:=w) e2 h1;simpa using this,by simpa using h2,h3⟩
 ·rename_i n h g z a b
  cases hh
  have hk':vk= .agg #[.int .i64 a,.int .u32 b]:=by
   obtain⟨vs,hvs,rfl⟩:=hk;simp only[z2h,den] at hvs;obtain⟨v1,r1,rfl,⟨v2,r2,rfl,rfl,rfl⟩,rfl⟩:=hvs
   rfl
  subst hk'
  have hall:∀x∈es.toList,∃a' b',x.key= .agg #[.int .i64 a',.int .u32 b']:=fun x hx=>by
   have:=(hes x.key).2 ⟨x,hx,rfl⟩;simp only[z2z.has] at this
   split at this
   ·rename_i a' b' hka;unfold keyP at hka
    split at hka
    ·rename_i a2 b2 hka2;exact⟨a2,b2,hka2⟩
    ·cases hka
   ·cases this
  have hfe:=fun w=>run_findKey_eq (P:=P) w (k:=kt) (by rw[hP.1]) (.agg #[.int .i64 a,.int .u32 b]) es.toList;refine⟨rfl,rfl,fun em w=>hP.chk em a b w,fun w=>by simp[Instr.keyThatStays,Instr.sameBits],?_⟩;rcases prs_find hP a b es.toList 0 hall with⟨h1,h2⟩|⟨j,e,h1,h2,h3⟩
  ·refine .inl ⟨?_,fun w=>(hfe w).trans (h1 w)⟩
   cases hb:(z2z.prs n h g z).has (.agg #[.int .i64 a,.int .u32 b]) with
   |false=>rfl
   |true=>
    obtain⟨x,hx,he⟩:=(hes _).1 hb;exact absurd he (h2 x hx)
  ·exact .inr ⟨(hes _).2 ⟨e,List.mem_of_getElem? h2,h3⟩,j,e,fun w=>(hfe w).trans (by simpa using h1 w),by simpa using h2,h3⟩
 ·cases hh
theorem mapo_put {P:Program}{kt:TypeId}{M M':z2z}{sk sv:SV}(hp:z2z.put M sk sv=some M')(hok:(z1l P kt).ok=true)(hkd:M.okKd (z1l P kt).kd=true)(hP:M.okP P kt){β:Env}{vk:Value}(hk:den β sk vk)
  {es:Array MapEntry} (hes:∀k,M.has k=true↔∃e∈es.toList,e.key=k):
  KOk P kt M vk es∧
   M'.n=(if M.has vk then M.n else M.n+1)∧M'.z=M.z∧∀x,(M'.has x=false→x≠vk∧M.has x=false)∧(M'.has x=true↔x=vk∨M.has x=true)∧(x=vk→M'.val x=sv)∧(x≠vk→M'.val x=M.val x):=by
 obtain⟨b,s,hg⟩:∃b s,z2z.get M sk=some (b,s):=by
  unfold z2z.put at hp
  split at hp
  ·exact⟨_,_,rfl⟩
  ·exact⟨_,_,rfl⟩
  ·cases hp
 obtain⟨e0,e1,h3⟩:=mapo_find hg hok hkd hP hk hes;clear e0 e1;refine⟨h3,?_⟩;unfold z2z.put at hp
 split at hp
 ·rename_i n h g z a
  cases hp
  simp only[den] at hk;subst hk;have hko:∀x:Value,keyI x=none→x≠ .int .i64 a:=fun x hx e=>by subst e;cases hx
  have hks:∀(x:Value) (q:Int),keyI x=some q→x= .int .i64 q:=fun x q hx=>by
   unfold keyI at hx
   split at hx
   ·cases hx;rfl
   ·cases hx
  refine⟨rfl,rfl,fun x=> ?_⟩;simp only[z2z.has,z2z.val]
  cases hx:keyI x with
  |none=>
   refine⟨fun _=>⟨hko x hx,rfl⟩,⟨(fun h=>by cases h),fun h=> ?_⟩,fun h=>absurd h (hko x hx),fun _=>rfl⟩;rcases h with h|h
   ·exact absurd h (hko x hx)
   ·cases h
  |some q=>
   have:=hks x q hx;subst this;simp only[Value.int.injEq,true_and];refine⟨fun h=> ?_,?_,fun h=>if_pos h,fun h=>if_neg fun e=>h (by rw[e])⟩
   ·simpa using h
   ·simp
 ·rename_i n h g z a b
  cases hp
  have hk':vk= .agg #[.int .i64 a,.int .u32 b]:=by
   obtain⟨vs,hvs,rfl⟩:=hk;simp only[z2h,den] at hvs;obtain⟨v1,r1,rfl,⟨v2,r2,rfl,rfl,rfl⟩,rfl⟩:=hvs
   rfl
  subst hk';have hko:∀x:Value,keyP x=none→x≠ .agg #[.int .i64 a,.int .u32 b]:=fun x hx e=>by subst e;cases hx
  have hks:∀(x:Value) (q:Int×Int),keyP x=some q→x= .agg #[.int .i64 q.1,.int .u32 q.2]:=fun x q hx=>by
   unfold keyP at hx
   split at hx
   ·cases hx;rfl
   ·cases hx
  refine⟨rfl,rfl,fun x=> ?_⟩;simp only[z2z.has,z2z.val]
  cases hx:keyP x with
  |none=>
   refine⟨fun _=>⟨hko x hx,rfl⟩,⟨(fun h=>by cases h),fun h=> ?_⟩,fun h=>absurd h (hko x hx),fun _=>rfl⟩;rcases h with h|h
   ·exact absurd h (hko x hx)
   ·cases h
  |some q=>
   obtain⟨q1,q2⟩:=q;have:=hks x _ hx;subst this;simp only[Value.agg.injEq,Array.mk.injEq,List.cons.injEq,Value.int.injEq,true_and,and_true];refine⟨fun h=> ?_,?_,fun h=>if_pos h,fun h=>if_neg fun e=>h (by rw[e.1,e.2])⟩
   ·simpa using h
   ·simp
 ·cases hp
theorem mputK_ok {X : Cx} {β : Env} {H : AH} {w : World} (hS : St X β H w) {dr : Bool} {W : List Nat} {t : TypeId} {sm sk sv : SV} {vm vk vv : Value} {k : SV → AH → Prop} (h : mputK X.P H dr W t sm sk sv k)
    (hm:den β sm vm) (hkd:den β sk vk) (hv:den β sv vv) (hlv:sv.lt H.nxt):
    ∃w',(Instr.mapUpdate t vm vk vv).run X.P w= .ok () w'∧Aft X β H w k undef w'∧(dr=true→Kp w (inW β H W) w'):=by
  unfold mputK at h
  split at h
  · rename_i id kk
    split at h
    · rename_i c F kt et hf hkd1
      split at h
      · rename_i own ks hr
        split at h
        · rename_i ks' b0 hadd;obtain⟨⟨rfl,rfl,hkk,hW,hok,hokt,hokd⟩,hk⟩:=h;have hl:=zt hf hkk;rw[hr] at hl;simp only[den] at hm hv;subst hv;obtain⟨L,hb,rfl⟩:=hm;obtain⟨L',bb,hq,hbk,es,clk,rfl,hes,hval⟩:=hS.holds _ _ _ hl;rw[hb] at hq
          cases hq
          obtain⟨inf,d0,e1,e2,e3⟩:=z1h hok;rw[e3] at hkd1;have:=kdOf_map hkd1;subst this;obtain⟨b,hhas⟩:=add_has hadd;obtain⟨⟨d,hd,hisk,hfind⟩,hadd1,hadd2⟩:=key_find hhas hokt hokd hkd hes
          have fin : ∀ o' : Go.Obj, IsSet ks' o' → (Instr.mapUpdate t (.map (some L.blk)) vk (.bool true)).run X.P w = .ok () { w with heap := w.heap.setIfInBounds L.blk o' } →
              ∃w',(Instr.mapUpdate t (.map (some L.blk)) vk (.bool true)).run X.P w= .ok () w'∧Aft X β H w k undef w'∧(dr=true→Kp w (inW β H W) w'):=fun o' hset hrun=>by
            obtain⟨hs1,hs2⟩:=MapKept.heap_set (o':=o') hbk;refine⟨_,hrun,⟨β,.raw undef,_,hk,rfl,trivial,?_,Env.agree.refl _ _,Nat.le_refl _,fun id' k' o1 _ hl' ho'=> ?_⟩,fun hdr=>⟨by simp,fun b' hb2 hnb=>hs2 b' fun he=>hnb ?_⟩⟩
            · refine St.upd hS hl rfl hb (o':= .blk true ks') rfl (z2v _ _ _ _ _ hl) ⟨rfl,rfl,rfl,rfl,by simp,fun b hbne=>hs2 b hbne⟩ ?_ trivial;exact⟨_,_,rfl,hs1,hset⟩
            · rw[z2v _ _ _ _ _ hl] at hl'
              split at hl'
              · rename_i he;exact⟨.blk true ks,by rw[he.1,he.2];exact hl,rfl⟩
              · exact⟨_,hl',ho'⟩
            · have hWc:=hW hdr;exact⟨id,kk,_,L,by simpa using hWc,hl,rfl,hb,he.symm⟩
          rcases hfind with⟨rfl,hfn⟩|⟨rfl,j,e,hfn,hj,hje⟩
          · obtain⟨ks2,h2,h3⟩:=hadd2 rfl;rw[hadd] at h2
            cases h2
            refine fin (.map (es.push ⟨vk,.bool true,clk⟩) (clk+1)) ⟨_,_,rfl,by simp[hes,h3],fun x hx=> ?_⟩ ?_
            · simp only[Array.toList_push,List.mem_append,List.mem_singleton] at hx;rcases hx with hx|rfl
              · exact hval x hx
              · rfl
            · simp[Instr.mapUpdate,run_underlying e2,MapKept.run_getObj_map hbk,MapKept.run_checkKey hd hisk,MapKept.run_findKey hd hfn,MapKept.run_setObj_map _ hbk,Result.andThen]
          · have h2:=hadd1 rfl;rw[hadd] at h2
            cases h2
            refine fin (.map (es.modify j (fun e'=>{e' with key:=vk,val:= .bool true})) clk) ⟨_,_,rfl,?_,fun x hx=> ?_⟩ ?_
            · rw[MapKept.modify_keys j _ fun e' he'=>by rw[hj] at he';cases he';exact hje.symm];exact hes
            · obtain⟨q,hq⟩:=List.getElem?_of_mem hx;rw[Array.getElem?_toList,Array.getElem?_modify] at hq
              split at hq
              · rw[Option.map_eq_some_iff] at hq;obtain⟨y,_,rfl⟩:=hq
                rfl
              · exact hval x (by rw[←Array.getElem?_toList] at hq;exact List.mem_of_getElem? hq)
            · simp[Instr.mapUpdate,run_underlying e2,MapKept.run_getObj_map hbk,MapKept.run_checkKey hd hisk,MapKept.run_findKey hd hfn,hj,hje,MapKept.run_keyThatStays hisk,MapKept.run_setObj_map _ hbk,Result.andThen]
        · exact h.elim
      · rename_i own M hr
        split at h
        · rename_i M' hput;obtain⟨⟨rfl,hkk,hW,hok,hokt,hokd,hokP⟩,hk⟩:=h;have hl:=zt hf hkk;rw[hr] at hl;simp only[den] at hm;obtain⟨L,hb,rfl⟩:=hm;obtain⟨L',bb,hq,hbk,es,clk,rfl,hn,hnd,hhas,hval,hzero⟩:=hS.holds _ _ _ hl;rw[hb] at hq
          cases hq
          obtain⟨inf,d0,e1,e2,e3⟩:=z1h hok;rw[e3] at hkd1;have:=kdOf_map hkd1;subst this;obtain⟨hlz,hlval⟩:=(hS.lt _ _ _ hl).2;obtain⟨hK,q1,q2,q3⟩:=mapo_put hput hokt hokd hokP hkd hhas;have hfind:=hK.find
          have fin : ∀ o' : Go.Obj, IsMap M' β o' → (Instr.mapUpdate t (.map (some L.blk)) vk vv).run X.P w = .ok () { w with heap := w.heap.setIfInBounds L.blk o' } →
              ∃w',(Instr.mapUpdate t (.map (some L.blk)) vk vv).run X.P w= .ok () w'∧Aft X β H w k undef w'∧(dr=true→Kp w (inW β H W) w'):=fun o' hset hrun=>by
            obtain⟨hs1,hs2⟩:=MapKept.heap_set (o':=o') hbk;refine⟨_,hrun,⟨β,.raw undef,_,hk,rfl,trivial,?_,Env.agree.refl _ _,Nat.le_refl _,fun id' k' o1 _ hl' ho'=> ?_⟩,fun hdr=>⟨by simp,fun b' hb2 hnb=>hs2 b' fun he=>hnb ?_⟩⟩
            · refine St.upd hS hl rfl hb (o':= .mapo true M') rfl (z2v _ _ _ _ _ hl) ⟨rfl,rfl,rfl,rfl,by simp,fun b hbne=>hs2 b hbne⟩ ?_ ⟨by rw[q2];exact hlz,fun v=> ?_⟩
              · exact⟨_,_,rfl,hs1,hset⟩
              · by_cases e:v=vk
                · rw[(q3 v).2.2.1 e];exact hlv
                · rw[(q3 v).2.2.2 e];exact hlval v
            · rw[z2v _ _ _ _ _ hl] at hl'
              split at hl'
              · rename_i he;exact⟨.mapo true M,by rw[he.1,he.2];exact hl,rfl⟩
              · exact⟨_,hl',ho'⟩
            · have hWc:=hW hdr;exact⟨id,kk,_,L,by simpa using hWc,hl,rfl,hb,he.symm⟩
          have hz':∀k,M'.has k=false→∀v,den β M'.z v→den β (M'.val k) v:=fun k hk v hv=>by
            obtain⟨h1,h2⟩:=(q3 k).1 hk;rw[(q3 k).2.2.2 h1];rw[q2] at hv;exact hzero k h2 v hv
          rcases hfind with⟨hb0,hfn⟩|⟨hb0,j,e,hfn,hj,hje⟩
          · refine fin (.map (es.push ⟨vk,vv,clk⟩) (clk+1)) ⟨_,_,rfl,by rw[Array.size_push,hn,q1,hb0];rfl,?_,fun x=> ?_,fun x hx=> ?_,hz'⟩ ?_
            · rw[Array.toList_push,List.map_append,List.nodup_append];refine⟨hnd,by simp,fun a ha b hb1 hab=> ?_⟩;obtain⟨y,h1,h2⟩:=List.mem_map.1 ha;have hb2:b=vk:=by simpa using hb1
              have:=(hhas vk).2 ⟨y,h1,by rw[h2,hab,hb2]⟩;rw[hb0] at this;cases this
            · rw[(q3 x).2.1,Array.toList_push];simp only[List.mem_append,List.mem_singleton,hhas]
              constructor
              · rintro(rfl|⟨y,h1,h2⟩)
                · exact⟨_,.inr rfl,rfl⟩
                · exact⟨y,.inl h1,h2⟩
              · rintro⟨y,h1|rfl,h2⟩
                · exact .inr ⟨y,h1,h2⟩
                · exact .inl h2.symm
            · simp only[Array.toList_push,List.mem_append,List.mem_singleton] at hx;rcases hx with hx|rfl
              · rw[(q3 _).2.2.2]
                · exact hval x hx
                · intro hh;have:=(hhas vk).2 ⟨x,hx,hh⟩;rw[hb0] at this;cases this
              · rw[(q3 _).2.2.1 rfl];exact hv
            · simp[Instr.mapUpdate,run_underlying e2,MapKept.run_getObj_map hbk,hK.chk,hfn,MapKept.run_setObj_map _ hbk,Result.andThen]
          · have hkeys:=MapKept.modify_keys (es:=es) j (fun e'=>{e' with key:=vk,val:=vv}) fun e' he'=>by rw[hj] at he';cases he';exact hje.symm
            refine fin (.map (es.modify j (fun e'=>{e' with key:=vk,val:=vv})) clk) ⟨_,_,rfl,by rw[Array.size_modify,hn,q1,hb0];rfl,by rw[hkeys];exact hnd,fun x=> ?_,fun x hx=> ?_,hz'⟩ ?_
            · rw[(q3 x).2.1]
              have h1:(∃e∈(es.modify j (fun e'=>{e' with key:=vk,val:=vv})).toList,e.key=x)↔x∈es.toList.map (·.key):=by
                rw[←hkeys,List.mem_map]
              rw[h1,List.mem_map]
              constructor
              · rintro(rfl|h2)
                · exact(hhas x).1 hb0
                · exact(hhas x).1 h2
              · intro h2;exact .inr ((hhas x).2 h2)
            · obtain⟨q,hq⟩:=List.getElem?_of_mem hx;rw[Array.getElem?_toList,Array.getElem?_modify] at hq
              split at hq
              · rw[Option.map_eq_some_iff] at hq;obtain⟨y,_,rfl⟩:=hq;rw[(q3 _).2.2.1 rfl];exact hv
              · rename_i hne;have hxm:x∈es.toList:=by rw[←Array.getElem?_toList] at hq;exact List.mem_of_getElem? hq
                rw[(q3 _).2.2.2]
                · exact hval x hxm
                · intro hxk;have g1:(es.toList.map (·.key))[j]? =some vk:=by rw[List.getElem?_map,Array.getElem?_toList,hj];simp[hje]
                  have g2:(es.toList.map (·.key))[q]? =some vk:=by rw[List.getElem?_map,Array.getElem?_toList,hq];simp[hxk]
                  obtain⟨g3,g4⟩:=List.getElem?_eq_some_iff.1 g1;obtain⟨g5,g6⟩:=List.getElem?_eq_some_iff.1 g2;rcases Nat.lt_trichotomy j q with h|h|h
                  · exact List.pairwise_iff_getElem.1 hnd j q g3 g5 h (g4.trans g6.symm)
                  · exact hne h
                  · exact List.pairwise_iff_getElem.1 hnd q j g5 g3 h (g6.trans g4.symm)
            · simp[Instr.mapUpdate,run_underlying e2,MapKept.run_getObj_map hbk,hK.chk,hfn,hj,hje,hK.stays,MapKept.run_setObj_map _ hbk,Result.andThen]
        · exact h.elim
      · exact h.elim
    · exact h.elim
  · exact h.elim
theorem zeroB_run {P:Program}{t:TypeId}(h:zeroB P t=true)(w:World):(zeroValue t).run P w= .ok (.bool false) w:=by
 unfold zeroB at h
 cases hi:P.info? t with
 |none=>simp[hi] at h
 |some i=>
  cases hz:i.zero with
  |none=>simp[hi,hz] at h
  |some z=>
   simp only[hi,Option.bind_some,hz] at h
   split at h
   ·rename_i heq
    cases heq
    simp[zeroValue,typeInfo,hi,hz]
   ·cases h
theorem mlookK_ok {X : Cx} {β : Env} {H : AH} {w : World} (hS : St X β H w) {t : TypeId} {sm sk : SV} {vm vk : Value} {ok : Bool} {k : SV → AH → Prop} (h : mlookK X.P H t sm sk ok k)
    (hm:den β sm vm) (hkd:den β sk vk):
    ∃v,(Instr.lookup t vm vk ok).run X.P w= .ok v w∧Aft X β H w k v w:=by
  unfold mlookK at h
  split at h
  · rename_i id kk
    split at h
    · rename_i c F kt et hf hkd1
      split at h
      · rename_i own ks hr
        split at h
        · rename_i b hhas;obtain⟨⟨rfl,hkk,hok,hokt,hokd,hz⟩,hk⟩:=h;have hl:=zt hf hkk;rw[hr] at hl;simp only[den] at hm;obtain⟨L,hb,rfl⟩:=hm;obtain⟨L',bb,hq,hbk,es,clk,rfl,hes,hval⟩:=hS.holds _ _ _ hl;rw[hb] at hq
          cases hq
          obtain⟨inf,d0,e1,e2,e3⟩:=z1h hok;rw[e3] at hkd1;have:=kdOf_map hkd1;subst this;obtain⟨⟨d,hd,hisk,hfind⟩,_⟩:=key_find hhas hokt hokd hkd hes;refine⟨.bool b,?_,⟨β,.bool b,H,hk,rfl,trivial,hS,Env.agree.refl _ _,Nat.le_refl _,Sub.refl _⟩⟩;rcases hfind with⟨rfl,hfn⟩|⟨rfl,j,e,hfn,hj,hje⟩
          · simp[Instr.lookup,run_underlying e2,MapKept.run_getObj_map hbk,MapKept.run_checkKey hd hisk,MapKept.run_findKey hd hfn,zeroB_run hz,Result.andThen]
          · have hv : e.val = .bool true := hval e (by have : es.toList[j]? = some e := by simpa using hj
                                                       exact List.mem_of_getElem? this)
            simp[Instr.lookup,run_underlying e2,MapKept.run_getObj_map hbk,MapKept.run_checkKey hd hisk,MapKept.run_findKey hd hfn,hv,Result.andThen]
        · exact h.elim
      · rename_i own M hr
        split at h
        · rename_i b s hget;obtain⟨⟨hkk,hok,hokt,hokd,hokP,hz⟩,hk⟩:=h;have hl:=zt hf hkk;rw[hr] at hl;simp only[den] at hm;obtain⟨L,hb,rfl⟩:=hm;obtain⟨L',bb,hq,hbk,es,clk,rfl,hn,hnd,hhas,hval,hzero⟩:=hS.holds _ _ _ hl;rw[hb] at hq
          cases hq
          obtain⟨inf,d0,e1,e2,e3⟩:=z1h hok;rw[e3] at hkd1;have:=kdOf_map hkd1;subst this;obtain⟨rfl,rfl,hK⟩:=mapo_find hget hokt hokd hokP hkd hhas;have hfind:=hK.find;obtain⟨z0,hz0,hz1⟩:=zeroS_run hz;have hlv:=(hS.lt _ _ _ hl).2.2 vk
          have fin:∀v,den β (M.val vk) v→(Instr.lookup t (.map (some L.blk)) vk ok).run X.P w= .ok (if ok then .tuple #[v,.bool (M.has vk)] else v) w→∃v,(Instr.lookup t (.map (some L.blk)) vk ok).run X.P w= .ok v w∧Aft X β H w k v w:=fun v hv hrun=>by
            refine⟨_,hrun,⟨β,_,H,hk,?_,?_,hS,Env.agree.refl _ _,Nat.le_refl _,Sub.refl _⟩⟩
            · cases ok
              · exact hv
              · exact⟨[v,.bool (M.has vk)],⟨v,_,hv,⟨_,_,rfl,rfl,rfl⟩,rfl⟩,rfl⟩
            · cases ok
              · exact hlv
              · exact⟨hlv,trivial,trivial⟩
          rcases hfind with⟨hb0,hfn⟩|⟨hb0,j,e,hfn,hj,hje⟩
          · refine fin z0 (hzero vk hb0 z0 (by rw[hz1];exact ofConst_den _ _)) ?_;rw[hb0]
            cases ok<;>simp[Instr.lookup,run_underlying e2,MapKept.run_getObj_map hbk,hK.chk,hfn,hz0,Result.andThen]
          · have hem:e∈es.toList:=by
              have:es.toList[j]? =some e:=by simpa using hj
              exact List.mem_of_getElem? this
            refine fin e.val (by rw[←hje];exact hval e hem) ?_;rw[hb0]
            cases ok<;>simp[Instr.lookup,run_underlying e2,MapKept.run_getObj_map hbk,hK.chk,hfn,Result.andThen]
        · exact h.elim
      · exact h.elim
    · exact h.elim
  · exact h.elim
end Go.Sk

namespace Go.Sk
open Go.RowKit Go.Lib
def growK (P:Program)(H:AH)(t t':TypeId)(s:SV)(n:Int)(k:SV→AH→Prop):Prop:=
 match s with
 |.nils=>
  match(z1l P t).kd,(z1l P t').kd with
  |.slice e,.int _=>((z1l P t).ok=true∧(z1l P t').ok=true∧(z1l P e).ok=true∧z29 P e≠0∧(z2x P e).map List.length=some (z29 P e)∧1≤n∧n≤1073741824∧(z1l P e).bytes≤1024)∧
    k (.slc true H.nxt 0 0 n.toNat) ⟨H.nxt+1,(H.nxt,uQ (.row ⟨true,false,e,z29 P e,0,fun _=>[]⟩))::H.os⟩
  |_,_=>False
 |_=>False
theorem growK_ok {X:Cx}{β:Env}{H:AH}{w:World}(hS:St X β H w){t t' ty:TypeId}{kx:IntKind}{s:SV}{n:Int}{vs:Value}{k:SV→AH→Prop}(h:growK X.P H t t' s n k)(hs:den β s vs):
  ∃v' w',(Builtin.append_ #[t,t'] ty #[vs,.int kx n]).run X.P w= .ok v' w'∧Aft X β H w k v' w'∧Blw w.heap.size w w':=by
 unfold growK at h
 split at h
 ·split at h
  ·rename_i e kn hkd hkd';obtain⟨⟨hok,hok',hoke,hsz,hzl,h1,hbig,hby⟩,hk⟩:=h;simp only[den] at hs;subst hs;obtain⟨inf,d,e1,e2,e3⟩:=z1h hok;rw[e3] at hkd;have:=z2l hkd;subst this;obtain⟨inf',d',f1,f2,f3⟩:=z1h hok';rw[f3] at hkd';have:=kdOf_int hkd';subst this;obtain⟨ei,de,e4,e5,e6⟩:=z1h hoke;have hei2:ei.size=z29 X.P e:=by unfold z29;simp[e4]
   rw[e6] at hby;have hby':ei.bytes≤1024:=hby
   have hzz:∃zv,ei.zero=some zv∧zv.cells.size=ei.size:=by
    unfold z2x at hzl;simp only[e4,Option.bind_some] at hzl
    cases hz0:ei.zero with
    |none=>simp[hz0] at hzl
    |some zv=>simp[hz0] at hzl;exact⟨zv,rfl,by omega⟩
   obtain⟨zv,hzv,hzs⟩:=hzz;obtain⟨m,rfl⟩:∃m:Nat,n=m:=⟨n.toNat,by omega⟩;have hmb:m*ei.bytes≤1073741824*1024:=Nat.mul_le_mul (by omega) hby';have hr:=run_append_grow_zeros (P:=X.P) w t t' ty e ei zv kx kn e2 f2 e4 hzv none 0 0 [] (run_firstCells_none w.drew ei.size 0 0 0) m (by omega) (by rw[hei2];omega) (by omega) (by omega) (by omega) (growslice_fits (by omega) (by rw[Nat.zero_add];omega));have hB:Blw w.heap.size w (w.drew.alloc (.cells (([]:List Value).toArray++Builtin.zeroCells zv.cells m++Builtin.zeroCells zv.cells (grownCap w (0+m) 0 e-(0+m))) e)):=(Blw.refl _ w).drew.alloc (Nat.le_refl _) _;refine⟨_,_,hr,?_,hB⟩;have hge:=grownCap_ge w (0+m) 0 e;have hle:=grownCap_le_maxLen w (0+m) 0 e (by unfold maxLen;omega)
   generalize hG:grownCap w (0+m) 0 e=G at hge hle hB ⊢
   have hag:=Env.agree_set β H.nxt (fun _=>some ⟨w.heap.size,0,z29 X.P e,G⟩);refine⟨β.set H.nxt (fun _=>some ⟨w.heap.size,0,z29 X.P e,G⟩),_,_,hk,?_,Nat.lt_succ_self _,?_,hag,Nat.le_succ _,sub_cons _ _ _ fun _ _ _ h=>h⟩
   ·simp only[den,z4l,if_true];refine .inr ⟨_,G,by unfold Env.set;rw[if_pos rfl],trivial,rfl,by simp;omega,Nat.le_refl _,?_⟩;simp
   ·refine St.new hS hB (fun k L _ he=>by cases he;exact Nat.le_refl _) (fun k k' _ _ h h' _ _ _=>by omega) (fun k _=> ?_) (fun k _=>fun i j s hi _=>absurd hi (Nat.not_lt_zero _));refine row_holds (cs:=[]) (vs:=[]) (heap_alloc_new w.drew _) ?_ (Nat.zero_le _) hle (fun j hj=>by omega) (by trivial) (fun s hs=>by cases hs) (fun i hi=>absurd hi (Nat.not_lt_zero _));simp only[Array.size_append,size_zeroCells,hzs];simp only[List.size_toArray,List.length_nil,Nat.zero_add];rw[←Nat.add_mul,hei2]
    congr 1;omega
  ·exact h.elim
 ·exact h.elim
def capK (P:Program)(t:TypeId)(s:SV)(H:AH)(k:SV→AH→Prop):Prop:=
 match s with
 |.nils=>((∃e,(z1l P t).kd= .slice e)∧(z1l P t).ok=true)∧k (.int .i64 0) H
 |_=>False
theorem capK_ok {X:Cx}{β:Env}{H:AH}{w:World}(hS:St X β H w){t ty:TypeId}{s:SV}{vs:Value}{k:SV→AH→Prop}(h:capK X.P t s H k)(hs:den β s vs):
  ∃v',(Builtin.cap_ #[t] ty #[vs]).run X.P w= .ok v' w∧Aft X β H w k v' w:=by
 unfold capK at h
 split at h
 ·obtain⟨⟨⟨e,hkd⟩,hok⟩,hk⟩:=h;simp only[den] at hs;subst hs;obtain⟨inf,d,e1,e2,e3⟩:=z1h hok;rw[e3] at hkd;have:=z2l hkd;subst this;exact⟨goInt 0,by simp[Builtin.cap_,run_underlying e2],β,_,H,hk,rfl,trivial,hS,Env.agree.refl _ _,Nat.le_refl _,Sub.refl _⟩
 ·exact h.elim
end Go.Sk

namespace Go.Sk
open Go.RowKit
def Ent (P:Program)(f:FuncId):Prop:=∀as1 w,(callFunc f as1).run P w= .ok (.enter f as1) w
def Does (P:Program)(f:FuncId)(as1:Array Value)(w:World)(Q:Ending→World→Prop):Prop:=
 (Ent P f∧Calls P f as1 w Q)∨∃v w',(callFunc f as1).run P w= .ok (.value v) w'∧Q (.returned v) w'
theorem Does.mono {P:Program}{f:FuncId}{as1:Array Value}{w:World}{Q Q':Ending→World→Prop}(h:Does P f as1 w Q)(hq:∀e w',Q e w'→Q' e w'):Does P f as1 w Q':=by
 rcases h with⟨h1,h2⟩|⟨v,w',h1,h2⟩
 ·exact .inl ⟨h1,h2.mono hq⟩
 ·exact .inr ⟨v,w',h1,hq _ _ h2⟩
theorem Does.calls {P:Program}{f:FuncId}{as1:Array Value}{w:World}{Q:Ending→World→Prop}(he:Ent P f)(h:Does P f as1 w Q):Calls P f as1 w Q:=by
 rcases h with⟨_,h2⟩|⟨v,w',h1,_⟩
 ·exact h2
 ·rw[he] at h1;cases h1
def ASpec (P:Program)(f:FuncId)(args:List SV)(H:AH)(Wc:List Nat)(R:SV→AH→Prop):Prop:=
 ∀(X:Cx) (β:Env) (w:World) (vs:List Value),X.P=P→St X β H w→z2h β args vs→SV.ltL H.nxt args→
  Does P f vs.toArray w fun e w'=> ∃v,e= .returned v∧Aft X β H w R v w'∧Kp w (inW β H Wc) w'
def callK (P:Program)(f:FuncId)(args:List SV)(H:AH)(dr:Bool)(W:List Nat)(k:SV→AH→Prop):Prop:=
 ∃Wc R,ASpec P f args H Wc R∧(dr=true→∀id,id∈Wc→id∈W)∧∀s H',R s H'→k s H'
theorem Kp.mono {w w':World}{B B':Nat→Prop}(h:Kp w B w')(hb:∀b,B b→B' b):Kp w B' w':=⟨h.1,fun b hl hn=>h.2 b hl fun hB=>hn (hb b hB)⟩
theorem Kp.of_below {w w':World}{B:Nat→Prop}(h:Blw w.heap.size w w'):Kp w B w':=⟨h.size,fun b hl _=>h.block b hl⟩
theorem inW.mono {β:Env}{H:AH}{W W':List Nat}(h:∀id,id∈W→id∈W'){b:Nat}(hb:inW β H W b):inW β H W' b:=by
 obtain⟨id,k,o,L,h1,h2⟩:=hb;exact⟨id,k,o,L,h _ h1,h2⟩
def eop (P:Program)(m0:Nat)(dr:Bool)(W:List Nat)(H:AH)(fr:Fr)(op:Op)(k:SV→AH→Prop):Prop:=
 match op with
 |.alloc e=>allocK P H e k
 |.box e x=>opdK fr true x fun s=>boxK H e s k
 |.buildSlice t len ps=>partsK fr true ps.toList fun ss=>bsliceK P H t len ss k
 |.store t x y=>opdK fr true x fun sa=>opdK fr true y fun sv=>storeK P H dr W t sa sv k
 |.makeSlice t l c=>opdK fr true l fun sl=>opdK fr true c fun sc=>mkK P H t sl sc k
 |.makeMap t r=>match r with
  |none=>mmapK P H t k
  |some x=>opdK fr true x fun sx=>match sx with
   |.int _ _=>mmapK P H t k
   |_=>False
 |.mapUpdate t m y x=>opdK fr true m fun sm=>opdK fr true y fun sy=>opdK fr true x fun sx=>mputK P H dr W t sm sy sx k
 |.insert t m y x=>opdK fr true m fun sm=>opdK fr true y fun sy=>opdK fr true x fun sx=>mputK P H dr W t sm sy sx k
 |.lookup t m y ok=>opdK fr true m fun sm=>opdK fr true y fun sy=>mlookK P H t sm sy ok k
 |.call c=>
  match c.callee,c.args,c.argTypes with
  |.builtin .append,⟨[x,y]⟩,⟨[t,t']⟩=>opdK fr true x fun sx=>opdK fr true y fun sy=>
   match sy with
   |.int _ n=>growK P H t t' sx n k
   |_=>appendK P m0 dr W H t t' sx sy k
  |.builtin .cap,⟨[x]⟩,⟨[t]⟩=>opdK fr true x fun sx=>capK P t sx H k
  |.builtin .copy,⟨[x,y]⟩,⟨[t,_]⟩=>opdK fr true x fun sx=>opdK fr true y fun sy=>copyK P H dr W t sx sy k
  |.builtin .clear,⟨[x]⟩,⟨[t]⟩=>opdK fr true x fun sx=>clearK P H dr W t sx k
  |.value f,args,_=>opdK fr true f fun sf=>opdsK fr true args.toList fun as1=>
   match sf with
   |.fn fid cap=>callK P fid (as1++cap) H dr W k
   |_=>False
  |_,_,_=>False
 |_=>False
def EPost (X:Cx)(β:Env)(H:AH)(w:World)(W:List Nat)(dr:Bool)(d:Option Tmp)(a:Act)(k:SV→AH→Prop)(a':Act)(w':World):Prop:=
 ∃v,a'=a.put d v∧Aft X β H w k v w'∧(dr=true→Kp w (inW β H W) w')
theorem eop_ok {X:Cx}{β:Env}{H:AH}{w:World}(hS:St X β H w){W:List Nat}{dr:Bool}{fr:Fr}{a:Act}(hF:FrOk X β H.nxt fr a){o:Oper}{k:SV→AH→Prop}(h:eop X.P X.m0 dr W H fr o.op k){Q:Exit→Act→World→Prop}:
  o.wp X.P a w (EPost X β H w W dr o.dst a k) Q:=by
 have val:∀(e:Sem Value) (v:Value) (w':World),execOp a.eval o=(do pure (.value (←e)))→e.run X.P w= .ok v w'→Aft X β H w k v w'→(dr=true→Kp w (inW β H W) w')→o.wp X.P a w (EPost X β H w W dr o.dst a k) Q:=fun e v w' he hr hA hK=>by
  unfold Oper.wp;rw[he];simp only[Sem.run_bind,hr,Result.andThen_ok,Sem.run_pure,Oper.upon];exact⟨v,rfl,hA,hK⟩
 unfold eop at h
 split at h
 ·rename_i e hop;obtain⟨v,w',hr,hA,hB⟩:=allocK_ok hS h;exact val _ v w' (by simp only[execOp,hop]) hr hA fun _=> .of_below hB
 ·rename_i e x hop;obtain⟨s,h1,hx⟩:=z1e hF h;obtain⟨v,w',hr,hA,hB⟩:=boxK_ok hS h1 (hx rfl).1 (hx rfl).2;exact val _ v w' (by simp only[execOp,hop]) hr hA fun _=> .of_below hB
 ·rename_i t len ps hop;obtain⟨ss,h1,he,hs⟩:=partsK_ok hF h;obtain⟨v,w',hr,hA,hB⟩:=bsliceK_ok (pv:=(ps.toList.map fun p=>(p.1,a.eval p.2))) hS h1 (by rw[he,List.map_map];rfl) (by rw[List.map_map];exact(hs rfl).1) (hs rfl).2;refine val _ v w' ?_ hr hA fun _=> .of_below hB;simp only[execOp,hop]
  have:(ps.map fun x=>(x.1,a.eval x.2))=(ps.toList.map fun p=>(p.1,a.eval p.2)).toArray:=by
   rw[←List.map_toArray]
  rw[←this]
 ·rename_i t x y hop;obtain⟨sa,h1,hx⟩:=z1e hF h;obtain⟨sv,h2,hy⟩:=z1e hF h1;obtain⟨w',hr,hA,hK⟩:=storeK_ok hS h2 (hx rfl).1 (hy rfl).1 (hy rfl).2;unfold Oper.wp;simp only[execOp,hop,Sem.run_bind,hr,Result.andThen_ok,Sem.run_pure,Oper.upon];exact⟨undef,rfl,hA,hK⟩
 ·rename_i t l c hop;obtain⟨sl,h1,hl⟩:=z1e hF h;obtain⟨sc,h2,hc⟩:=z1e hF h1;obtain⟨v,w',hr,hA,hB⟩:=mkK_ok hS h2 (hl rfl).1 (hc rfl).1;exact val _ v w' (by simp only[execOp,hop]) hr hA fun _=> .of_below hB
 ·rename_i t r hop
  split at h
  ·obtain⟨v,w',hr,hA,hB⟩:=mmapK_ok hS (.inl rfl) h;exact val _ v w' (by simp only[execOp,hop,Option.map_none]) hr hA fun _=> .of_below hB
  ·rename_i x;obtain⟨sx,h1,hx⟩:=z1e hF h
   split at h1
   ·rename_i kd n;have hxe:=(hx rfl).1;simp only[den] at hxe;obtain⟨v,w',hr,hA,hB⟩:=mmapK_ok (r:=some (a.eval x)) hS (.inr ⟨kd,n,by rw[hxe]⟩) h1;exact val _ v w' (by simp only[execOp,hop,Option.map_some]) hr hA fun _=> .of_below hB
   ·exact h1.elim
 ·rename_i t m y x hop;obtain⟨sm,h1,hm⟩:=z1e hF h;obtain⟨sy,h2,hy⟩:=z1e hF h1;obtain⟨sx,h3,hx⟩:=z1e hF h2;obtain⟨w',hr,hA,hK⟩:=mputK_ok hS h3 (hm rfl).1 (hy rfl).1 (hx rfl).1 (hx rfl).2;unfold Oper.wp;simp only[execOp,hop,Sem.run_bind,hr,Result.andThen_ok,Sem.run_pure,Oper.upon];exact⟨undef,rfl,hA,hK⟩
 ·rename_i t m y x hop;obtain⟨sm,h1,hm⟩:=z1e hF h;obtain⟨sy,h2,hy⟩:=z1e hF h1;obtain⟨sx,h3,hx⟩:=z1e hF h2;obtain⟨w',hr,hA,hK⟩:=mputK_ok hS h3 (hm rfl).1 (hy rfl).1 (hx rfl).1 (hx rfl).2;unfold Oper.wp;simp only[execOp,hop,Sem.run_bind,hr,Result.andThen_ok,Sem.run_pure,Oper.upon];exact⟨undef,rfl,hA,hK⟩
 ·rename_i t m y b hop;obtain⟨sm,h1,hm⟩:=z1e hF h;obtain⟨sy,h2,hy⟩:=z1e hF h1;obtain⟨v,hr,hA⟩:=mlookK_ok hS h2 (hm rfl).1 (hy rfl).1;exact val _ v w (by simp only[execOp,hop]) hr hA fun _=>Kp.refl _ _
 ·rename_i c hop
  split at h
  ·rename_i x y t t' hc1 hc2 hc3;obtain⟨sx,h1,hx⟩:=z1e hF h;obtain⟨sy,h2,hy⟩:=z1e hF h1
   have fin:(∃v w',(Builtin.append_ #[t,t'] o.type #[a.eval x,a.eval y]).run X.P w= .ok v w'∧Aft X β H w k v w'∧(dr=true→Kp w (inW β H W) w'))→o.wp X.P a w (EPost X β H w W dr o.dst a k) Q:=by
    rintro⟨v,w',hr,hA,hK⟩;unfold Oper.wp;simp only[execOp,hop,resolve,hc1,hc2,hc3,Sem.run_bind,Sem.run_pure,Result.andThen_ok,invoke,builtin,List.map_toArray,List.map_cons,List.map_nil,hr,Oper.upon];exact⟨v,rfl,hA,hK⟩
   split at h2
   ·rename_i kx n;have hye:=(hy rfl).1;simp only[den] at hye;obtain⟨v,w',hr,hA,hB⟩:=growK_ok (ty:=o.type) (kx:=kx) hS h2 (hx rfl).1;exact fin ⟨v,w',by rw[hye];exact hr,hA,fun _=> .of_below hB⟩
   ·exact fin (appendK_ok (ty:=o.type) hS h2 (hx rfl).1 (hy rfl).1)
  ·rename_i x t hc1 hc2 hc3;obtain⟨sx,h1,hx⟩:=z1e hF h;obtain⟨v,hr,hA⟩:=capK_ok (ty:=o.type) hS h1 (hx rfl).1;unfold Oper.wp;simp only[execOp,hop,resolve,hc1,hc2,hc3,Sem.run_bind,Sem.run_pure,Result.andThen_ok,invoke,builtin,List.map_toArray,List.map_cons,List.map_nil,hr,Oper.upon];exact⟨v,rfl,hA,fun _=>Kp.refl _ _⟩
  ·rename_i x y t t' hc1 hc2 hc3;obtain⟨sx,h1,hx⟩:=z1e hF h;obtain⟨sy,h2,hy⟩:=z1e hF h1;obtain⟨v,w',hr,hA,hK⟩:=copyK_ok (t':=t') (ty:=o.type) hS h2 (hx rfl).1 (hy rfl).1;unfold Oper.wp;simp only[execOp,hop,resolve,hc1,hc2,hc3,Sem.run_bind,Sem.run_pure,Result.andThen_ok,invoke,builtin,List.map_toArray,List.map_cons,List.map_nil,hr,Oper.upon];exact⟨v,rfl,hA,hK⟩
  ·rename_i x t hc1 hc2 hc3;obtain⟨sx,h1,hx⟩:=z1e hF h;obtain⟨v,w',hr,hA,hK⟩:=clearK_ok (ty:=o.type) hS h1 (hx rfl).1;unfold Oper.wp;simp only[execOp,hop,resolve,hc1,hc2,hc3,Sem.run_bind,Sem.run_pure,Result.andThen_ok,invoke,builtin,List.map_toArray,List.map_cons,List.map_nil,hr,Oper.upon];exact⟨v,rfl,hA,hK⟩
  ·rename_i f args hc1;obtain⟨sf,h1,hf⟩:=z1e hF h;obtain⟨as1,h2,ha⟩:=opdsK_ok hF h1
   split at h2
   ·rename_i fid cap;obtain⟨Wc,R,hsp,hW,hR⟩:=h2;have hfd:=(hf rfl).1;have hfl:=(hf rfl).2;simp only[den,SV.lt] at hfd hfl;obtain⟨cvs,hcv,hfe⟩:=hfd
    have hargs:c.args.map a.eval++cvs.toArray=((c.args.toList.map a.eval)++cvs).toArray:=by
     apply Array.ext';simp
    have hC:=hsp X β w ((c.args.toList.map a.eval)++cvs) rfl hS (denL_append (ha rfl).1 hcv) (SV.ltL_of_get fun j s hs=>by
     rcases List.mem_append.1 (List.mem_of_getElem? hs) with hm|hm
     ·obtain⟨q,hq⟩:=List.getElem?_of_mem hm;exact SV.ltL_get (ha rfl).2 q s hq
     ·obtain⟨q,hq⟩:=List.getElem?_of_mem hm
      exact SV.ltL_get hfl q s hq)
    unfold Oper.wp
    have hex:(execOp a.eval o).run X.P w=(callFunc fid ((c.args.toList.map a.eval)++cvs).toArray).run X.P w:=by
     simp only[execOp,hop,resolve,hc1,Sem.run_bind,hfe,Deferred.ofValue,Sem.run_pure,Result.andThen_ok,invoke,Array.empty_append];rw[hargs]
    rw[hex];rcases hC with⟨hent,hC⟩|⟨v,w',hrun,hp⟩
    ·rw[hent];simp only[Oper.upon];refine hC.mono fun e w' ⟨v,he,hA,hK⟩=> ?_;subst he;obtain⟨β',s,H',hr,q⟩:=hA;exact⟨v,rfl,⟨β',s,H',hR _ _ hr,q⟩,fun hdr=>hK.mono fun b hb=>hb.mono (hW hdr)⟩
    ·rw[hrun];simp only[Oper.upon];obtain⟨v',he,hA,hK⟩:=hp
     cases he
     obtain⟨β',s,H',hr,q⟩:=hA;exact⟨v,rfl,⟨β',s,H',hR _ _ hr,q⟩,fun hdr=>hK.mono fun b hb=>hb.mono (hW hdr)⟩
   ·exact h2.elim
  ·exact h.elim
 ·exact h.elim
def isQ:Op→Bool
 |.move _| .assign _| .pick .. | .load .. | .nilCheck _| .binOp .. | .unOp .. | .convert .. | .fieldAddr .. | .field .. | .indexAddr .. | .index .. | .slice .. | .extract .. | .makeFunc .. | .build .. | .makeInterface .. =>true
 |.call {callee:= .builtin .len,..}| .call {callee:= .builtin .max,..}| .call {callee:= .builtin .min,..}=>true
 |_=>false
def grdK (ops:Array Oper)(fr:Fr)(g:Nat×Bool)(k:Bool→Prop):Prop:=
 match ops[g.1]? with
 |some o=>
  match o.dst with
  |some t=>
   match get fr t with
   |some (.bool b)=>k (b==g.2)
   |some (.gd g' (.bool b))=>k (g' && (b==g.2))
   |_=>False
  |none=>False
 |none=>False
def stp (P:Program)(wr:Bool)(m0:Nat)(dr:Bool)(W Wq:List Nat)(ops:Array Oper)(o:Oper)(fr:Fr)(H:AH)(K:Fr→AH→Prop):Prop:=
 match o.guard with
 |none=>if isQ o.op then qop P wr dr H Wq fr true o.op (fun s=>K (put o.dst s fr) H) else eop P m0 dr W H fr o.op (fun s H'=>K (put o.dst s fr) H')
 |some g=>grdK ops fr g fun G=>
  if isQ o.op then qop P wr dr H Wq fr G o.op (fun s=>K (put o.dst (.gd G s) fr) H)
  else(G=true→eop P m0 dr W H fr o.op (fun s H'=>K (put o.dst s fr) H'))∧(G=false→∃s,K (put o.dst (.gd false s) fr) H)
def runL (P:Program)(wr:Bool)(m0:Nat)(ops:Array Oper):List Oper→Fr→AH→(Fr→AH→Prop)→Prop
 |[],fr,H,K=>K fr H
 |o::l,fr,H,K=>stp P wr m0 false [] [] ops o fr H (fun fr' H'=>runL P wr m0 ops l fr' H' K)
def At (X:Cx)(K:Fr→AH→Prop)(a:Act)(w:World):Prop:=∃β fr H,K fr H∧FrOk X β H.nxt fr a∧St X β H w
theorem grdK_ok {X:Cx}{β:Env}{m:Nat}{fr:Fr}{a:Act}(hF:FrOk X β m fr a){ops:Array Oper}{g:Nat×Bool}{k:Bool→Prop}(h:grdK ops fr g k):
  ∃G,k G∧∀o:Oper,o.guard=some g→Region.wanted o (yielded ops a.tmps)=G:=by
 obtain⟨j,want⟩:=g;unfold grdK at h
 split at h
 ·rename_i oj hoj
  split at h
  ·rename_i t ht
   split at h
   ·rename_i b hg;refine⟨_,h,fun o ho=> ?_⟩;obtain⟨_,v,hv,hd⟩:=hF.get _ _ hg;simp only[den] at hd;subst hd;simp only[Region.wanted,ho,yielded,hoj,Option.bind_some,ht,hv]
    cases b<;>cases want<;>rfl
   ·rename_i g' b hg;refine⟨_,h,fun o ho=> ?_⟩;obtain⟨_,v,hv,hd⟩:=hF.get _ _ hg;simp only[den] at hd
    cases g' with
    |true=>
     have:=hd.1 rfl;subst this;simp only[Region.wanted,ho,yielded,hoj,Option.bind_some,ht,hv]
     cases b<;>cases want<;>rfl
    |false=>
     have:=hd.2 rfl;subst this;simp only[Region.wanted,ho,yielded,hoj,Option.bind_some,ht,hv,undef]
     rfl
   ·exact h.elim
  ·exact h.elim
 ·exact h.elim
theorem stp_ok {X:Cx}{β:Env}{H:AH}{w:World}(hS:St X β H w){W:List Nat}{dr:Bool}{fr:Fr}{a:Act}(hF:FrOk X β H.nxt fr a){ops:Array Oper}{o:Oper}(hd:∀t,o.dst=some t→t<X.n){K:Fr→AH→Prop}
  (h:stp X.P X.wrap X.m0 dr W [] ops o fr H K) {Q:Exit→Act→World→Prop}:
  if Region.wanted o (yielded ops a.tmps) then o.wp X.P a w (At X K) Q else At X K (a.put o.dst undef) w:=by
 have quiet:∀(G:Bool) (k:SV→Prop),qop X.P X.wrap dr H [] fr G o.op k→∃s,k s∧(G=true→s.lt H.nxt∧∃v,den β s v∧(execOp a.eval o).run X.P w= .ok (.value v) w):=fun G k hq=>by
  obtain⟨s,hk,hg⟩:=qop_ok (C:=fun w'=>w'=w) hS hF (fun _ w' hw'=>by rw[hw'];exact Kp.refl _ _) hq
  exact⟨s,hk,fun hG=>by
   obtain⟨h1,v,h2,h3⟩:=hg hG
   exact⟨h1,v,h2,h3 w rfl⟩⟩
 have eff:∀(k:SV→AH→Prop),(∀s H',k s H'→K (put o.dst s fr) H')→eop X.P X.m0 dr W H fr o.op k→o.wp X.P a w (At X K) Q:=fun k hk he=>by
  refine Oper.wp_mono (fun a' w' hp=> ?_) (eop_ok (Q:=Q) hS hF he);obtain⟨v,rfl,⟨β',s,H',h1,h2,h3,h4,h5,h6,_⟩,_⟩:=hp;exact⟨β',_,H',hk _ _ h1,(hF.agree h6 h5).put hd h3 h2,h4⟩
 unfold stp at h
 split at h
 ·rename_i hg;rw[if_pos (by simp[Region.wanted,hg])]
  split at h
  ·obtain⟨s,hk,hs⟩:=quiet _ _ h;obtain⟨h1,v,h2,h3⟩:=hs rfl;unfold Oper.wp;rw[h3];exact⟨β,_,H,hk,hF.put hd h1 h2,hS⟩
  ·exact eff _ (fun s H' hk=>hk) h
 ·rename_i g hg;obtain⟨G,hG,hw⟩:=grdK_ok hF h;have hwo:=hw o hg
  split at hG
  ·obtain⟨s,hk,hs⟩:=quiet _ _ hG
   cases G with
   |true=>
    rw[if_pos hwo];obtain⟨h1,v,h2,h3⟩:=hs rfl;unfold Oper.wp;rw[h3];exact⟨β,_,H,hk,hF.put hd (by simp only[SV.lt];exact fun _=>h1) (by simp only[den];exact⟨fun _=>h2,fun hh=>by cases hh⟩),hS⟩
   |false=>
    rw[if_neg (by rw[hwo];exact Bool.false_ne_true)];exact⟨β,_,H,hk,hF.put hd (by simp only[SV.lt];exact fun hh=>by cases hh) (by simp[den]),hS⟩
  ·cases G with
   |true=>
    rw[if_pos hwo];exact eff _ (fun s H' hk=>hk) (hG.1 rfl)
   |false=>
    rw[if_neg (by rw[hwo];exact Bool.false_ne_true)];obtain⟨s,hs⟩:=hG.2 rfl;exact⟨β,_,H,hs,hF.put hd (by simp only[SV.lt];exact fun hh=>by cases hh) (by simp[den]),hS⟩
def dstOk (n:Nat)(l:List Oper):Bool:=l.all fun o=>match o.dst with|some t=>decide (t<n)|none=>true
theorem dstOk_spec {n:Nat}{l:List Oper}(h:dstOk n l=true){o:Oper}(ho:o∈l):∀t,o.dst=some t→t<n:=fun t ht=>by
 have:=List.all_eq_true.1 h o ho;simp only[ht,decide_eq_true_eq] at this;exact this
theorem runL_ok {X:Cx}{ops:Array Oper}{K:Fr→AH→Prop}{Q:Exit→Act→World→Prop}(hQ:∀a w,At X K a w→Q .normal a w):∀(l:List Oper),dstOk X.n l=true→∀{β:Env} {H:AH} {w:World} {fr:Fr} {a:Act},St X β H w→FrOk X β H.nxt fr a→runL X.P X.wrap X.m0 ops l fr H K→wpList X.P ops Q l a w
 |[],_,β,H,w,fr,a,hS,hF,h=>wpList_nil (hQ _ _ ⟨β,fr,H,h,hF,hS⟩)
 |o::l,hd,β,H,w,fr,a,hS,hF,h=>by
  have hd':dstOk X.n l=true:=by simp only[dstOk,List.all_cons,Bool.and_eq_true] at hd ⊢;exact hd.2
  refine wpList_step fun K' hK'=> ?_;have:=stp_ok (Q:=Q) hS hF (dstOk_spec hd (List.mem_cons_self ..)) h;have next:∀a w,At X (fun fr' H'=>runL X.P X.wrap X.m0 ops l fr' H' K) a w→K' a w:=fun a w ⟨β',fr',H',hr,hF',hS'⟩=>hK' _ _ (runL_ok hQ l hd' hS' hF' hr)
  split at this
  ·rename_i hw;rw[if_pos hw];exact Oper.wp_mono next this
  ·rename_i hw;rw[if_neg hw];exact next _ _ this
end Go.Sk

namespace Go.Sk
open Go.RowKit
theorem getD_down {listed:Array Bool}{i:Nat}(h:listed.getD i true=false):listed.getD i false=false:=by
 rcases Nat.lt_or_ge i listed.size with h'|h'
 ·simp[h'] at h ⊢;exact h
 ·simp[Array.getElem?_eq_none h'] at h
section
variable {P:Program} {ops:Array Oper} {Q:Exit→Act→World→Prop}
def Closed (ops:Array Oper)(listed:Array Bool):Prop:=
 ∀(j:Nat) (oj:Oper),ops[j]? =some oj→listed.getD j false=true→∀e∈oj.after,Region.binds .any e=true→listed.getD e.on false=true
theorem Closed.set {listed:Array Bool}(h:Closed ops listed){i:Nat}(hi:i∈Region.ready .any ops listed):Closed ops (listed.setIfInBounds i true):=by
 obtain⟨_,oi,hoi,hall⟩:=mem_ready.1 hi;intro j oj hj hl e he hb
 by_cases hij:i=j
 ·subst hij;have:oj=oi:=Option.some.inj (hj.symm.trans hoi);subst this;exact getD_set_true (hall e he hb)
 ·rw[getD_set_ne false hij] at hl;exact getD_set_true (h j oj hj hl e he hb)
def afterOk (ops:Array Oper)(A:List (List Nat)):Bool:=
 (List.range ops.size).all fun j=>
  match ops[j]? with
  |some o=>(A.getD j []).all fun i=>o.after.any fun e=>Region.binds .any e && decide (e.on<j) && (e.on==i||(A.getD e.on []).contains i)
  |none=>true
theorem afterOk_listed {A:List (List Nat)}(hA:afterOk ops A=true){listed:Array Bool}(hc:Closed ops listed):
  ∀(n j:Nat),j<n→∀o,ops[j]? =some o→(∀e∈o.after,Region.binds .any e=true→listed.getD e.on false=true)→∀i,i∈A.getD j []→listed.getD i false=true
 |0,_,h,_,_,_,_,_=>by omega
 |n+1,j,hj,o,ho,hall,i,hi=>by
  have hjs:j<ops.size:=(Array.getElem?_eq_some_iff.1 ho).1;have h1:=List.all_eq_true.1 hA j (List.mem_range.2 hjs);simp only[ho] at h1;have h2:=List.all_eq_true.1 h1 i hi;obtain⟨e,he,hb⟩:=Array.any_eq_true'.1 h2;simp only[Bool.and_eq_true,Bool.or_eq_true,decide_eq_true_eq,beq_iff_eq] at hb;obtain⟨⟨hb1,hlt⟩,h3⟩:=hb;have hl:=hall e he hb1;rcases h3 with h3|h3
  ·rw[←h3];exact hl
  ·have hes:e.on<ops.size:=by omega
   have hoe:ops[e.on]? =some ops[e.on]:=Array.getElem?_eq_getElem hes;exact afterOk_listed hA hc n e.on (by omega) _ hoe (fun e' he' hb'=>hc _ _ hoe hl e' he' hb') i (by simpa using h3)
def wpAnyG (P:Program)(ops:Array Oper)(Q:Exit→Act→World→Prop)(S:Nat→World→World→Prop)(isq:Nat→Bool):Nat→Array Bool→Act→World→Prop
 |0,listed,a,w=>Region.ready .any ops listed=[]∧Q .normal a w
 |fuel+1,listed,a,w=>
  (Region.ready .any ops listed=[]→Q .normal a w)∧
  ∀i∈Region.ready .any ops listed,wpOp P ops Q i (fun a' w'=>((isq i=true→w'=w)∧S i w w')∧wpAnyG P ops Q S isq fuel (listed.setIfInBounds i true) a' w') a w
theorem wpAny_of_G {S:Nat→World→World→Prop}{isq:Nat→Bool}:∀(fuel:Nat) (listed:Array Bool) (a:Act) (w:World),wpAnyG P ops Q S isq fuel listed a w→wpAny P .any ops Q fuel listed a w
 |0,_,_,_,h=>h
 |fuel+1,_,_,_,h=>⟨h.1,fun i hi=>wpOp_mono (fun a' w' h'=>wpAny_of_G fuel _ a' w' h'.2) (h.2 i hi)⟩
theorem wpAnyG_first {S : Nat → World → World → Prop} {T : World → Prop} {isq : Nat → Bool} {i : Nat} {oi : Oper} {v : Value} (hi : ops[i]? = some oi) (hq : isq i = true) (hsel : ∀ (j : Nat) (o : Oper) cs b, ops[j]? = some o → o.op ≠ .select cs b)
    (hQ:∀c a w,Q (.panic c) (a.put oi.dst v) w→Q (.panic c) a w)
    (hkeep:∀listed,Closed ops listed→listed.getD i true=false→∀j∈Region.ready .any ops listed,j≠i→∀w1 w2,T w1→(isq j=true→w2=w1)→S j w1 w2→T w2) (hS:∀w,S i w w):
    ∀(fuel:Nat) (listed:Array Bool) (a:Act) (w:World),Closed ops listed→
      (∀(j:Nat) (oj:Oper),ops[j]? =some oj→j≠i→listed.getD j true=false→(∀e∈oj.after,Region.binds .any e=true→e.on≠i)→oi.apart ops oj=true)→
      i∈Region.ready .any ops listed→YieldsIf P ops T oi v a→T w→
      wpAnyG P ops Q S isq fuel (listed.setIfInBounds i true) (a.put oi.dst v) w→wpAnyG P ops Q S isq (fuel+1) listed a w:=by
  intro fuel
  induction fuel with
  |zero=>
    intro listed a w _ _ hr hy hT H;refine⟨fun h=>(by rw[h] at hr;cases hr),fun j hj=> ?_⟩
    by_cases hji:j=i
    · subst hji;exact hy.wpOp hi hT ⟨⟨fun _=>rfl,hS w⟩,H⟩
    · have:=ready_mono hj hji;rw[H.1] at this
      cases this
  |succ fuel ih=>
    intro listed a w hcl hfree hr hy hT H;refine⟨fun h=>(by rw[h] at hr;cases hr),fun j hj=> ?_⟩
    by_cases hji:j=i
    · subst hji;exact hy.wpOp hi hT ⟨⟨fun _=>rfl,hS w⟩,H⟩
    · have h1:=H.2 j (ready_mono hj hji);obtain⟨hjun,oj,hoj,hall⟩:=mem_ready.1 hj;have hiun:=(mem_ready.1 hr).1
      have hnot:∀e∈oj.after,Region.binds .any e=true→e.on≠i:=fun e he hb heq=>by
        have h2:=hall e he hb;rw[heq] at h2;rcases Nat.lt_or_ge i listed.size with h'|h'
        · simp[h'] at hiun h2;rw[hiun] at h2;cases h2
        · simp[Array.getElem?_eq_none h'] at h2
      have h2:=wpOp_putIf hoj (hfree j oj hoj hji hjun hnot) (fun cs b=>hsel i oi cs b hi) (fun cs b=>hsel j oj cs b hoj) hQ hy h1
      have hfree' : ∀ (k : Nat) (ok : Oper), ops[k]? = some ok → k ≠ i → (listed.setIfInBounds j true).getD k true = false →
          (∀e∈ok.after,Region.binds .any e=true→e.on≠i)→oi.apart ops ok=true:=fun k ok hk hki hun hno=>by
        refine hfree k ok hk hki ?_ hno
        by_cases hjk:j=k
        · subst hjk;exact hjun
        · rw[getD_set_ne true hjk] at hun;exact hun
      refine wpOp_mono (fun a' w' h3=>⟨h3.2.1,ih (listed.setIfInBounds j true) a' w' (hcl.set hj) hfree' (ready_mono hr (Ne.symm hji)) h3.1 (hkeep listed hcl hiun j hj hji w w' hT h3.2.1.1 h3.2.1.2) ?_⟩) h2;rw[Array.setIfInBounds_comm _ _ hji];exact h3.2.2
end
def runO (P:Program)(wr:Bool)(m0:Nat)(Wf Uq:List (List Nat))(ops:Array Oper):List (Nat×Oper)→Fr→AH→(Fr→AH→Prop)→Prop
 |[],fr,H,K=>K fr H
 |(i,o)::l,fr,H,K=>stp P wr m0 true (Wf.getD i []) (Uq.getD i []) ops o fr H (fun fr' H'=>runO P wr m0 Wf Uq ops l fr' H' K)
def isLoad:Op→Bool
 |.load .. =>true
 |_=>false
def sched (ops:Array Oper):List (Nat×Oper)→Array Bool→Bool→Bool
 |[],listed,_=>(Region.ready .any ops listed).isEmpty
 |(i,o)::l,listed,dirty=>
  (if isQ o.op then
   if dirty && isLoad o.op then Region.ready .any ops listed==[i]
   else(Region.ready .any ops listed).contains i && Region.free .any ops listed i
  else Region.ready .any ops listed==[i]) && sched ops l (listed.setIfInBounds i true) (dirty|| !isQ o.op)
def effOk (ops:Array Oper)(A Wf Uq:List (List Nat)):Bool:=
 (List.range ops.size).all fun j=>match ops[j]? with
  |some o=>isQ o.op||(List.range ops.size).all fun i=>(A.getD j []).contains i||(Wf.getD j []).all fun id=>(Uq.getD i []).contains id
  |none=>true
def z51 (ops:Array Oper)(j:Nat):Bool:=match ops[j]? with|some o=>isQ o.op|none=>false
theorem stp_quiet {X:Cx}{β:Env}{H:AH}{w:World}(hS:St X β H w){W Wq:List Nat}{dr:Bool}{fr:Fr}{a:Act}(hF:FrOk X β H.nxt fr a){ops:Array Oper}{o:Oper}(hd:∀t,o.dst=some t→t<X.n){K:Fr→AH→Prop}(hq:isQ o.op=true)
  {C:World→Prop} (hC:((∃t x,o.op= .load t x)∨dr=false)→∀w',C w'→Kp w (inW β H Wq) w') (h:stp X.P X.wrap X.m0 dr W Wq ops o fr H K):
  ∃v fr',YieldsIf X.P ops C o v a∧K fr' H∧FrOk X β H.nxt fr' (a.put o.dst v):=by
 unfold stp at h
 split at h
 ·rename_i hg;rw[if_pos hq] at h;obtain⟨s,hk,hs⟩:=qop_ok hS hF hC h;obtain⟨h1,v,h2,h3⟩:=hs rfl;exact⟨v,_,.inl ⟨by simp[Region.wanted,hg],h3⟩,hk,hF.put hd h1 h2⟩
 ·rename_i g hg;obtain⟨G,hG,hw⟩:=grdK_ok hF h;have hwo:=hw o hg;rw[if_pos hq] at hG;obtain⟨s,hk,hs⟩:=qop_ok hS hF hC hG
  cases G with
  |true=>
   obtain⟨h1,v,h2,h3⟩:=hs rfl;exact⟨v,_,.inl ⟨hwo,h3⟩,hk,hF.put hd (by simp only[SV.lt];exact fun _=>h1) (by simp only[den];exact⟨fun _=>h2,fun hh=>by cases hh⟩)⟩
  |false=>
   exact⟨undef,_,.inr ⟨hwo,rfl⟩,hk,hF.put hd (by simp only[SV.lt];exact fun hh=>by cases hh) (by simp[den])⟩
theorem stp_eff {X:Cx}{β:Env}{H:AH}{w:World}(hS:St X β H w){W Wq:List Nat}{dr:Bool}{fr:Fr}{a:Act}(hF:FrOk X β H.nxt fr a){ops:Array Oper}{o:Oper}(hd:∀t,o.dst=some t→t<X.n){K:Fr→AH→Prop}(hq:isQ o.op=false)
  (h:stp X.P X.wrap X.m0 dr W Wq ops o fr H K) {Q:Exit→Act→World→Prop}:
  if Region.wanted o (yielded ops a.tmps) then o.wp X.P a w (fun a' w'=> ∃β' fr' H',K fr' H'∧FrOk X β' H'.nxt fr' a'∧St X β' H' w'∧Env.agree H.nxt β β'∧H.nxt≤H'.nxt∧Sub H H'∧(dr=true→Kp w (inW β H W) w')) Q
  else∃fr',K fr' H∧FrOk X β H.nxt fr' (a.put o.dst undef):=by
 have eff:∀(k:SV→AH→Prop),(∀s H',k s H'→K (put o.dst s fr) H')→eop X.P X.m0 dr W H fr o.op k→o.wp X.P a w (fun a' w'=> ∃β' fr' H',K fr' H'∧FrOk X β' H'.nxt fr' a'∧St X β' H' w'∧Env.agree H.nxt β β'∧H.nxt≤H'.nxt∧Sub H H'∧(dr=true→Kp w (inW β H W) w')) Q:=fun k hk he=>by
  refine Oper.wp_mono (fun a' w' hp=> ?_) (eop_ok (Q:=Q) hS hF he);obtain⟨v,rfl,⟨β',s,H',h1,h2,h3,h4,h5,h6,h7⟩,h8⟩:=hp;exact⟨β',_,H',hk _ _ h1,(hF.agree h6 h5).put hd h3 h2,h4,h5,h6,h7,h8⟩
 unfold stp at h
 split at h
 ·rename_i hg;rw[if_pos (by simp[Region.wanted,hg])];rw[if_neg (by rw[hq];exact Bool.false_ne_true)] at h;exact eff _ (fun s H' hk=>hk) h
 ·rename_i g hg;obtain⟨G,hG,hw⟩:=grdK_ok hF h;have hwo:=hw o hg;rw[if_neg (by rw[hq];exact Bool.false_ne_true)] at hG
  cases G with
  |true=>
   rw[if_pos hwo];exact eff _ (fun s H' hk=>hk) (hG.1 rfl)
  |false=>
   rw[if_neg (by rw[hwo];exact Bool.false_ne_true)];obtain⟨s,hs⟩:=hG.2 rfl;exact⟨_,hs,hF.put hd (by simp only[SV.lt];exact fun hh=>by cases hh) (by simp[den])⟩
theorem Kp.trans {a b c:World}{B:Nat→Prop}(h:Kp a B b)(h':Kp b B c):Kp a B c:=
 ⟨Nat.le_trans h.1 h'.1,fun k hk hn=>(h'.2 k (Nat.lt_of_lt_of_le hk h.1) hn).trans (h.2 k hk hn)⟩
theorem runO_ok {X:Cx}{ops:Array Oper}{K:Fr→AH→Prop}{Q:Exit→Act→World→Prop}(hQ:∀a w,At X K a w→Q .normal a w)(hQp:∀c a w,¬Q (.panic c) a w){A Wf Uq:List (List Nat)}
  (hns:Region.noSelect ops=true) (hA:afterOk ops A=true) (hE:effOk ops A Wf Uq=true) {w1:World} {β1:Env} {H1:AH} (hWn:∀j,∀id∈Wf.getD j [],id<H1.nxt):
  ∀(l:List (Nat×Oper)) (listed:Array Bool) (dirty:Bool) {β:Env} {H:AH} {w:World} {fr:Fr} {a:Act},(∀x∈l,ops[x.1]? =some x.2)→dstOk X.n (l.map (·.2))=true→sched ops l listed dirty=true→Closed ops listed→
   St X β H w→FrOk X β H.nxt fr a→(dirty=false→w=w1∧β=β1∧H=H1)→Env.agree H1.nxt β1 β→H1.nxt≤H.nxt→Sub H1 H→
   runO X.P X.wrap X.m0 Wf Uq ops l fr H K→wpAnyG X.P ops Q (fun j w w'=>Kp w (inW β1 H1 (Wf.getD j [])) w') (z51 ops) l.length listed a w
 |[],listed,dirty,β,H,w,fr,a,_,_,hs,_,hS,hF,_,_,_,_,h=>⟨by simpa [sched] using hs,hQ _ _ ⟨β,fr,H,h,hF,hS⟩⟩
 |(i,o)::l,listed,dirty,β,H,w,fr,a,hl,hdst,hs,hcl,hS,hF,hnd,hag,hle,hsub,h=>by
  have hio:ops[i]? =some o:=hl _ (List.mem_cons_self ..);have hl':∀x∈l,ops[x.1]? =some x.2:=fun x hx=>hl x (List.mem_cons_of_mem _ hx);have hdst':dstOk X.n (l.map (·.2))=true:=by simp only[List.map_cons,dstOk,List.all_cons,Bool.and_eq_true] at hdst ⊢;exact hdst.2
  have hdo:∀t,o.dst=some t→t<X.n:=dstOk_spec hdst (by simp);simp only[sched,Bool.and_eq_true] at hs;obtain⟨hs1,hs2⟩:=hs;simp only[runO] at h
  cases hq:isQ o.op with
  |true=>
   rw[hq] at hs1 hs2;simp only[if_true,Bool.not_true,Bool.or_false] at hs1 hs2;have hisq:z51 ops i=true:=by unfold z51;rw[hio];exact hq
   --the rest,once the operation has yielded
   have rest:∀v fr',i∈Region.ready .any ops listed→runO X.P X.wrap X.m0 Wf Uq ops l fr' H K→FrOk X β H.nxt fr' (a.put o.dst v)→wpAnyG X.P ops Q (fun j w w'=>Kp w (inW β1 H1 (Wf.getD j [])) w') (z51 ops) l.length (listed.setIfInBounds i true) (a.put o.dst v) w:=
    fun v fr' hr hk hF'=>runO_ok (w1:=w1) hQ hQp hns hA hE hWn l _ dirty hl' hdst' hs2 (hcl.set hr) hS hF' hnd hag hle hsub hk
   by_cases hforced:dirty=true∧isLoad o.op=true
   ·rw[if_pos hforced] at hs1;have hrd:Region.ready .any ops listed=[i]:=by simpa using hs1
    obtain⟨v,fr',hy,hk,hF'⟩:=stp_quiet (C:=fun w'=>w'=w) hS hF hdo hq (fun _ w' hw'=>by rw[hw'];exact Kp.refl _ _) h;refine⟨fun h0=>(by rw[hrd] at h0;cases h0),fun j hj=> ?_⟩;rw[hrd] at hj;have hji:j=i:=by simpa using hj
    subst hji;exact hy.wpOp hio rfl ⟨⟨fun _=>rfl,Kp.refl _ _⟩,rest v fr' (by rw[hrd];simp) hk hF'⟩
   ·rw[if_neg hforced] at hs1;simp only[Bool.and_eq_true] at hs1;obtain⟨hr,hfree⟩:=hs1;have hr':i∈Region.ready .any ops listed:=by simpa using hr
    have hiun:=(mem_ready.1 hr').1
    by_cases hld:isLoad o.op=true
    ·--a load,before all effects
     have hdf:dirty=false:=by
      cases dirty with
      |false=>rfl
      |true=>simp[hld] at hforced
     obtain⟨rfl,rfl,rfl⟩:=hnd hdf;obtain⟨v,fr',hy,hk,hF'⟩:=stp_quiet (C:=Kp w (inW β H (Uq.getD i []))) hS hF hdo hq (fun _ w' hw'=>hw') h;refine wpAnyG_first (T:=Kp w (inW β H (Uq.getD i []))) hio hisq (Region.noSelect_spec hns) (fun c a w hh=>absurd hh (hQp c _ w)) ?_ (fun _=>Kp.refl _ _) l.length listed a w hcl (Region.free_spec hio hfree) hr' hy (Kp.refl _ _) (rest v fr' hr' hk hF');intro listed' hcl' hun j hj hji w2 w3 hT hjq hSw
     by_cases hjq1:z51 ops j=true
     ·rw[hjq hjq1];exact hT
     ·--what changes the world here writes what the load does not read
      obtain⟨_,oj,hoj,hall⟩:=mem_ready.1 hj;have hjs:j<ops.size:=(Array.getElem?_eq_some_iff.1 hoj).1;have his:i<ops.size:=(Array.getElem?_eq_some_iff.1 hio).1;have h1:=List.all_eq_true.1 hE j (List.mem_range.2 hjs);simp only[hoj,Bool.or_eq_true] at h1;rcases h1 with h1|h1
      ·exact absurd (by unfold z51;rw[hoj];exact h1) hjq1
      ·have h2:=List.all_eq_true.1 h1 i (List.mem_range.2 his);simp only[Bool.or_eq_true] at h2;rcases h2 with h2|h2
       ·exfalso
        have h3:=afterOk_listed hA hcl' (j+1) j (Nat.lt_succ_self _) oj hoj hall i (by simpa using h2);rw[getD_down hun] at h3
        cases h3
       ·exact hT.trans (hSw.mono fun b hb=>hb.mono fun id hid=>by simpa using List.all_eq_true.1 h2 id hid)
    ·--no load:it yields in every world
     obtain⟨v,fr',hy,hk,hF'⟩:=stp_quiet (C:=fun _=>True) hS hF hdo hq (fun he=>by
      rcases he with⟨t,x,he⟩|he
      ·rw[he] at hld;exact absurd rfl hld
      ·cases he) h
     exact wpAnyG_first (T:=fun _=>True) hio hisq (Region.noSelect_spec hns) (fun c a w hh=>absurd hh (hQp c _ w)) (fun _ _ _ _ _ _ _ _ _ _ _=>trivial) (fun _=>Kp.refl _ _) l.length listed a w hcl (Region.free_spec hio hfree) hr' hy trivial (rest v fr' hr' hk hF')
  |false=>
   rw[hq] at hs1 hs2;simp only[Bool.false_eq_true,if_false,Bool.not_false,Bool.or_true] at hs1 hs2;have hrd:Region.ready .any ops listed=[i]:=by simpa using hs1
   have hisq:z51 ops i=false:=by unfold z51;rw[hio];exact hq
   have hcl2:=hcl.set (i:=i) (by rw[hrd];simp);refine⟨fun h0=>(by rw[hrd] at h0;cases h0),fun j hj=> ?_⟩;rw[hrd] at hj;have hji:j=i:=by simpa using hj
   subst hji;have he:=stp_eff (Q:=Q) hS hF hdo hq h;unfold wpOp;rw[hio];simp only
   split at he
   ·rename_i hw;rw[if_pos hw];refine .inl (Oper.wp_mono (fun a' w' hp=> ?_) he);obtain⟨β',fr',H',hk,hF',hS',hag',hle',hsub',hkp'⟩:=hp
    have hkp2:Kp w (inW β1 H1 (Wf.getD j [])) w':=(hkp' rfl).mono fun b hin=>by
     obtain⟨id,k,o',L,hm,hlk,how,hbb,hblk⟩:=hin;obtain⟨o0,q1,q2⟩:=hsub id k o' (hWn j id hm) hlk how;exact⟨id,k,o0,L,hm,q1,q2,by rw[←hag id k (hWn j id hm)];exact hbb,hblk⟩
    exact⟨⟨fun hh=>(by rw[hisq] at hh;cases hh),hkp2⟩,runO_ok (w1:=w1) hQ hQp hns hA hE hWn l _ true hl' hdst' hs2 hcl2 hS' hF' (fun hh=>by cases hh) (hag.trans hag' hle) (Nat.le_trans hle hle') (hsub.trans hsub' hle) hk⟩
   ·rename_i hw;rw[if_neg hw];obtain⟨fr',hk,hF'⟩:=he;exact⟨⟨fun hh=>(by rw[hisq] at hh;cases hh),Kp.refl _ _⟩,runO_ok (w1:=w1) hQ hQp hns hA hE hWn l _ true hl' hdst' hs2 hcl2 hS hF' (fun hh=>by cases hh) hag hle hsub hk⟩
end Go.Sk

namespace Go.Sk
open Go.RowKit
def lift (X:Cx)(Q:Exit→Fr→AH→Prop):Exit→Act→World→Prop
 |.panic _,_,_=>False
 |.outgrown,_,_=>False
 |e,a,w=>At X (Q e) a w
def Cw (X:Cx)(c:Code)(Q:Exit→Fr→AH→Prop)(fr:Fr)(H:AH):Prop:=
 ∀β a w,FrOk X β H.nxt fr a→St X β H w→c.wp X.P (lift X Q) a w
def thenK (K:Fr→AH→Prop)(Q:Exit→Fr→AH→Prop):Exit→Fr→AH→Prop
 |.normal,fr,H=>K fr H
 |e,fr,H=>Q e fr H
def inBlk (id:Nat)(Q:Exit→Fr→AH→Prop):Exit→Fr→AH→Prop
 |.exit id',fr,H=>if id'=id then Q .normal fr H else Q (.exit id') fr H
 |e,fr,H=>Q e fr H
section
variable {X:Cx} {Q:Exit→Fr→AH→Prop} {fr:Fr} {H:AH}
theorem Cw.mono {c:Code}{Q':Exit→Fr→AH→Prop}(h:Cw X c Q fr H)(hq:∀e fr H,Q e fr H→Q' e fr H):Cw X c Q' fr H:=fun β a w hF hS=>
 Code.wp_mono (fun e a w h=>by
  cases e<;>first|exact h|(obtain⟨β,fr,H,h1,h2⟩:=h;exact⟨β,fr,H,hq _ _ _ h1,h2⟩)) (h β a w hF hS)
theorem Cw.seq {x y:Code}(h:∀K:Fr→AH→Prop,(∀fr H,Cw X y Q fr H→K fr H)→Cw X x (thenK K Q) fr H):Cw X (.seq x y) Q fr H:=fun β a w hF hS=>by
 refine wp_seq (Code.wp_mono (fun e a w hh=> ?_) (h (fun fr H=>Cw X y Q fr H) (fun _ _ h=>h) β a w hF hS))
 cases e with
 |normal=>
  obtain⟨β',fr',H',h1,h2,h3⟩:=hh;exact h1 β' a w h2 h3
 |_=>exact hh
theorem Cw.skip (h:Q .normal fr H):Cw X .skip Q fr H:=fun β _ _ hF hS=>wp_skip ⟨β,fr,H,h,hF,hS⟩
theorem Cw.exit {id:Nat}(h:Q (.exit id) fr H):Cw X (.exit id) Q fr H:=fun β _ _ hF hS=>wp_exit ⟨β,fr,H,h,hF,hS⟩
theorem Cw.ret (h:Q .ret fr H):Cw X .ret Q fr H:=fun β _ _ hF hS=>wp_ret ⟨β,fr,H,h,hF,hS⟩
theorem Cw.block {id:Nat}{c:Code}(h:Cw X c (inBlk id Q) fr H):Cw X (.block id c) Q fr H:=fun β a w hF hS=>by
 refine wp_block (Code.wp_mono (fun e a w hh=> ?_) (h β a w hF hS))
 cases e with
 |exit id'=>
  obtain⟨β',fr',H',h1,h2⟩:=hh;simp only[inBlk] at h1;simp only[Exit.inBlock]
  split at h1
  ·rename_i he;rw[if_pos he];exact⟨β',fr',H',h1,h2⟩
  ·rename_i he;rw[if_neg he];exact⟨β',fr',H',h1,h2⟩
 |_=>exact hh
theorem Cw.cond {t:Tmp}{x y:Code}{b:Bool}(hb:get fr t=some (.bool b))(h1:b=true→Cw X x Q fr H)(h2:b=false→Cw X y Q fr H):Cw X (.cond (.tmp t) x y) Q fr H:=fun β a w hF hS=>by
 obtain⟨_,v,hv,hd⟩:=hF.get _ _ hb;simp only[den] at hd;have he:a.eval (.tmp t)= .bool b:=by simp[Act.eval,Array.getD_eq_getD_getElem?,hv,hd]
 exact wp_cond_split he (fun h=>h1 h β a w hF hS) (fun h=>h2 h β a w hF hS)
theorem St.drew {β:Env}{w:World}(hS:St X β H w):St X β H w.drew:=hS.ext Blw.drew'
theorem Cw.regionDraw {id : Nat} {ops : Array Oper} (ord : List Nat) (A Wf Uq : List (List Nat)) (hm : X.P.follows .mixedOrders = true)
    (hd:dstOk X.n ops.toList=true) (hlen:ord.length=ops.size) (hlt:ord.all (fun i=>decide (i<ops.size))=true) (hns:Region.noSelect ops=true) (hA:afterOk ops A=true) (hE:effOk ops A Wf Uq=true) (hWn:Wf.all (fun l=>l.all fun i=>decide (i<H.nxt))=true)
    (hs:sched ops (ord.map fun i=>(i,ops.getD i default)) (Array.replicate ops.size false) false=true)
    (h:runO X.P X.wrap X.m0 Wf Uq ops (ord.map fun i=>(i,ops.getD i default)) fr H (Q .normal)):Cw X (.region id ops true) Q fr H:=fun β a w hF hS=>by
  refine wp_region_any hm (wpAny_of_G (S:=fun j w w'=>Kp w (inW β H (Wf.getD j [])) w') (isq:=z51 ops) _ _ _ _ ?_);have hall:∀i∈ord,i<ops.size:=fun i hi=>by simpa using List.all_eq_true.1 hlt i hi
  have hget:∀i∈ord,ops[i]? =some (ops.getD i default):=fun i hi=>by
    have:=hall i hi;simp[Array.getD,this]
  have := runO_ok (X := X) (ops := ops) (K := Q .normal) (Q := lift X Q) (fun _ _ h => h) (fun _ _ _ h => h) hns hA hE (w1 := w.drew) (β1 := β) (H1 := H) (fun j id hid => by
      rcases Nat.lt_or_ge j Wf.length with hj|hj
      · rw[List.getD,List.getElem?_eq_getElem hj] at hid;simpa using List.all_eq_true.1 (List.all_eq_true.1 hWn _ (List.getElem_mem hj)) id hid
      · rw[List.getD,List.getElem?_eq_none hj] at hid
        cases hid)
    (ord.map fun i=>(i,ops.getD i default)) (Array.replicate ops.size false) false (a:=a) (fun x hx=>by
      obtain⟨i,hi,rfl⟩:=List.mem_map.1 hx
      exact hget i hi) (by
      refine List.all_eq_true.2 fun o ho=> ?_;obtain⟨x,hx,rfl⟩:=List.mem_map.1 ho;obtain⟨i,hi,rfl⟩:=List.mem_map.1 hx;have h0:=hget i hi
      have h1:(ops.getD i default)∈ops.toList:=by
        have:=Array.mem_of_getElem? h0;simpa using this
      exact List.all_eq_true.1 hd _ h1) hs (fun j oj _ hl=>by
      exfalso
      rcases Nat.lt_or_ge j ops.size with h'|h'
      · simp[h'] at hl
      · simp[h'] at hl) hS.drew hF (fun _=>⟨rfl,rfl,rfl⟩) (Env.agree.refl _ _) (Nat.le_refl _) (Sub.refl _) h
  rw[List.length_map,hlen] at this;exact this
end
end Go.Sk

namespace Go.Sk
open Go.RowKit
mutual
def SV.ren (ρ:Nat→Nat):SV→SV
 |.ptr id k i j=> .ptr (ρ id) k i j
 |.slc g id k o n=> .slc g (ρ id) k o n
 |.mp id k=> .mp (ρ id) k
 |.fn f l=> .fn f (SV.renL ρ l)
 |.agg l=> .agg (SV.renL ρ l)
 |.tup l=> .tup (SV.renL ρ l)
 |.gd g s=> .gd g (SV.ren ρ s)
 |.ifc t s=> .ifc t (SV.ren ρ s)
 |s=>s
def SV.renL (ρ:Nat→Nat):List SV→List SV
 |[]=>[]
 |s::l=>SV.ren ρ s::SV.renL ρ l
end
def Env.via (β:Env)(ρ:Nat→Nat):Env:=fun id k=>β (ρ id) k
mutual
theorem z44 {β:Env}{ρ:Nat→Nat}:∀(s:SV) (v:Value),den β (s.ren ρ) v↔den (β.via ρ) s v
 |.int ..,_=>Iff.rfl
 |.bool _,_=>Iff.rfl
 |.str _,_=>Iff.rfl
 |.nilp,_=>Iff.rfl
 |.nils,_=>Iff.rfl
 |.nilfn,_=>Iff.rfl
 |.raw _,_=>Iff.rfl
 |.ptr ..,_=>Iff.rfl
 |.slc ..,_=>Iff.rfl
 |.mp ..,_=>Iff.rfl
 |.fn f l,v=>by
  simp only[SV.ren,den];exact⟨fun⟨vs,h,e⟩=>⟨vs,(denL_ren l vs).1 h,e⟩,fun⟨vs,h,e⟩=>⟨vs,(denL_ren l vs).2 h,e⟩⟩
 |.agg l,v=>by
  simp only[SV.ren,den];exact⟨fun⟨vs,h,e⟩=>⟨vs,(denL_ren l vs).1 h,e⟩,fun⟨vs,h,e⟩=>⟨vs,(denL_ren l vs).2 h,e⟩⟩
 |.tup l,v=>by
  simp only[SV.ren,den];exact⟨fun⟨vs,h,e⟩=>⟨vs,(denL_ren l vs).1 h,e⟩,fun⟨vs,h,e⟩=>⟨vs,(denL_ren l vs).2 h,e⟩⟩
 |.ifc t s,v=>by
  simp only[SV.ren,den];exact⟨fun⟨u,h,e⟩=>⟨u,(z44 s u).1 h,e⟩,fun⟨u,h,e⟩=>⟨u,(z44 s u).2 h,e⟩⟩
 |.gd g s,v=>by
  simp only[SV.ren,den];exact⟨fun⟨h,e⟩=>⟨fun hg=>(z44 s v).1 (h hg),e⟩,fun⟨h,e⟩=>⟨fun hg=>(z44 s v).2 (h hg),e⟩⟩
theorem denL_ren {β:Env}{ρ:Nat→Nat}:∀(l:List SV) (vs:List Value),z2h β (SV.renL ρ l) vs↔z2h (β.via ρ) l vs
 |[],_=>Iff.rfl
 |s::l,vs=>by
  simp only[SV.renL,z2h];exact⟨fun⟨v,r,h1,h2,e⟩=>⟨v,r,(z44 s v).1 h1,(denL_ren l r).1 h2,e⟩,fun⟨v,r,h1,h2,e⟩=>⟨v,r,(z44 s v).2 h1,(denL_ren l r).2 h2,e⟩⟩
end
mutual
theorem lt_ren {ρ:Nat→Nat}{m m':Nat}(h:∀id,id<m→ρ id<m'):∀(s:SV),s.lt m→(s.ren ρ).lt m'
 |.int ..,_=>trivial
 |.bool _,_=>trivial
 |.str _,_=>trivial
 |.nilp,_=>trivial
 |.nils,_=>trivial
 |.nilfn,_=>trivial
 |.raw _,_=>trivial
 |.ptr ..,hl=>h _ hl
 |.slc ..,hl=>h _ hl
 |.mp ..,hl=>h _ hl
 |.fn _ l,hl=>ltL_ren h l hl
 |.agg l,hl=>ltL_ren h l hl
 |.tup l,hl=>ltL_ren h l hl
 |.gd _ s,hl=>fun hg=>lt_ren h s (hl hg)
 |.ifc _ s,hl=>lt_ren h s hl
theorem ltL_ren {ρ:Nat→Nat}{m m':Nat}(h:∀id,id<m→ρ id<m'):∀(l:List SV),SV.ltL m l→SV.ltL m' (SV.renL ρ l)
 |[],_=>trivial
 |s::l,hl=>⟨lt_ren h s hl.1,ltL_ren h l hl.2⟩
end
theorem renL_eq (ρ:Nat→Nat):∀l:List SV,SV.renL ρ l=l.map (SV.ren ρ)
 |[]=>rfl
 |s::l=>by simp[SV.renL,renL_eq ρ l]
theorem scalar_ren (ρ:Nat→Nat)(s:SV):(s.ren ρ).scalar=s.scalar:=by cases s<;>rfl
def z3s (ρ:Nat→Nat)(r r':Row):Prop:=
 (r'.own=true→r.own=true∧r'.e=r.e)∧r'.sz=r.sz∧r'.n≤r.n∧∀i,i<r'.n→r.f i=SV.renL ρ (r'.f i)
def mapGives (ρ:Nat→Nat):z2z→z2z→Prop
 |.ints n h g z,.ints n' h' g' z'=>n'=n∧(∀a,h' a=h a)∧(∀a,g a=(g' a).ren ρ)∧z=z'.ren ρ
 |.prs n h g z,.prs n' h' g' z'=>n'=n∧(∀a b,h' a b=h a b)∧(∀a b,g a b=(g' a b).ren ρ)∧z=z'.ren ρ
 |_,_=>False
theorem mapGives_all {ρ:Nat→Nat}{M M':z2z}(h:mapGives ρ M M'):M'.n=M.n∧(∀v,M'.has v=M.has v)∧(∀v,M.val v=(M'.val v).ren ρ)∧M.z=M'.z.ren ρ:=by
 cases M<;>cases M'<;>simp only[mapGives] at h
 all_goals
  obtain⟨h1,h2,h3,h4⟩:=h;refine⟨h1,fun v=> ?_,fun v=> ?_,h4⟩<;>simp only[z2z.has,z2z.val]<;>split<;>first|exact h2 _|exact h2 _ _|exact h3 _|exact h3 _ _|exact h4|rfl
def z1b (ρ:Nat→Nat):Obj→Obj→Prop
 |.row r,.row r'=>z3s ρ r r'
 |.blk w p,.blk w' p'=>(w'=true→w=true)∧p=p'
 |.mapo w p,.mapo w' p'=>(w'=true→w=true)∧mapGives ρ p p'
 |_,_=>False
theorem z4b {ρ:Nat→Nat}{o o':Obj}(h:z1b ρ o o')(ho:o'.own=true):o.own=true:=by
 cases o<;>cases o'<;>simp only[z1b] at h
 ·exact(h.1 ho).1
 ·exact h.1 ho
 ·exact h.1 ho
theorem objGives_holds {ρ:Nat→Nat}{o o':Obj}(h:z1b ρ o o'){β:Env}{w:World}{q:Option Loc}(hh:o.holds β w q):o'.holds (β.via ρ) w q:=by
 cases o<;>cases o'<;>simp only[z1b] at h
 ·rename_i r r';obtain⟨h1,h2,h3,h4⟩:=h;rcases hh with⟨hn,hq⟩|⟨L,hq,e1,e2,e3,e4⟩
  ·exact .inl ⟨by omega,hq⟩
  ·refine .inr ⟨L,hq,by omega,e2,fun i hi=> ?_,fun ho=> ?_⟩
   ·have:=e3 i (by omega);rw[h4 i hi] at this;refine⟨by rw[renL_eq,List.length_map] at this;omega,fun j s hs=> ?_⟩;have hj:(SV.renL ρ (r'.f i))[j]? =some (s.ren ρ):=by rw[renL_eq,List.getElem?_map,hs];rfl
    obtain⟨c1,v,c2,c3⟩:=this.2 j _ hj;exact⟨by rw[←scalar_ren ρ];exact c1,v,c2,(z44 s v).1 c3⟩
   ·obtain⟨a,b,c,cur,d,e⟩:=e4 (h1 ho).1;exact⟨a,by omega,c,cur,by rw[(h1 ho).2];exact d,by rw[h2];exact e⟩
 ·obtain⟨_,rfl⟩:=h;exact hh
 ·obtain⟨L,b,hq,hb,es,clk,e1,e2,e6,e3,e4,e5⟩:=hh;obtain⟨q1,q2,q3,q4⟩:=mapGives_all h.2;refine⟨L,b,hq,hb,es,clk,e1,e2.trans q1.symm,e6,fun k=>by rw[q2];exact e3 k,fun e he=> ?_,fun k hk v hv=> ?_⟩
  ·have:=e4 e he;rw[q3] at this;exact(z44 _ _).1 this
  ·have:=e5 k (by rw[←q2];exact hk) v (by rw[q4];exact(z44 _ _).2 hv);rw[q3] at this;exact(z44 _ _).1 this
def z56 (ρ:Nat→Nat)(m:Nat)(os:List (Nat×Nat×(Nat→Obj))):List (Nat×Nat×(Nat→Obj))→Prop
 |[]=>True
 |(id,c',F')::l=>
  (match find os (ρ id) with
   |some (c,F)=>c'≤c∧∀k,k<c'→z1b ρ (F k) (F' k)∧(F' k).lt m
   |none=>False)∧id<m∧z56 ρ m os l
theorem z1g:∀{os:List (Nat×Nat×(Nat→Obj))} {id:Nat} {x:Nat×(Nat→Obj)},find os id=some x→(id,x)∈os
 |[],_,_,h=>by simp[find] at h
 |(i,y)::l,id,x,h=>by
  simp only[find] at h
  split at h
  ·rename_i he
   cases h;subst he
   exact List.mem_cons_self ..
  ·exact List.mem_cons_of_mem _ (z1g h)
theorem z1d {os:List (Nat×Nat×(Nat→Obj))}{id k:Nat}{o:Obj}(h:look os id k=some o):∃c F,find os id=some (c,F)∧k<c∧o=F k:=by
 unfold look at h
 split at h
 ·rename_i c F hf
  split at h
  ·exact⟨c,F,hf,by assumption,(Obj.opt_some h).1⟩
  ·cases h
 ·cases h
theorem z56.get {ρ:Nat→Nat}{m:Nat}{os:List (Nat×Nat×(Nat→Obj))}:∀{os':List (Nat×Nat×(Nat→Obj))},z56 ρ m os os'→∀id c' F',(id,c',F')∈os'→
  id<m∧∃c F,find os (ρ id)=some (c,F)∧c'≤c∧∀k,k<c'→z1b ρ (F k) (F' k)∧(F' k).lt m
 |[],_,_,_,_,hm=>by cases hm
 |(i,c1,F1)::l,h,id,c',F',hm=>by
  obtain⟨h1,h2,h3⟩:=h
  cases hm with
  |head=>
   refine⟨h2,?_⟩
   split at h1
   ·rename_i c F hf;exact⟨c,F,hf,h1.1,h1.2⟩
   ·exact h1.elim
  |tail _ hm=>exact z56.get h3 id c' F' hm
theorem z56.look {ρ:Nat→Nat}{m:Nat}{os os':List (Nat×Nat×(Nat→Obj))}(h:z56 ρ m os os'){id k:Nat}{o':Obj}(hl:look os' id k=some o'):
  id<m∧o'.lt m∧∃o,Sk.look os (ρ id) k=some o∧z1b ρ o o':=by
 have hgn:=z38 hl;obtain⟨c',F',hf,hk,rfl⟩:=z1d hl;obtain⟨h1,c,F,h2,h3,h4⟩:=h.get _ _ _ (z1g hf);have hgo:=(h4 k hk).1;refine⟨h1,(h4 k hk).2,F k,(zt h2 (by omega)).trans (Obj.opt_of fun e=> ?_),hgo⟩;rw[e] at hgo
 cases hF:F' k<;>rw[hF] at hgo<;>simp only[z1b] at hgo
def InjOn (ρ:Nat→Nat)(os':List (Nat×Nat×(Nat→Obj))):Prop:=
 ∀id k o id' k' o',look os' id k=some o→look os' id' k'=some o'→o.own=true→ρ id=ρ id'→id=id'
def injB (ρ:Nat→Nat)(os':List (Nat×Nat×(Nat→Obj))):Bool:=
 os'.all fun x=>os'.all fun y=> !(x.2.2 0).own||x.1==y.1|| !(ρ x.1==ρ y.1)
def ownU (os':List (Nat×Nat×(Nat→Obj))):Prop:=∀x∈os',∀k,(x.2.2 k).own=(x.2.2 0).own
theorem InjOn.of {ρ:Nat→Nat}{os':List (Nat×Nat×(Nat→Obj))}(h:injB ρ os'=true)(hu:ownU os'):InjOn ρ os':=fun id k o id' k' o' h1 h2 h3 h4=>by
 obtain⟨c,F,hf,hk,rfl⟩:=z1d h1;obtain⟨c',F',hf',hk',rfl⟩:=z1d h2;have q:=List.all_eq_true.1 (List.all_eq_true.1 h _ (z1g hf)) _ (z1g hf');simp only[Bool.or_eq_true,Bool.not_eq_true',beq_iff_eq,beq_eq_false_iff_ne,ne_eq] at q;rcases q with(q|q)|q
 ·have:=hu _ (z1g hf) k;rw[h3] at this;simp only at this q;rw[q] at this;cases this
 ·exact q
 ·exact absurd h4 q
structure z4n (X:Cx) (ρ:Nat→Nat) (fr:Fr) (H:AH) (fr':Fr) (H':AH):Prop where
 fr:∀t s,get fr' t=some s→get fr t=some (s.ren ρ)∧s.lt H'.nxt
 os:z56 ρ H'.nxt H.os H'.os
 inj:InjOn ρ H'.os
 fix:∀id,id<X.m0→ρ id=id
 m0:X.m0≤H'.nxt
 keep:∀id k,id<X.m0→(∃o,look H.os id k=some o∧o.own=true)→∃o,look H'.os id k=some o∧o.own=true
 big:∀id k o,X.m0≤id→look H'.os id k=some o→o.own=true→X.m0≤ρ id
theorem z4n.frOk {X:Cx}{ρ:Nat→Nat}{fr fr':Fr}{H H':AH}(h:z4n X ρ fr H fr' H'){β:Env}{a:Act}(hF:FrOk X β H.nxt fr a):FrOk X (β.via ρ) H'.nxt fr' a:=
 ⟨hF.defers,hF.size,fun t s hs=>by
  obtain⟨h1,h2⟩:=h.fr t s hs;obtain⟨_,v,h3,h4⟩:=hF.get t _ h1
  exact⟨h2,v,h3,(z44 s v).1 h4⟩⟩
theorem z4n.st {X:Cx}{ρ:Nat→Nat}{fr fr':Fr}{H H':AH}(h:z4n X ρ fr H fr' H'){β:Env}{w:World}(hS:St X β H w):St X (β.via ρ) H' w where
 os:=hS.os
 tape:=hS.tape
 output:=hS.output
 size:=hS.size
 fix id k hl:=by
  show β (ρ id) k=_
  rw[h.fix id hl];exact hS.fix id k hl
 holds id k o hl:=by
  obtain⟨_,_,o0,h1,h2⟩:=h.os.look hl;exact objGives_holds h2 (hS.holds _ _ _ h1)
 sep id k id' k' o o' L L' hl hl' ho hb hb' he:=by
  obtain⟨_,_,o0,h1,h2⟩:=h.os.look hl;obtain⟨_,_,o1,h3,h4⟩:=h.os.look hl';have:=hS.sep _ _ _ _ _ _ _ _ h1 h3 (z4b h2 ho) hb hb' he;exact⟨h.inj _ _ _ _ _ _ hl hl' ho this.1,this.2⟩
 old b hb hn:=hS.old b hb fun id k o L hl ho hbb he=>by
  rcases hS.mine _ _ _ _ hl ho hbb with⟨h1,_⟩|⟨_,h2⟩
  ·obtain⟨o',q1,q2⟩:=h.keep id k h1 ⟨o,hl,ho⟩;refine hn id k o' L q1 q2 ?_ he
   show β (ρ id) k=_
   rw[h.fix id h1];exact hbb
  ·omega
 mine id k o L hl ho hb:=by
  obtain⟨hlt,_,o0,h1,h2⟩:=h.os.look hl;rcases hS.mine _ _ _ _ h1 (z4b h2 ho) hb with⟨q1,q2⟩|⟨q1,q2⟩
  ·by_cases hm:id<X.m0
   ·rw[h.fix id hm] at q2;exact .inl ⟨hm,q2⟩
   ·have:=h.big id k o (by omega) hl ho;omega
  ·by_cases hm:id<X.m0
   ·have:=h.fix id hm;omega
   ·exact .inr ⟨by omega,q2⟩
 keep id k ho:=by
  obtain⟨q1,o,q2,q3⟩:=hS.keep id k ho;exact⟨q1,h.keep id k q1 ⟨o,q2,q3⟩⟩
 m0:=h.m0
 lt id k o hl:=by
  obtain⟨h1,h2,_⟩:=h.os.look hl;exact⟨h1,h2⟩
 tabs:=hS.tabs
 drawn:=hS.drawn
def frGives (ρ:Nat→Nat)(m:Nat)(fr:Fr):Fr→Prop
 |[]=>True
 |(t,s)::l=>(get fr t=some (s.ren ρ)∧s.lt m)∧frGives ρ m fr l
theorem frGives_ok {ρ:Nat→Nat}{m:Nat}{fr:Fr}:∀{fr':Fr},frGives ρ m fr fr'→∀t s,get fr' t=some s→get fr t=some (s.ren ρ)∧s.lt m
 |[],_,_,_,h=>by simp[get] at h
 |(u,s0)::l,h,t,s,hs=>by
  simp only[get] at hs
  split at hs
  ·rename_i he
   cases hs;subst he
   exact h.1
  ·exact frGives_ok h.2 t s hs
def keepB (m0:Nat)(os os':List (Nat×Nat×(Nat→Obj))):Prop:=
 ∀x∈os,x.1<m0→(x.2.2 0).own=true→match find os' x.1 with
  |some (c,F)=>c=x.2.1∧∀k,(F k).own=true
  |none=>False
def bigB (m0:Nat)(ρ:Nat→Nat)(os':List (Nat×Nat×(Nat→Obj))):Bool:=os'.all fun x=>decide (x.1<m0)||decide (m0≤ρ x.1)|| !(x.2.2 0).own
theorem z4n.mk' {X:Cx}{fr:Fr}{H:AH}{fr':Fr}{H':AH}(ρ:Nat→Nat)(h1:frGives ρ H'.nxt fr fr')(h2:z56 ρ H'.nxt H.os H'.os)(h3:injB ρ H'.os=true)(h3u:ownU H'.os)(h4:(List.range X.m0).all (fun id=>ρ id==id)=true)
  (h5:X.m0≤H'.nxt) (h6:ownU H.os) (h7:keepB X.m0 H.os H'.os) (h8:bigB X.m0 ρ H'.os=true):z4n X ρ fr H fr' H' where
 fr:=frGives_ok h1
 os:=h2
 inj:= .of h3 h3u
 fix id hid:=by simpa using List.all_eq_true.1 h4 id (List.mem_range.2 hid)
 m0:=h5
 keep id k hid ho:=by
  obtain⟨o,ho1,ho2⟩:=ho;obtain⟨c,F,hf,hk,rfl⟩:=z1d ho1;have:=h7 _ (z1g hf) hid (by have:=h6 _ (z1g hf) k;simp only at this;rw[←this];exact ho2);simp only at this
  split at this
  ·rename_i c' F' hf';exact⟨F' k,(zt hf' (by omega)).trans (Obj.opt_of fun e=>by have:=this.2 k;rw[e] at this;cases this),this.2 k⟩
  ·exact this.elim
 big id k o h0 hl ho:=by
  obtain⟨c,F,hf,hk,rfl⟩:=z1d hl;have h9:=List.all_eq_true.1 h8 _ (z1g hf);have h10:=h3u _ (z1g hf) k;simp only[Bool.or_eq_true,decide_eq_true_eq,Bool.not_eq_true'] at h9;simp only at h10;rw[←h10,ho] at h9;rcases h9 with(h9|h9)|h9
  ·omega
  ·exact h9
  ·cases h9
section
variable {X:Cx} {Q:Exit→Fr→AH→Prop} {fr:Fr} {H:AH}
theorem Cw.weaken {c:Code}{fr':Fr}{H':AH}{ρ:Nat→Nat}(hg:z4n X ρ fr H fr' H')(h:Cw X c Q fr' H'):Cw X c Q fr H:=fun _ a w hF hS=>h _ a w (hg.frOk hF) (hg.st hS)
theorem Cw.loop {σ:Type}{c:Code}(I:σ→Prop)(μ:σ→Nat)(F:σ→Fr)(G:σ→AH)(s0:σ)(h0:I s0){ρ:Nat→Nat}(hg:z4n X ρ fr H (F s0) (G s0))
  (round:∀s,I s→Cw X c (thenK (fun fr' H'=> ∃s',I s'∧μ s'<μ s∧∃ρ,z4n X ρ fr' H' (F s') (G s')) Q) (F s) (G s)):Cw X (.loop c) Q fr H:=fun β a w hF hS=>by
 refine wp_loop_ghost (fun n a w=> ∃s β,I s∧μ s=n∧FrOk X β (G s).nxt (F s) a∧St X β (G s) w) (μ s0) ⟨s0,_,h0,rfl,hg.frOk hF,hg.st hS⟩ ?_;rintro n a w ⟨s,β,hI,rfl,hF,hS⟩;refine Code.wp_mono (fun e a w hh=> ?_) (round s hI β a w hF hS)
 cases e with
 |normal=>
  obtain⟨β',fr',H',⟨s',h1,h2,ρ',h3⟩,h4,h5⟩:=hh;exact⟨μ s',h2,s',_,h1,rfl,h3.frOk h4,h3.st h5⟩
 |_=>exact hh
end
end Go.Sk
