/-
  Walks and plain facts, joined: part 1 of 18.
  Conditions: those that each statement names.
-/
import Derived.WalkKit
import Derived.OrdersHeld
import Derived.Laws.BytesString
set_option linter.unusedSimpArgs false
set_option linter.unusedVariables false
set_option linter.defProp false
set_option maxRecDepth 4000
namespace Go
def qb:=@Nat.le_of_ble_eq_true
def qc:=@if_neg
def qd:=@Nat.le_refl
def qe:=@if_pos
def qf:=@Nat.zero_lt_one
def qg:=@decide_eq_false_iff_not
def qh:=@Bool.false_ne_true
def qi:=@And.intro
def qj:=@Bool.and_eq_true
def qk:=@Bool.or_eq_false_iff
def ql:=@Nat.zero_le
def qm:=@decide_eq_true_eq
def qn:=@Bool.not_eq_true'
def qo:=@List.mem_cons_self
def qp:=@List.mem_cons_of_mem
def qq:=@Int.toNat_natCast
def qr:=@Bool.not_eq_false'
def qt:=@Bool.or_eq_true
def qu:=@List.all_eq_true
def qv:=@List.mem_cons
def qw:=@List.getD_eq_getElem?_getD
def qx:=@List.length_map
def qy:=@List.length_set
def qz:=@Bool.false_eq_true
def qA:=@Go.Result.andThen_ok
def qB:=@decide_eq_true
def qC:=@Bool.and_eq_false_imp
def qD:=@beq_iff_eq
def qE:=@Go.run_underlying
def qF:=@bne_eq_false_iff_eq
def qG:=@decide_eq_false
def qH:=@beq_eq_false_iff_ne
def qI:=@Nat.not_lt_zero
def qJ:=@List.getElem?_eq_getElem
def qK:=@List.getElem_mem
def qL:=@Bool.true_and
def qM:=@Go.Sem.run_bind
def qN:=@List.length_take
def qO:=@Decidable.not_not
def qP:=@List.getElem?_eq_none
def qQ:=@List.getElem?_map
def qR:=@Nat.le_trans
def qS:=@Bool.not_true
def qT:=@Nat.mul_le_mul_right
def qU:=@List.mem_singleton
def qV:=@Nat.add_mul
def qW:=@List.mem_of_getElem?
def qX:=@List.length_append
def qY:=@Bool.eq_iff_iff
def qZ:=@List.getElem?_eq_some_iff
def q6:=@Option.map_eq_some_iff
def q7:=@Array.getElem?_eq_some_iff
def q8:=@List.map_cons
def q9:=@if_true
def Qa:=@List.mem_append
def Qb:=@List.getElem?_take
def Qc:=@Nat.lt_of_lt_of_le
def Qd:=@List.pairwise_iff_getElem
def Qe:=@List.set_cons_succ
def Qf:=@List.set_cons_zero
def Qg:=@List.mem_append_right
def Qh:=@Go.Sem.run_pure
def Qi:=@bne_iff_ne
def Qj:=@List.take_of_length_le
def Qk:=@List.getElem_of_mem
def Ql:=@if_false
def Qm:=@Bool.false_and
def Qn:=@List.length_singleton
def Qo:=@Nat.lt_or_ge
def Qp:=@Nat.lt_succ_self
def Qq:=@Bool.and_false
def Qr:=@List.getElem?_of_mem
def Qs:=@List.mem_map
def Qt:=@Ne.symm
def Qu:=@List.mem_range
def Qv:=@congrArg
def Qw:=@List.ext_getElem
def Qx:=@Option.some.injEq
def Qy:=@List.length_replicate
def Qz:=@List.pairwise_cons
def QA:=@Int.not_le
def QB:=@Int.not_lt
def QC:=@List.getElem?_append_left
def QD:=@List.mem_append_left
def QE:=@Nat.zero_add
def QF:=@List.append_assoc
def QG:=@Array.getElem?_toList
def QH:=@Nat.le_succ
def QI:=@List.getElem?_append_right
def QJ:=@List.not_mem_nil
def QK:=@Iff.rfl
def QL:=@Array.getElem?_eq_none
def QN:=@List.length_cons
def QO:=@List.length_drop
def QP:=@List.getElem?_cons_zero
def QQ:=@true_and
def QR:=@List.getElem?_drop
def QS:=@Go.MapKept.run_getObj_map
def QT:=@Array.length_toList
def QU:=@List.map_nil
def QV:=@Nat.sub_self
def QW:=@Nat.succ_pos
def QX:=@Nat.min_eq_left
def QY:=@Array.getD_eq_getD_getElem?
def QZ:=@List.cons_append
def Q8:=@List.getElem?_append
def Q9:=@Go.World.cell?_of_block
def ja:=@Nat.add_zero
def jb:=@List.take_succ_cons
def jc:=@List.append_nil
def jd:=@List.length_filter_le
def je:=@List.eq_nil_of_length_eq_zero
def jf:=@List.take_length
def jg:=@Go.MapKept.run_checkKey
def jh:=@List.getElem_take
def ji:=@Nat.lt_trichotomy
def jj:=@Option.map_some
def jk:=@List.getElem?_range
def jl:=@Bool.or_false
def jm:=@Nat.add_assoc
def jn:=@Prod.mk.injEq
def jo:=@List.map_toArray
def jp:=@List.take_succ_eq_append_getElem
def jq:=@List.drop_zero
def jr:=@List.filter_append
def js:=@List.take_zero
def jt:=@List.drop_eq_getElem_cons
def ju:=@Nat.one_mul
def jv:=@congrFun
def jw:=@List.contains_nil
def jx:=@List.getElem_drop
def jy:=@Go.ByteArray.toList_eq
def jz:=@Go.MapKept.run_findKey
def jA:=@List.getElem_map
def jB:=@Nat.lt_one_iff
def jC:=@Option.bind_some
def jD:=@beq_self_eq_true
def jE:=@List.filter_eq_nil_iff
def jF:=@Bool.not_not
def jG:=@Array.mem_of_getElem?
def jH:=@List.mem_filter
def jI:=@List.nil_append
def jJ:=@Option.some.inj
def jK:=@Bool.false_or
def jL:=@Nat.lt_irrefl
def jM:=@List.nodup_append
def jN:=@List.pairwise_map
def jO:=@of_decide_eq_true
def jP:=@List.getElem?_set_ne
def jQ:=@Go.Region.noSelect_spec
def jR:=@decide_true
def jS:=@Go.heap_alloc_new
def jT:=@Nat.add_right_cancel_iff
def jU:=@or_false
def jV:=@List.getElem?_cons_succ
def jW:=@List.getElem?_replicate
def jX:=@List.take_nil
def jY:=@Nat.eq_zero_or_pos
def jZ:=@List.drop_of_length_le
def j0:=@Go.MapKept.run_setObj_map
def j2:=@List.ext_getElem?
def j4:=@Go.Value.slice.injEq
def j5:=@Array.getElem?_modify
def j6:=@Bool.not_false
def j7:=@List.getElem?_toArray
def j8:=@List.map_map
def j9:=@Nat.mul_le_mul
def Ja:=@Go.Oper.wp_mono
def Jb:=@true_implies
def Jc:=@List.any_eq_true
def Jd:=@Go.Region.free_spec
def Je:=@decide_eq_decide
def Jf:=@Array.getElem?_append_left
def Jg:=@Bool.and_self
def Jh:=@Bool.and_true
def Ji:=@List.nodup_iff_pairwise_ne
def Jj:=@Nat.mul_le_mul_left
def Jk:=@Go.run_callFunc_extern
def Jl:=@Array.getElem?_eq_getElem
def Jm:=@Classical.byContradiction
def Jn:=@List.cons.injEq
def Jo:=@List.nodup_cons
def Jp:=@List.range_succ
def Jq:=@Bool.true_or
def Jr:=@Go.Code.wp_mono
def Js:=@Go.run_loadCells_list
def Jt:=@Array.toList_push
def Ju:=@List.Pairwise.nil
def Jv:=@List.any_eq_false
def Jw:=@List.getElem?_set
def Jx:=@Nat.lt_succ_of_lt
def Jy:=@Array.getElem!_eq_getD
def Jz:=@Int.le_refl
def JA:=@Array.toList_inj
def JB:=@Bool.and_eq_false_iff
def JC:=@List.take_append_drop
def JD:=@Array.toArray_toList
def JE:=@Bool.and_eq_true_iff
def JF:=@Bool.or_true
def JG:=@List.foldl_cons
def JH:=@List.length_nil
def JI:=@Nat.one_ne_zero
def JJ:=@Nat.two_pow_pos
def JK:=@Go.setRow_other
def JL:=@List.nodup_nil
def JM:=@and_self
def JN:=@Go.run_part_plain
def JO:=@Nat.mul_one
def JP:=@BitVec.toNat_ofInt
def JQ:=@Option.isSome_none
def JR:=@Go.mem_ready
def JS:=@Go.run_equalIn_struct
def JT:=@List.all_cons
def JU:=@Go.wp_region_any
def JV:=@Array.size_append
def JW:=@List.flatMap_cons
def JX:=@List.size_toArray
def JY:=@Nat.le_of_succ_le
def JZ:=@not_false_eq_true
def J0:=@Go.run_newObj
def J1:=@Bool.not_and
def J2:=@List.filter_cons
def J3:=@Nat.le_of_not_lt
def J4:=@Nat.sub_zero
def J5:=@Option.getD_some
def J6:=@UInt8.not_lt
def J7:=@Int.emod_nonneg
def J8:=@Go.Value.int.injEq
def J9:=@Go.run_equalIn_int
end Go
namespace Go.Sk
open Go.RowKit
def ai {a b : Prop} (x : a) (y : b) : a /\ b := ⟨x, y⟩
inductive SV where
 |int (k:IntKind) (n:Int)
 |bool (b:Bool)
 |str (s:ByteArray)
 |nilp
 |nils
 |ptr (id k i j:Nat)
 |slc (g:Bool) (id k o n:Nat)
 |mp (id k:Nat)
 |fn (f:FuncId) (cap:List SV)
 |nilfn
 |agg (l:List SV)
 |tup (l:List SV)
 |gd (g:Bool) (s:SV)
 |ifc (t:TypeId) (s:SV)
 |raw (v:Value)
 deriving Inhabited
structure Loc where
 blk:Nat
 off:Nat
 sz:Nat
 cap:Nat
abbrev Env:=Nat->Nat->Option Loc
def z56 (β:Env)(g:Bool)(id k o n:Nat)(v:Value):Prop:=
 if g then(β id k=none/\n=0/\o=0/\v= .slice none 0 0)\/∃L c,β id k=some L/\o=0/\L.off=0/\n<=c/\c<=L.cap/\v= .slice (some ⟨L.blk,0,none⟩) n c
 else∃a c,v= .slice a n c/\n<=c/\(0<n->∃L,β id k=some L/\a=some ⟨L.blk,L.off+o*L.sz,none⟩)
mutual
def den (β:Env):SV->Value->Prop
 |.int k n,v=>v= .int k n
 |.bool b,v=>v= .bool b
 |.str s,v=>v= .string s
 |.nilp,v=>v= .pointer none
 |.nils,v=>v= .slice none 0 0
 |.ptr id k i j,v=> ∃L,β id k=some L/\v= .pointer (some ⟨L.blk,L.off+i*L.sz+j,none⟩)
 |.slc g id k o n,v=>z56 β g id k o n v
 |.mp id k,v=> ∃L,β id k=some L/\v= .map (some L.blk)
 |.fn f cap,v=> ∃vs,z2u β cap vs/\v= .func (.func f) #[] vs.toArray
 |.nilfn,v=>v= .nilFunc
 |.agg l,v=> ∃vs,z2u β l vs/\v= .agg vs.toArray
 |.tup l,v=> ∃vs,z2u β l vs/\v= .tuple vs.toArray
 |.gd g s,v=>(g=true->den β s v)/\(g=false->v=undef)
 |.ifc t s,v=> ∃u,den β s u/\v= .iface t u
 |.raw u,v=>v=u
def z2u (β:Env):List SV->List Value->Prop
 |[],vs=>vs=[]
 |s::l,vs=> ∃v r,den β s v/\z2u β l r/\vs=v::r
end
mutual
def SV.lt (m:Nat):SV->Prop
 |.ptr id _ _ _=>id<m
 |.slc _ id _ _ _=>id<m
 |.mp id _=>id<m
 |.fn _ l=>SV.ltL m l
 |.agg l=>SV.ltL m l
 |.tup l=>SV.ltL m l
 |.gd g s=>g=true->SV.lt m s
 |.ifc _ s=>SV.lt m s
 |_=>True
def SV.ltL (m:Nat):List SV->Prop
 |[]=>True
 |s::l=>SV.lt m s/\SV.ltL m l
end
def SV.scalar:SV->Bool
 |.agg _| .tup _| .gd .. =>false
 |.raw v=>v.oneCell'
 |_=>true
def SV.cells:SV->List SV
 |.agg l=>l
 |s=>[s]
def z2k {β:Env}:∀{l:List SV} {vs:List Value},z2u β l vs->vs.length=l.length
 |[],vs,h=>by simp only[z2u] at h;subst h;rfl
 |s::l,vs,h=>by
  simp only[z2u] at h;obtain⟨v,r,_,hr,rfl⟩:=h;simp[z2k hr]
def z4k {β:Env}:∀{l:List SV} {vs:List Value},z2u β l vs->∀(j:Nat) (s:SV),l[j]? =some s->∃v,vs[j]? =some v/\den β s v
 |[],_,_,j,s,hs=>by simp at hs
 |s0::l,vs,h,j,s,hs=>by
  simp only[z2u] at h;obtain⟨v,r,hv,hr,rfl⟩:=h
  cases j with
  |zero=>simp at hs;subst hs;exact⟨v,by simp,hv⟩
  |succ j=>simp at hs;simpa using z4k hr j s hs
def denL_mk {β:Env}:∀(l:List SV) (f:Nat->Value),(∀(j:Nat) (s:SV),l[j]? =some s->den β s (f j))->z2u β l ((List.range l.length).map f)
 |[],_,_=>by simp[z2u]
 |s::l,f,h=>by
  simp only[z2u,QN];refine⟨f 0,(List.range l.length).map (fun j=>f (j+1)),h 0 s (by simp),denL_mk l _ (fun j s' hs=>h (j+1) s' (by simpa using hs)),?_⟩;rw[List.range_succ_eq_map,q8,j8]
  rfl
def denL_append {β:Env}:∀{l l':List SV} {vs vs':List Value},z2u β l vs->z2u β l' vs'->z2u β (l++l') (vs++vs')
 |[],_,vs,_,h,h'=>by simp only[z2u] at h;subst h;simpa using h'
 |s::l,l',vs,vs',h,h'=>by
  simp only[z2u] at h;obtain⟨v,r,hv,hr,rfl⟩:=h;exact⟨v,r++vs',hv,denL_append hr h',rfl⟩
def den_scalar {β:Env}{s:SV}{v:Value}(hs:s.scalar=true)(h:den β s v):v.oneCell'=true:=by
 cases s<;>simp only[den,SV.scalar,qz,z56] at h hs
 case int=>subst h;rfl
 case bool=>subst h;rfl
 case str=>subst h;rfl
 case nilp=>subst h;rfl
 case nils=>subst h;rfl
 case ptr=>obtain⟨L,_,rfl⟩:=h;rfl
 case slc g id k o n=>
  cases g
  ·simp only[qz,Ql] at h;obtain⟨a,c,rfl,_⟩:=h;rfl
  ·simp only[q9] at h;rcases h with⟨_,_,_,rfl⟩|⟨L,c,_,_,_,_,_,rfl⟩<;>rfl
 case mp=>obtain⟨L,_,rfl⟩:=h;rfl
 case fn=>obtain⟨vs,_,rfl⟩:=h;rfl
 case nilfn=>subst h;rfl
 case ifc=>obtain⟨u,_,rfl⟩:=h;rfl
 case raw=>subst h;exact hs
def Env.agree (m:Nat)(β β':Env):Prop:=∀id k,id<m->β' id k=β id k
mutual
def z62 {m:Nat}{β β':Env}(hb:Env.agree m β β'):∀(s:SV) (v:Value),s.lt m->den β s v->den β' s v
 |.int ..,_,_,h=>h
 |.bool _,_,_,h=>h
 |.str _,_,_,h=>h
 |.nilp,_,_,h=>h
 |.nils,_,_,h=>h
 |.nilfn,_,_,h=>h
 |.raw _,_,_,h=>h
 |.ptr id k i j,v,hl,h=>by
  simp only[den,SV.lt] at*;rw[hb id k hl];exact h
 |.slc g id k o n,v,hl,h=>by
  simp only[den,SV.lt,z56] at*;rw[hb id k hl];exact h
 |.mp id k,v,hl,h=>by
  simp only[den,SV.lt] at*;rw[hb id k hl];exact h
 |.fn f l,v,hl,h=>by
  simp only[den,SV.lt] at*;obtain⟨vs,hvs,e⟩:=h;exact⟨vs,z4y hb l vs hl hvs,e⟩
 |.agg l,v,hl,h=>by
  simp only[den,SV.lt] at*;obtain⟨vs,hvs,e⟩:=h;exact⟨vs,z4y hb l vs hl hvs,e⟩
 |.tup l,v,hl,h=>by
  simp only[den,SV.lt] at*;obtain⟨vs,hvs,e⟩:=h;exact⟨vs,z4y hb l vs hl hvs,e⟩
 |.ifc t s,v,hl,h=>by
  simp only[den,SV.lt] at*;obtain⟨u,hu,e⟩:=h;exact⟨u,z62 hb s u hl hu,e⟩
 |.gd g s,v,hl,h=>by
  simp only[den,SV.lt] at*;exact⟨fun hg=>z62 hb s v (hl hg) (h.1 hg),h.2⟩
def z4y {m:Nat}{β β':Env}(hb:Env.agree m β β'):∀(l:List SV) (vs:List Value),SV.ltL m l->z2u β l vs->z2u β' l vs
 |[],_,_,h=>h
 |s::l,vs,hl,h=>by
  simp only[z2u,SV.ltL] at*;obtain⟨v,r,hv,hr,e⟩:=h;exact⟨v,r,z62 hb s v hl.1 hv,z4y hb l r hl.2 hr,e⟩
end
mutual
def SV.lt_mono {m m':Nat}(h:m<=m'):∀(s:SV),s.lt m->s.lt m'
 |.int ..,_=>trivial
 |.bool _,_=>trivial
 |.str _,_=>trivial
 |.nilp,_=>trivial
 |.nils,_=>trivial
 |.nilfn,_=>trivial
 |.raw _,_=>trivial
 |.ptr ..,hl=>Qc hl h
 |.slc ..,hl=>Qc hl h
 |.mp ..,hl=>Qc hl h
 |.fn _ l,hl=>SV.ltL_mono h l hl
 |.agg l,hl=>SV.ltL_mono h l hl
 |.tup l,hl=>SV.ltL_mono h l hl
 |.gd _ s,hl=>fun hg=>SV.lt_mono h s (hl hg)
 |.ifc _ s,hl=>SV.lt_mono h s hl
def SV.ltL_mono {m m':Nat}(h:m<=m'):∀(l:List SV),SV.ltL m l->SV.ltL m' l
 |[],_=>trivial
 |s::l,hl=>⟨SV.lt_mono h s hl.1,SV.ltL_mono h l hl.2⟩
end
def SV.ltL_get {m:Nat}:∀{l:List SV},SV.ltL m l->∀(j:Nat) (s:SV),l[j]? =some s->s.lt m
 |[],_,j,s,hs=>by simp at hs
 |s0::l,h,j,s,hs=>by
  cases j with
  |zero=>simp at hs;subst hs;exact h.1
  |succ j=>simp at hs;exact SV.ltL_get h.2 j s hs
def SV.ltL_of_get {m:Nat}:∀{l:List SV},(∀(j:Nat) (s:SV),l[j]? =some s->s.lt m)->SV.ltL m l
 |[],_=>trivial
 |s0::l,h=>⟨h 0 s0 (by simp),SV.ltL_of_get fun j s hs=>h (j+1) s (by simpa using hs)⟩
structure Row where
 own:Bool
 /--uQ variable:n is 1 -/
 var:Bool:=false
 e:TypeId
 sz:Nat
 n:Nat
 f:Nat->List SV
inductive z59 where
 |ints (l:List Int)
 |strs (l:List ByteArray)
def z59.vals:z59->List Value
 |.ints l=>l.map (.int .i64 ·)
 |.strs l=>l.map (.string ·)
def IsSet (ks:z59)(b:Go.Obj):Prop:=∃es clk,b= .map es clk/\es.toList.map (·.key)=ks.vals/\∀e∈es.toList,e.val= .bool true
inductive z34 where
 |ints (n:Nat) (has:Int->Bool) (val:Int->SV) (z:SV)
 |prs (n:Nat) (has:Int->Int->Bool) (val:Int->Int->SV) (z:SV)
def z34.n:z34->Nat
 |.ints n _ _ _=>n
 |.prs n _ _ _=>n
def z34.z:z34->SV
 |.ints _ _ _ z=>z
 |.prs _ _ _ z=>z
def keyI:Value->Option Int
 |.int .i64 a=>some a
 |_=>none
def keyP:Value->Option (Int×Int)
 |.agg ⟨[.int .i64 a,.int .u32 b]⟩=>some (a,b)
 |_=>none
def z34.has:z34->Value->Bool
 |.ints _ h _ _,v=>match keyI v with|some a=>h a|none=>false
 |.prs _ h _ _,v=>match keyP v with|some (a,b)=>h a b|none=>false
def z34.val:z34->Value->SV
 |.ints _ _ g z,v=>match keyI v with|some a=>g a|none=>z
 |.prs _ _ g z,v=>match keyP v with|some (a,b)=>g a b|none=>z
inductive Obj where
 |row (r:Row)
 /--A map whose values are all true. -/
 |blk (own:Bool) (ks:z59)
 /--A map. -/
 |mapo (own:Bool) (M:z34)
 /--A member of a family that is no more. -/
 |gone
def Obj.own:Obj->Bool
 |.row r=>r.own
 |.blk o _=>o
 |.mapo o _=>o
 |.gone=>false
def Obj.opt:Obj->Option Obj
 |.gone=>none
 |o=>some o
def Row.cellsOk (r:Row)(β:Env)(w:World)(L:Loc):Prop:=
 ∀i,i<r.n->(r.f i).length=r.sz/\∀(j:Nat) (s:SV),(r.f i)[j]? =some s->s.scalar=true/\∃v,w.cell? ⟨L.blk,L.off+i*L.sz+j,none⟩=some v/\den β s v
def Row.holds (r:Row)(β:Env)(w:World)(q:Option Loc):Prop:=
 (r.n=0/\q=none)\/∃L,q=some L/\L.sz=r.sz/\L.blk<w.heap.size/\r.cellsOk β w L/\
  (r.own=true->L.off=0/\r.n<=L.cap/\L.cap<=maxLen/\∃cur:Array Value,w.heap[L.blk]? =some (.cells cur r.e (0,0))/\cur.size=L.cap*r.sz)
def IsMap (M:z34)(β:Env)(b:Go.Obj):Prop:=
 ∃es clk,b= .map es clk/\es.size=M.n/\(es.toList.map (·.key)).Nodup/\(∀k,M.has k=true↔∃e∈es.toList,e.key=k)/\(∀e∈es.toList,den β (M.val e.key) e.val)/\∀k,M.has k=false->∀v,den β M.z v->den β (M.val k) v
def Obj.holds (o:Obj)(β:Env)(w:World)(q:Option Loc):Prop:=
 match o with
 |.row r=>r.holds β w q
 |.blk _ ks=> ∃L b,q=some L/\w.heap[L.blk]? =some b/\IsSet ks b
 |.mapo _ M=> ∃L b,q=some L/\w.heap[L.blk]? =some b/\IsMap M β b
 |.gone=>True
def Obj.lt (m:Nat):Obj->Prop
 |.row r=> ∀(i j:Nat) (s:SV),i<r.n->(r.f i)[j]? =some s->s.lt m
 |.blk _ _=>True
 |.mapo _ M=>M.z.lt m/\∀v,(M.val v).lt m
 |.gone=>True
structure AH where
 nxt:Nat
 os:List (Nat×Nat×(Nat->Obj))
def find:List (Nat×Nat×(Nat->Obj))->Nat->Option (Nat×(Nat->Obj))
 |[],_=>none
 |(i,x)::l,id=>if i=id then some x else find l id
def look (os:List (Nat×Nat×(Nat->Obj)))(id k:Nat):Option Obj:=
 match find os id with
 |some (c,F)=>if k<c then(F k).opt else none
 |none=>none
def Obj.opt_some {o o':Obj}(h:o.opt=some o'):o'=o/\o≠ .gone:=by
 cases o<;>simp[Obj.opt] at h<;>subst h<;>simp
def Obj.opt_of {o:Obj}(h:o≠ .gone):o.opt=some o:=by
 cases o<;>first|rfl|exact absurd rfl h
abbrev uQ (o:Obj):Nat×(Nat->Obj):=(1,fun _=>o)
abbrev rO (e:TypeId)(sz n:Nat)(f:Nat->List SV):Nat×(Nat->Obj):=(1,fun _=> .row ⟨true,false,e,sz,n,f⟩)
abbrev rI (e:TypeId)(sz n:Nat)(f:Nat->List SV):Nat×(Nat->Obj):=(1,fun _=> .row ⟨false,false,e,sz,n,f⟩)
abbrev rV (e:TypeId)(sz n:Nat)(f:Nat->List SV):Nat×(Nat->Obj):=(1,fun _=> .row ⟨true,true,e,sz,n,f⟩)
structure Cx where
 P:Program
 n:Nat
 w0:World
 own0:Nat->Nat->Prop
 m0:Nat
 β0:Env
 wrap:Bool:=false
def letters:List ByteArray:=[⟨#[97]⟩,⟨#[98]⟩,⟨#[99]⟩,⟨#[0]⟩,⟨#[255]⟩,⟨#[109]⟩]
def tabG (P:Program)(g:Nat):Bool:=match(P.globals[g]?).map (·.type) with
 |some t=>match P.underlying t with
  |some (.array 6 e)=>match P.underlying e with
   |some .string=>true
   |_=>false
  |_=>false
 |none=>false
def TabAt (w:World)(g:Nat):Prop:=∀(j:Nat) (s:ByteArray),letters[j]? =some s->w.cell? ⟨g,j,none⟩=some (.string s)
def db32:List Int:=[0,1,28,2,29,14,24,3,30,22,20,15,25,17,4,8,31,27,13,23,21,19,16,7,26,12,18,6,11,5,10,9]
def tabBG (P:Program)(g:Nat):Bool:=match(P.globals[g]?).map (·.type) with
 |some t=>match P.underlying t with
  |some (.array 32 e)=>match P.underlying e with
   |some (.int .u8)=>true
   |_=>false
  |_=>false
 |none=>false
def TabBAt (w:World)(g:Nat):Prop:=∀(j:Nat) (s:Int),db32[j]? =some s->w.cell? ⟨g,j,none⟩=some (.int .u8 s)
def TabOk (X:Cx):Prop:=(∀g,tabG X.P g=true->g<X.w0.heap.size/\TabAt X.w0 g/\∀id k L,X.own0 id k->X.β0 id k=some L->L.blk≠g)/\
 ∀g,tabBG X.P g=true->g<X.w0.heap.size/\TabBAt X.w0 g/\∀id k L,X.own0 id k->X.β0 id k=some L->L.blk≠g
structure St (X:Cx) (β:Env) (H:AH) (w:World):Prop where
 os:w.os=X.w0.os
 tape:w.tape=X.w0.tape
 output:w.output=X.w0.output
 size:X.w0.heap.size<=w.heap.size
 fix:∀id k,id<X.m0->β id k=X.β0 id k
 holds:∀id k o,look H.os id k=some o->o.holds β w (β id k)
 sep:∀id k id' k' o o' L L',look H.os id k=some o->look H.os id' k'=some o'->o.own=true->β id k=some L->β id' k'=some L'->L.blk=L'.blk->id=id'/\k=k'
 old:∀b,b<X.w0.heap.size->(∀id k o L,look H.os id k=some o->o.own=true->β id k=some L->L.blk≠b)->w.heap[b]? =X.w0.heap[b]?
 mine:∀id k o L,look H.os id k=some o->o.own=true->β id k=some L->(id<X.m0/\X.own0 id k)\/(X.m0<=id/\X.w0.heap.size<=L.blk)
 keep:∀id k,X.own0 id k->id<X.m0/\∃o,look H.os id k=some o/\o.own=true
 m0:X.m0<=H.nxt
 lt:∀id k o,look H.os id k=some o->id<H.nxt/\o.lt H.nxt
 tabs:TabOk X
 drawn:X.w0.drawn<=w.drawn
structure Blw (B:Nat) (w w':World):Prop extends Below B w w' where
 drawn:w.drawn<=w'.drawn
def Blw.refl (B:Nat)(w:World):Blw B w w:=⟨Below.refl _ _,qd _⟩
def Blw.drew {B:Nat}{a w:World}(h:Blw B a w):Blw B a w.drew:=⟨h.toBelow.drew,qR h.drawn (QH _)⟩
def Blw.alloc {B:Nat}{a w:World}(h:Blw B a w)(hB:B<=w.heap.size)(o:Go.Obj):Blw B a (w.alloc o):=⟨h.toBelow.alloc hB o,h.drawn⟩
def St.tab {X:Cx}{β:Env}{H:AH}{w:World}(hS:St X β H w){g:Nat}(hg:tabG X.P g=true):(∀id k o L,look H.os id k=some o->o.own=true->β id k=some L->L.blk≠g)/\g<w.heap.size/\TabAt w g:=by
 obtain⟨h1,h2,h3⟩:=hS.tabs.1 g hg
 have hno:∀id k o L,look H.os id k=some o->o.own=true->β id k=some L->L.blk≠g:=fun id k o L h ho hb=>by
  rcases hS.mine _ _ _ _ h ho hb with⟨q1,q2⟩|⟨_,q2⟩
  ·rw[hS.fix id k q1] at hb;exact h3 id k L q2 hb
  ·omega
 refine⟨hno,Qc h1 hS.size,fun j s hj=> ?_⟩;have:=hS.old g h1 fun id k o L h ho hb=>hno id k o L h ho hb;exact(Q9 (w:=X.w0) (a:=⟨g,j,none⟩) this).trans (h2 j s hj)
def St.tabB {X:Cx}{β:Env}{H:AH}{w:World}(hS:St X β H w){g:Nat}(hg:tabBG X.P g=true):(∀id k o L,look H.os id k=some o->o.own=true->β id k=some L->L.blk≠g)/\g<w.heap.size/\TabBAt w g:=by
 obtain⟨h1,h2,h3⟩:=hS.tabs.2 g hg
 have hno:∀id k o L,look H.os id k=some o->o.own=true->β id k=some L->L.blk≠g:=fun id k o L h ho hb=>by
  rcases hS.mine _ _ _ _ h ho hb with⟨q1,q2⟩|⟨_,q2⟩
  ·rw[hS.fix id k q1] at hb;exact h3 id k L q2 hb
  ·omega
 refine⟨hno,Qc h1 hS.size,fun j s hj=> ?_⟩;have:=hS.old g h1 fun id k o L h ho hb=>hno id k o L h ho hb;exact(Q9 (w:=X.w0) (a:=⟨g,j,none⟩) this).trans (h2 j s hj)
def Row.cellsOk.mono {r:Row}{β:Env}{w w':World}{L:Loc}(h:r.cellsOk β w L)(hw:w'.heap[L.blk]? =w.heap[L.blk]?):r.cellsOk β w' L:=
 fun i hi=>⟨(h i hi).1,fun j s hs=>by
  obtain⟨h1,v,hv,hd⟩:=(h i hi).2 j s hs
  exact⟨h1,v,(Q9 (w:=w) (a:=⟨L.blk,_,none⟩) hw).trans hv,hd⟩⟩
def Obj.holds.mono {o:Obj}{β:Env}{w w':World}{q:Option Loc}(h:o.holds β w q)(hs:w.heap.size<=w'.heap.size)(hw:∀L,q=some L->L.blk<w.heap.size->w'.heap[L.blk]? =w.heap[L.blk]?):o.holds β w' q:=by
 cases o with
 |row r=>
  rcases h with h|⟨L,hq,h1,h2,h3,h4⟩
  ·exact .inl h
  ·have hb:=hw L hq h2;refine .inr ⟨L,hq,h1,Qc h2 hs,h3.mono hb,fun ho=> ?_⟩;obtain⟨a,b,c,cur,d,e⟩:=h4 ho;exact⟨a,b,c,cur,hb.trans d,e⟩
 |blk _ p=>
  obtain⟨L,b,hq,hb,hp⟩:=h;exact⟨L,b,hq,(hw L hq (q7.1 hb).1).trans hb,hp⟩
 |mapo _ p=>
  obtain⟨L,b,hq,hb,hp⟩:=h;exact⟨L,b,hq,(hw L hq (q7.1 hb).1).trans hb,hp⟩
 |gone=>trivial
def Obj.holds.blk_lt {o:Obj}(hg:o≠ .gone){β:Env}{w:World}{L:Loc}(h:o.holds β w (some L)):L.blk<w.heap.size:=by
 cases o with
 |row r=>
  rcases h with⟨_,h⟩|⟨L',hq,_,h2,_⟩
  ·cases h
  ·cases hq;exact h2
 |blk _ p=>
  obtain⟨L',b,hq,hb,_⟩:=h
  cases hq
  exact(q7.1 hb).1
 |mapo _ p=>
  obtain⟨L',b,hq,hb,_⟩:=h
  cases hq
  exact(q7.1 hb).1
 |gone=>exact absurd rfl hg
def z3o {os:List (Nat×Nat×(Nat->Obj))}{id k:Nat}{o:Obj}(h:look os id k=some o):o≠ .gone:=by
 unfold look at h
 split at h
 ·split at h
  ·obtain⟨rfl,h2⟩:=Obj.opt_some h;exact h2
  ·cases h
 ·cases h
def Obj.holds.agree {o:Obj}{m:Nat}{β β':Env}{w:World}{q:Option Loc}(hb:Env.agree m β β')(hl:o.lt m)(h:o.holds β w q):o.holds β' w q:=by
 cases o with
 |row r=>
  rcases h with h|⟨L,hq,h1,h2,h3,h4⟩
  ·exact .inl h
  ·refine .inr ⟨L,hq,h1,h2,fun i hi=>⟨(h3 i hi).1,fun j s hs=> ?_⟩,h4⟩;obtain⟨hsc,v,hv,hd⟩:=(h3 i hi).2 j s hs;exact⟨hsc,v,hv,z62 hb s v (hl i j s hi hs) hd⟩
 |blk _ p=>exact h
 |mapo _ M=>
  obtain⟨L,b,hq,hbk,es,clk,e1,e2,e6,e3,e4,e5⟩:=h;exact⟨L,b,hq,hbk,es,clk,e1,e2,e6,e3,fun e he=>z62 hb _ _ (hl.2 _) (e4 e he),fun k hk v hv=>z62 hb _ _ (hl.2 _) (e5 k hk v (z62 (fun id k h=>(hb id k h).symm) _ _ hl.1 hv))⟩
 |gone=>trivial
def St.ext {X:Cx}{β:Env}{H:AH}{w w':World}(h:St X β H w)(he:Blw w.heap.size w w'):St X β H w' where
 os:=he.os.trans h.os
 tape:=he.tape.trans h.tape
 output:=he.output.trans h.output
 size:=qR h.size he.size
 fix:=h.fix
 holds id k o ho:=(h.holds id k o ho).mono he.size fun _ _ hl=>he.block _ hl
 sep:=h.sep
 old b hb hn:=(he.block b (Qc hb h.size)).trans (h.old b hb hn)
 mine:=h.mine
 keep:=h.keep
 m0:=h.m0
 lt:=h.lt
 tabs:=h.tabs
 drawn:=qR h.drawn he.drawn
def Blw.drew' {w:World}:Blw w.heap.size w w.drew:=(Blw.refl _ w).drew
abbrev Fr:=List (Nat×SV)
def get:Fr->Nat->Option SV
 |[],_=>none
 |(u,s)::r,t=>if u=t then some s else get r t
structure FrOk (X:Cx) (β:Env) (m:Nat) (fr:Fr) (a:Act):Prop where
 defers:a.defers=[]
 size:a.tmps.size=X.n
 get:∀t s,get fr t=some s->s.lt m/\∃v,a.tmps[t]? =some v/\den β s v
def put (d:Option Tmp)(s:SV)(fr:Fr):Fr:=
 match d with
 |some t=>(t,s)::fr
 |none=>fr
def FrOk.put {X:Cx}{β:Env}{m:Nat}{fr:Fr}{a:Act}(h:FrOk X β m fr a){d:Option Tmp}{s:SV}{v:Value}(hd:∀t,d=some t->t<X.n)(hl:s.lt m)(hv:den β s v):
  FrOk X β m (put d s fr) (a.put d v):=by
 cases d with
 |none=>exact h
 |some t=>
  refine⟨h.defers,by simp[Act.put,h.size],fun u s' hs=> ?_⟩;simp only[Sk.put,Sk.get] at hs
  split at hs
  ·rename_i he;subst he
   cases hs
   exact⟨hl,v,by simp[Act.put,h.size,hd t rfl],hv⟩
  ·rename_i he;obtain⟨h1,u',h2,h3⟩:=h.get u s' hs;exact⟨h1,u',by simp only[Act.put];rw[Array.getElem?_setIfInBounds_ne he];exact h2,h3⟩
def FrOk.agree {X:Cx}{β β':Env}{m m':Nat}{fr:Fr}{a:Act}(h:FrOk X β m fr a)(hm:m<=m')(hb:Env.agree m β β'):FrOk X β' m' fr a:=
 ⟨h.defers,h.size,fun t s hs=>by
  obtain⟨h1,v,h2,h3⟩:=h.get t s hs
  exact⟨SV.lt_mono hm s h1,v,h2,z62 hb s v h1 h3⟩⟩
inductive Kd where
 |slice (e:TypeId)|array (n:Nat) (e:TypeId)|struct|string|int (k:IntKind)|bool|pointer|map (k e:TypeId)|other
 deriving DecidableEq
def kdOf:TypeDesc->Kd
 |.slice e=> .slice e
 |.array n e=> .array n e
 |.struct _=> .struct
 |.string=> .string
 |.int k=> .int k
 |.bool=> .bool
 |.pointer _=> .pointer
 |.map k e=> .map k e
 |_=> .other
structure Ty where
 ok:Bool
 kd:Kd
 size:Nat
 bytes:Nat
 offs:List (Nat×Option Bool×Nat)
def Kd.agg:Kd->Bool
 |.array .. | .struct=>true
 |_=>false
def z2m (P:Program)(t:TypeId):Nat:=((P.info? t).map (·.size)).getD 0
def isAggT (P:Program)(t:TypeId):Option Bool:=(P.underlying t).map (fun d=>(kdOf d).agg)
def offsOf (P:Program):TypeDesc->List (Nat×Option Bool×Nat)
 |.struct fs=>fs.toList.map fun f=>(f.offset,isAggT P f.type,z2m P f.type)
 |_=>[]
def z1o (P:Program)(t:TypeId):Ty:=
 match P.info? t,P.underlying t with
 |some i,some d=>⟨true,kdOf d,i.size,i.bytes,offsOf P d⟩
 |_,_=>⟨false,.other,0,0,[]⟩
def z1z:Value->SV
 |.int k n=> .int k n
 |.bool b=> .bool b
 |.string s=> .str s
 |.pointer none=> .nilp
 |.slice none 0 0=> .nils
 |.nilFunc=> .nilfn
 |v=> .raw v
def ofConst:Value->SV
 |.agg cs=> .agg (cs.toList.map z1z)
 |v=>z1z v
def ofConst1_den (β:Env)(v:Value):den β (z1z v) v:=by
 unfold z1z
 split<;>simp[den]
def ofConst1_lt (m:Nat)(v:Value):(z1z v).lt m:=by
 unfold z1z
 split<;>simp[SV.lt]
def ofConst_den (β:Env)(v:Value):den β (ofConst v) v:=by
 unfold ofConst
 split
 ·rename_i cs;simp only[den];refine⟨cs.toList,?_,by simp⟩
  generalize cs.toList=l
  induction l with
  |nil=>simp[z2u]
  |cons v l ih=>exact⟨v,l,ofConst1_den β v,ih,rfl⟩
 ·exact ofConst1_den β _
def ofConst_lt (m:Nat)(v:Value):(ofConst v).lt m:=by
 unfold ofConst
 split
 ·rename_i cs;simp only[SV.lt]
  generalize cs.toList=l
  induction l with
  |nil=>simp[SV.ltL]
  |cons v l ih=>exact⟨ofConst1_lt m v,ih⟩
 ·exact ofConst1_lt m _
def z5k (fr:Fr)(G:Bool)(x:Operand)(k:SV->Prop):Prop:=
 match x with
 |.tmp t=>
  match get fr t with
  |some (.gd g s)=>(G=true->g=true)/\k s
  |some s=>k s
  |none=>False
 |.const v=>k (ofConst v)
 |.func f=>k (.fn f [])
 |.global g=>k (.raw (.pointer (some ⟨g,0,none⟩)))
def z1i {X:Cx}{β:Env}{m:Nat}{fr:Fr}{a:Act}(hF:FrOk X β m fr a){G:Bool}{x:Operand}{k:SV->Prop}(h:z5k fr G x k):
  ∃s,k s/\(G=true->den β s (a.eval x)/\s.lt m):=by
 unfold z5k at h
 split at h
 ·rename_i t;have hev:∀v,a.tmps[t]? =some v->a.eval (.tmp t)=v:=fun v hv=>by simp[Act.eval,QY,hv]
  split at h
  ·rename_i g s hg;refine⟨s,h.2,fun hG=> ?_⟩;obtain⟨hl,v,hv,hd⟩:=hF.get t _ hg;have hg1:=h.1 hG;simp only[den,SV.lt] at hd hl;rw[hev v hv];exact⟨hd.1 hg1,hl hg1⟩
  ·rename_i s _ hg;obtain⟨hl,v,hv,hd⟩:=hF.get t _ hg;exact⟨s,h,fun _=>by rw[hev v hv];exact⟨hd,hl⟩⟩
  ·exact h.elim
 ·exact⟨_,h,fun _=>⟨ofConst_den β _,ofConst_lt m _⟩⟩
 ·exact⟨_,h,fun _=>⟨by simp only[den];exact⟨[],rfl,rfl⟩,trivial⟩⟩
 ·exact⟨_,h,fun _=>⟨by simp[den,Act.eval],trivial⟩⟩
def opdsK (fr:Fr)(G:Bool):List Operand->(List SV->Prop)->Prop
 |[],k=>k []
 |x::l,k=>z5k fr G x fun s=>opdsK fr G l fun r=>k (s::r)
def opdsK_ok {X:Cx}{β:Env}{m:Nat}{fr:Fr}{a:Act}(hF:FrOk X β m fr a){G:Bool}:∀{l:List Operand} {k:List SV->Prop},opdsK fr G l k->
  ∃ss,k ss/\(G=true->z2u β ss (l.map a.eval)/\SV.ltL m ss)
 |[],k,h=>⟨[],h,fun _=>⟨rfl,trivial⟩⟩
 |x::l,k,h=>by
  obtain⟨s,h1,h2⟩:=z1i hF h;obtain⟨r,h3,h4⟩:=opdsK_ok hF h1;exact⟨s::r,h3,fun hG=>⟨⟨_,_,(h2 hG).1,(h4 hG).1,rfl⟩,(h2 hG).2,(h4 hG).2⟩⟩
def In64 (n:Int):Prop:= -9223372036854775808<=n/\n<=9223372036854775807
def In64.wrap {n:Int}(h:In64 n):IntKind.i64.wrap n=n:=IntWalk.i64_in n h
def z3f (op:BinOp)(kd:IntKind)(x y:Int):Int:=
 let a:=BitVec.ofInt kd.bits x
 let b:=BitVec.ofInt kd.bits y
 match op with
 |.and=>kd.wrap (a &&& b).toNat
 |.or=>kd.wrap (a|||b).toNat
 |.xor=>kd.wrap (a^^^b).toNat
 |_=>kd.wrap (a &&& ~~~b).toNat
def arithK (wr G:Bool)(kd:IntKind)(e:Int)(k:SV->Prop):Prop:=
 match kd with
 |.i64=>if wr then k (.int .i64 (IntKind.i64.wrap e)) else(G=true->In64 e)/\k (.int .i64 e)
 |_=>k (.int kd (kd.wrap e))
def intK (wr G:Bool)(op:BinOp)(kd:IntKind)(a b:Int)(k:SV->Prop):Prop:=
 match op with
 |.add=>arithK wr G kd (a+b) k
 |.sub=>arithK wr G kd (a-b) k
 |.mul=>arithK wr G kd (a*b) k
 |.quo=>
  match kd with
  |.i64=>if wr then(G=true->b≠0)/\k (.int .i64 (IntKind.i64.wrap (a.tdiv b))) else(G=true->0<=a/\0<b/\In64 a)/\k (.int .i64 (a/b))
  |_=>(G=true->b≠0)/\k (.int kd (kd.wrap (a.tdiv b)))
 |.rem=>(G=true->b≠0)/\k (.int kd (a.tmod b))
 |.and=>k (.int kd (z3f .and kd a b))
 |.or=>k (.int kd (z3f .or kd a b))
 |.xor=>k (.int kd (z3f .xor kd a b))
 |.andNot=>k (.int kd (z3f .andNot kd a b))
 |.eql=>k (.bool (a==b))
 |.neq=>k (.bool (a !=b))
 |.lss=>k (.bool (decide (a<b)))
 |.leq=>k (.bool (decide (a<=b)))
 |.gtr=>k (.bool (decide (b<a)))
 |.geq=>k (.bool (decide (b<=a)))
 |_=>False
def shiftK (G:Bool)(op:BinOp)(kd:IntKind)(a b:Int)(k:SV->Prop):Prop:=
 match op with
 |.shl=>(G=true->0<=b)/\k (.int kd (kd.wrap (a*2^(min b.toNat kd.bits))))
 |.shr=>(G=true->0<=b)/\k (.int kd (a.fdiv (2^(min b.toNat kd.bits))))
 |_=>False
def sEq (x y:ByteArray):Bool:=x.toList==y.toList
def sLt (x y:ByteArray):Bool:=Op.bytesLess x.toList y.toList
def strK (G:Bool)(op:BinOp)(x y:ByteArray)(k:SV->Prop):Prop:=
 match op with
 |.add=>(G=true->In64 (((x.size+y.size:Nat)):Int))/\k (.str (x++y))
 |.eql=>k (.bool (sEq x y))
 |.neq=>k (.bool (!sEq x y))
 |.lss=>k (.bool (sLt x y))
 |.leq=>k (.bool (sLt x y||sEq x y))
 |.gtr=>k (.bool (!(sLt x y||sEq x y)))
 |.geq=>k (.bool (!sLt x y))
 |_=>False
def eqS:SV->SV->Bool
 |.int _ a,.int _ b=>a==b
 |.bool a,.bool b=>a==b
 |.str a,.str b=>a==b
 |_,_=>false
def eqL:List SV->List SV->Bool
 |[],[]=>true
 |[a],[b]=>eqS a b
 |a::l,b::r=>eqS a b && eqL l r
 |_,_=>false
def EqT (P:Program)(t:TypeId)(la lb:List SV):Prop:=
 ∀(β:Env) (xs ys:List Value),z2u β la xs->z2u β lb ys->∀(x y:Operand) (op:BinOp) (w:World),(op= .eql\/op= .neq)->
  (do eqGuard op t x y (.agg xs.toArray) (.agg ys.toArray);Op.equal t (.agg xs.toArray) (.agg ys.toArray):Sem Bool).run P w= .ok (eqL la lb) w
def binII (wr G:Bool)(op:BinOp)(kd:IntKind)(a:Int)(kd':IntKind)(b:Int)(k:SV->Prop):Prop:=
 match op with
 |.shl=>shiftK G .shl kd a b k
 |.shr=>shiftK G .shr kd a b k
 |op=>(G=true->kd'=kd)/\intK wr G op kd a b k
def binBB (P:Program)(G:Bool)(op:BinOp)(t:TypeId)(x y:Bool)(k:SV->Prop):Prop:=
 match op with
 |.eql=>(G=true->(z1o P t).kd= .bool)/\k (.bool (x==y))
 |.neq=>(G=true->(z1o P t).kd= .bool)/\k (.bool (x !=y))
 |_=>False
def binAA (P:Program)(G:Bool)(op:BinOp)(t:TypeId)(la lb:List SV)(k:SV->Prop):Prop:=
 match op with
 |.eql=>(G=true->EqT P t la lb)/\k (.bool (eqL la lb))
 |.neq=>(G=true->EqT P t la lb)/\k (.bool (!eqL la lb))
 |_=>False
def binNil (P:Program)(G:Bool)(op:BinOp)(t:TypeId)(n:Nat)(k:SV->Prop):Prop:=
 match op with
 |.eql=>(G=true->(∃e,(z1o P t).kd= .slice e)/\(z1o P t).ok=true)/\∀b:Bool,(0<n->b=false)->k (.bool b)
 |.neq=>(G=true->(∃e,(z1o P t).kd= .slice e)/\(z1o P t).ok=true)/\∀b:Bool,(0<n->b=false)->k (.bool (!b))
 |_=>False
def binK (P:Program)(wr G:Bool)(op:BinOp)(t:TypeId)(sx sy:SV)(k:SV->Prop):Prop:=
 match sx,sy with
 |.int kd a,.int kd' b=>binII wr G op kd a kd' b k
 |.str x,.str y=>strK G op x y k
 |.bool x,.bool y=>binBB P G op t x y k
 |.agg la,.agg lb=>binAA P G op t la lb k
 |.slc _ _ _ _ n,.nils=>binNil P G op t n k
 |_,_=>False
def Yld (P:Program)(e:Sem Value)(v:Value):Prop:=∀w,e.run P w= .ok v w
def arithK_ok {wr G:Bool}{kd:IntKind}{e:Int}{k:SV->Prop}(h:arithK wr G kd e k):∃s,k s/\(G=true->s= .int kd (kd.wrap e)):=by
 unfold arithK at h
 split at h
 ·split at h
  ·exact⟨_,h,fun _=>rfl⟩
  ·exact⟨_,h.2,fun hG=>by rw[(h.1 hG).wrap]⟩
 ·exact⟨_,h,fun _=>rfl⟩
def intK_ok {wr G:Bool}{op:BinOp}{kd:IntKind}{a b:Int}{k:SV->Prop}(ho:op≠ .shl/\op≠ .shr)(h:intK wr G op kd a b k):
  ∃s,k s/\(G=true->(∀m,s.lt m)/\∃v,(∀β,den β s v)/\∀P,Yld P (binOp op 0 (.int kd a) (.int kd b)) v):=by
 have ar:∀e,arithK wr G kd e k->(∀P,Yld P (binOp op 0 (.int kd a) (.int kd b)) (.int kd (kd.wrap e)))->∃s,k s/\(G=true->(∀m,s.lt m)/\∃v,(∀β,den β s v)/\∀P,Yld P (binOp op 0 (.int kd a) (.int kd b)) v):=fun e he hy=>by
  obtain⟨s,h1,h2⟩:=arithK_ok he;exact⟨s,h1,fun hG=>by rw[h2 hG];exact⟨fun _=>trivial,_,fun _=>rfl,hy⟩⟩
 have pl:∀(s:SV) (v:Value),k s->(∀m,s.lt m)->(∀β,den β s v)->(∀P,Yld P (binOp op 0 (.int kd a) (.int kd b)) v)->∃s,k s/\(G=true->(∀m,s.lt m)/\∃v,(∀β,den β s v)/\∀P,Yld P (binOp op 0 (.int kd a) (.int kd b)) v):=
  fun s v h1 h2 h3 h4=>⟨s,h1,fun _=>⟨h2,v,h3,h4⟩⟩
 unfold intK at h
 cases op<;>simp only at h
 case add=>exact ar _ h fun P w=>by simp[binOp,Op.intArith]
 case sub=>exact ar _ h fun P w=>by simp[binOp,Op.intArith]
 case mul=>exact ar _ h fun P w=>by simp[binOp,Op.intArith]
 case quo=>
  have gen:∀(s:SV),(G=true->b≠0/\s= .int kd (kd.wrap (a.tdiv b)))->k s->∃s,k s/\(G=true->(∀m,s.lt m)/\∃v,(∀β,den β s v)/\∀P,Yld P (binOp .quo 0 (.int kd a) (.int kd b)) v):=fun s hs hk=>
   ⟨s,hk,fun hG=>by
    obtain⟨hb,rfl⟩:=hs hG
    exact⟨fun _=>trivial,_,fun _=>rfl,fun P w=>by simp[binOp,Op.intDiv,hb]⟩⟩
  split at h
  ·split at h
   ·exact gen _ (fun hG=>⟨h.1 hG,rfl⟩) h.2
   ·exact gen _ (fun hG=>by
     obtain⟨h0,h1,h2⟩:=h.1 hG;refine⟨by omega,?_⟩
     rw[IntWalk.i64_quo a b ⟨h0,h2.2,by omega⟩]) h.2
  ·exact gen _ (fun hG=>⟨h.1 hG,rfl⟩) h.2
 case rem=>exact⟨_,h.2,fun hG=>⟨fun _=>trivial,_,fun _=>rfl,fun P w=>by simp[binOp,Op.intDiv,h.1 hG]⟩⟩
 case and=>exact pl _ _ h (fun _=>trivial) (fun _=>rfl) fun P w=>by simp[binOp,Op.intBits,z3f]
 case or=>exact pl _ _ h (fun _=>trivial) (fun _=>rfl) fun P w=>by simp[binOp,Op.intBits,z3f]
 case xor=>exact pl _ _ h (fun _=>trivial) (fun _=>rfl) fun P w=>by simp[binOp,Op.intBits,z3f]
 case andNot=>exact pl _ _ h (fun _=>trivial) (fun _=>rfl) fun P w=>by simp[binOp,Op.intBits,z3f]
 case eql=>exact pl _ _ h (fun _=>trivial) (fun _=>rfl) fun P w=>by simp[binOp,Op.intCmp]
 case neq=>exact pl _ _ h (fun _=>trivial) (fun _=>rfl) fun P w=>by simp[binOp,Op.intCmp]
 case lss=>exact pl _ _ h (fun _=>trivial) (fun _=>rfl) fun P w=>by simp[binOp,Op.intCmp]
 case leq=>exact pl _ _ h (fun _=>trivial) (fun _=>rfl) fun P w=>by simp[binOp,Op.intCmp]
 case gtr=>exact pl _ _ h (fun _=>trivial) (fun _=>rfl) fun P w=>by simp[binOp,Op.intCmp]
 case geq=>exact pl _ _ h (fun _=>trivial) (fun _=>rfl) fun P w=>by simp[binOp,Op.intCmp]
 all_goals exact h.elim
def Kp (w:World)(B:Nat->Prop)(w':World):Prop:=w.heap.size<=w'.heap.size/\∀b,b<w.heap.size->¬B b->w'.heap[b]? =w.heap[b]?
def inW (β:Env)(H:AH)(W:List Nat)(b:Nat):Prop:=∃id k o L,id∈W/\look H.os id k=some o/\o.own=true/\β id k=some L/\L.blk=b
def Kp.refl (w:World)(B:Nat->Prop):Kp w B w:=⟨qd _,fun _ _ _=>rfl⟩
def z1k {P:Program}{t:TypeId}(h:(z1o P t).ok=true):∃i d,P.info? t=some i/\P.underlying t=some d/\z1o P t=⟨true,kdOf d,i.size,i.bytes,offsOf P d⟩:=by
 unfold z1o at*
 split at h
 ·rename_i i d hi hd;exact⟨i,d,hi,hd,rfl⟩
 ·cases h
def kdOf_struct {d:TypeDesc}(h:kdOf d= .struct):∃fs,d= .struct fs:=by cases d<;>simp[kdOf] at h;exact⟨_,rfl⟩
def z2z {d:TypeDesc}{e:TypeId}(h:kdOf d= .slice e):d= .slice e:=by cases d<;>simp[kdOf] at h;subst h;rfl
def kdOf_array {d:TypeDesc}{n:Nat}{e:TypeId}(h:kdOf d= .array n e):d= .array n e:=by cases d<;>simp[kdOf] at h;obtain⟨rfl,rfl⟩:=h;rfl
def kdOf_string {d:TypeDesc}(h:kdOf d= .string):d= .string:=by cases d<;>simp[kdOf] at h;rfl
def kdOf_int {d:TypeDesc}{k:IntKind}(h:kdOf d= .int k):d= .int k:=by cases d<;>simp[kdOf] at h;subst h;rfl
def kdOf_bool {d:TypeDesc}(h:kdOf d= .bool):d= .bool:=by cases d<;>simp[kdOf] at h;rfl
def kdOf_map {d:TypeDesc}{k e:TypeId}(h:kdOf d= .map k e):d= .map k e:=by cases d<;>simp[kdOf] at h;obtain⟨rfl,rfl⟩:=h;rfl
def z65 {P:Program}{t:TypeId}{d:TypeDesc}(hd:P.underlying t=some d)(w:World):(isAgg t).run P w= .ok (kdOf d).agg w:=by
 cases d<;>simp[isAgg,qE hd,kdOf,Kd.agg]
def z23 {P:Program}{t:TypeId}{i:TypeInfo}(hi:P.info? t=some i)(w:World):(sizeOf t).run P w= .ok i.size w:=by
 simp[sizeOf,typeInfo,hi]
def z4c {P:Program}{t:TypeId}(h:z2m P t≠0):∃i,P.info? t=some i/\i.size=z2m P t:=by
 unfold z2m at*
 cases hi:P.info? t with
 |none=>simp[hi] at h
 |some i=>exact⟨i,rfl,by simp⟩
def loadK (P:Program)(H:AH)(W:List Nat)(G:Bool)(t:TypeId)(s:SV)(k:SV->Prop):Prop:=
 match s with
 |.ptr id kk i j=>
  match find H.os id with
  |some (c,F)=>
   match F kk with
   |.row r=>
    (G=true->kk<c/\i<r.n/\W.contains id=false/\(z1o P t).ok=true)/\
    match(z1o P t).kd.agg with
    |true=>(G=true->j+(z1o P t).size<=r.sz)/\k (.agg (((r.f i).drop j).take (z1o P t).size))
    |false=>match(r.f i)[j]? with|some s=>k s|none=>False
   |_=>False
  |none=>False
 |.raw (.pointer (some ⟨g,j,none⟩))=>
  match(z1o P t).kd with
  |.string=>(G=true->tabG P g=true/\j<6/\(z1o P t).ok=true)/\k (.str (letters.getD j default))
  |.int .u8=>(G=true->tabBG P g=true/\j<32/\(z1o P t).ok=true)/\k (.int .u8 (db32.getD j 0))
  |_=>False
 |_=>False
def St.cellsAt {X:Cx}{β:Env}{H:AH}{w:World}(hS:St X β H w){id kk:Nat}{r:Row}(hl:look H.os id kk=some (.row r)){i:Nat}(hi:i<r.n):
  ∃L,β id kk=some L/\L.blk<w.heap.size/\L.sz=r.sz/\(r.f i).length=r.sz/\∀(j:Nat) (s:SV),(r.f i)[j]? =some s->s.scalar=true/\s.lt H.nxt/\∃v,w.cell? ⟨L.blk,L.off+i*L.sz+j,none⟩=some v/\den β s v:=by
 have hh:=hS.holds _ _ _ hl;rcases hh with⟨h0,_⟩|⟨L,hq,h1,h2,h3,_⟩
 ·omega
 ·refine⟨L,hq,h2,h1,(h3 i hi).1,fun j s hs=> ?_⟩;obtain⟨a,v,b,c⟩:=(h3 i hi).2 j s hs;exact⟨a,(hS.lt _ _ _ hl).2 i j s hi hs,v,b,c⟩
def St.notW {X:Cx}{β:Env}{H:AH}{w:World}(hS:St X β H w){W:List Nat}{id kk:Nat}{o:Obj}(hl:look H.os id kk=some o)(hW:W.contains id=false){L:Loc}(hb:β id kk=some L):¬inW β H W L.blk:=by
 rintro⟨id',k',o',L',hm,hl',ho',hb',he⟩;have:=(hS.sep _ _ _ _ _ _ _ _ hl' hl ho' hb' hb he).1;subst this;simp at hW;exact hW hm
def zy {os:List (Nat×Nat×(Nat->Obj))}{id k c:Nat}{F:Nat->Obj}(h:find os id=some (c,F))(hk:k<c):look os id k=(F k).opt:=by
 simp[look,h,hk]
def z48 (b o i:Nat):(⟨b,o,none⟩:Addr).add i=⟨b,o+i,none⟩:=by
 unfold Addr.add
 split
 ·simp[*]
 ·rfl
def loadK_ok {X : Cx} {β : Env} {H : AH} {w : World} (hS : St X β H w) {W : List Nat} {G : Bool} {t : TypeId} {s : SV} {v : Value} {k : SV -> Prop} (h : loadK X.P H W G t s k) (hv : G = true -> den β s v) :
    ∃s',k s'/\(G=true->s'.lt H.nxt/\∃v',den β s' v'/\∀w',Kp w (inW β H W) w'->(Instr.loadAt t v).run X.P w'= .ok v' w'):=by
  unfold loadK at h
  split at h
  · rename_i id kk i j
    split at h
    · rename_i c F hf
      split at h
      · rename_i r hr;obtain⟨hc,h⟩:=h
        have main : G = true -> ∃ (L : Loc) (inf : TypeInfo) (d : TypeDesc), L.sz = r.sz /\ v = .pointer (some ⟨L.blk, L.off + i * L.sz + j, none⟩) /\ X.P.info? t = some inf /\ X.P.underlying t = some d /\ z1o X.P t = ⟨true, kdOf d, inf.size, inf.bytes, offsOf X.P d⟩ /\ (r.f i).length = r.sz /\
            ∀(j':Nat) (s:SV),(r.f i)[j']? =some s->s.scalar=true/\s.lt H.nxt/\∃u,den β s u/\∀w',Kp w (inW β H W) w'->w'.cell? ⟨L.blk,L.off+i*L.sz+j',none⟩=some u:=fun hG=>by
          obtain⟨h1,h2,h3,h4⟩:=hc hG;have hl:=zy hf h1;rw[hr] at hl;obtain⟨L,hb,hlt,hsz,hlen,hcell⟩:=hS.cellsAt hl h2;have hd:=hv hG;simp only[den] at hd;obtain⟨L',hb',rfl⟩:=hd;rw[hb] at hb'
          cases hb'
          obtain⟨inf,d,e1,e2,e3⟩:=z1k h4;refine⟨L,inf,d,hsz,rfl,e1,e2,e3,hlen,fun j' s' hs'=> ?_⟩;obtain⟨q1,q2,u,q3,q4⟩:=hcell j' s' hs';refine⟨q1,q2,u,q4,fun w' hw'=> ?_⟩;exact(Q9 (w:=w) (a:=⟨L.blk,_,none⟩) (hw'.2 _ hlt (hS.notW hl h3 hb))).trans q3
        split at h
        · rename_i hag;refine⟨_,h.2,fun hG=> ?_⟩;obtain⟨L,inf,d,hsz,rfl,e1,e2,e3,hlen,hcell⟩:=main hG;have hsize:(z1o X.P t).size=inf.size:=by rw[e3]
          have hfit:=h.1 hG;rw[hsize] at hfit ⊢;have hagd:(kdOf d).agg=true:=by have:=hag;rw[e3] at this;exact this
          have hll:(((r.f i).drop j).take inf.size).length=inf.size:=by rw[qN,QO,hlen];omega
          have hget:∀(q:Nat) (s:SV),(((r.f i).drop j).take inf.size)[q]? =some s->(r.f i)[j+q]? =some s:=fun q s hs=>by
            rw[Qb] at hs
            split at hs
            · simpa [QR] using hs
            · cases hs
          refine⟨by simp only[SV.lt];exact SV.ltL_of_get fun q s hs=>(hcell _ s (hget q s hs)).2.1,?_⟩
          let f:Nat->Value:=fun q=>(w.cell? ⟨L.blk,L.off+i*L.sz+j+q,none⟩).getD undef
          have hf:∀(q:Nat) (s:SV),(((r.f i).drop j).take inf.size)[q]? =some s->den β s (f q)/\∀w',Kp w (inW β H W) w'->w'.cell? ⟨L.blk,L.off+i*L.sz+j+q,none⟩=some (f q):=fun q s hs=>by
            obtain⟨_,_,u,hd,hu⟩:=hcell _ s (hget q s hs);have h0:=hu w (Kp.refl _ _);have hfq:f q=u:=by simp only[f];rw[jm,h0];rfl
            rw[hfq];exact⟨hd,fun w' hw'=>by rw[jm];exact hu w' hw'⟩
          refine⟨.agg ((List.range inf.size).map f).toArray,?_,fun w' hw'=> ?_⟩
          · simp only[den];refine⟨_,?_,rfl⟩;have:=denL_mk (β:=β) _ f (fun q s hs=>(hf q s hs).1);rw[hll] at this;exact this
          · have hcs:(loadCells ⟨L.blk,L.off+i*L.sz+j,none⟩ inf.size).run X.P w'= .ok ((List.range inf.size).map f).toArray w':=by
              have hr:=Js (P:=X.P) w' ⟨L.blk,L.off+i*L.sz+j,none⟩ ((List.range inf.size).map f) (fun q u hq=>by
                rw[qQ] at hq
                have hqlt:q<inf.size:=by
                  rcases Qo q inf.size with h'|h'
                  · exact h'
                  · rw[qP (by simpa using h')] at hq;cases hq
                rw[jk hqlt] at hq
                cases hq
                rw[z48]
                exact(hf q _ (qJ (by rw[hll];exact hqlt))).2 w' hw')
              simpa using hr
            simp[Instr.loadAt,Instr.sureAddr,loadVar,z65 e2,hagd,z23 e1,hcs]
        · rename_i hag
          split at h
          · rename_i s' hs';refine⟨s',h,fun hG=> ?_⟩;obtain⟨L,inf,d,hsz,rfl,e1,e2,e3,hlen,hcell⟩:=main hG;have hagd:(kdOf d).agg=false:=by have:=hag;rw[e3] at this;exact this
            obtain⟨_,q2,u,q3,q4⟩:=hcell j s' hs';refine⟨q2,u,q3,fun w' hw'=> ?_⟩;simp[Instr.loadAt,Instr.sureAddr,loadVar,z65 e2,hagd,q4 w' hw']
          · exact h.elim
      · exact h.elim
    · exact h.elim
  · rename_i g j
    split at h
    · rename_i hkd;refine⟨_,h.2,fun hG=>⟨trivial,?_⟩⟩;obtain⟨hg,hj,hok⟩:=h.1 hG;have hd:=hv hG;simp only[den] at hd;subst hd;obtain⟨hno,hlt,htab⟩:=hS.tab hg;obtain⟨inf,d,e1,e2,e3⟩:=z1k hok;rw[e3] at hkd;have hd2:=kdOf_string hkd;subst hd2
      have hlj:letters[j]? =some (letters.getD j default):=by
        have:j<letters.length:=hj;simp[List.getD,this]
      refine⟨.string (letters.getD j default),rfl,fun w' hw'=> ?_⟩;have hblk:=hw'.2 g hlt fun⟨id,k,o,L,_,h1,h2,h3,h4⟩=>hno id k o L h1 h2 h3 h4;have hcell:=(Q9 (w:=w) (a:=⟨g,j,none⟩) hblk).trans (htab j _ hlj);simp[Instr.loadAt,Instr.sureAddr,loadVar,z65 e2,kdOf,Kd.agg,hcell]
    · rename_i hkd;refine⟨_,h.2,fun hG=>⟨trivial,?_⟩⟩;obtain⟨hg,hj,hok⟩:=h.1 hG;have hd:=hv hG;simp only[den] at hd;subst hd;obtain⟨hno,hlt,htab⟩:=hS.tabB hg;obtain⟨inf,d,e1,e2,e3⟩:=z1k hok;rw[e3] at hkd
      have hd2:d= .int .u8:=by
        cases d<;>simp[kdOf] at hkd
        rw[hkd]
      subst hd2
      have hlj:db32[j]? =some (db32.getD j 0):=by
        have:j<db32.length:=hj;simp[List.getD,this]
      refine⟨.int .u8 (db32.getD j 0),rfl,fun w' hw'=> ?_⟩;have hblk:=hw'.2 g hlt fun⟨id,k,o,L,_,h1,h2,h3,h4⟩=>hno id k o L h1 h2 h3 h4;have hcell:=(Q9 (w:=w) (a:=⟨g,j,none⟩) hblk).trans (htab j _ hlj);simp[Instr.loadAt,Instr.sureAddr,loadVar,z65 e2,kdOf,Kd.agg,hcell]
    · exact h.elim
  · exact h.elim
def faddrK (P:Program)(G:Bool)(t:TypeId)(f:Nat)(s:SV)(k:SV->Prop):Prop:=
 match s with
 |.ptr id kk i j=>
  match(z1o P t).offs[f]? with
  |some (off,_,sz)=>(G=true->sz≠0/\(z1o P t).ok=true)/\k (.ptr id kk i (j+off))
  |none=>False
 |_=>False
def offs_get {P:Program}{t:TypeId}(hok:(z1o P t).ok=true){f off sz:Nat}{ag:Option Bool}(h:(z1o P t).offs[f]? =some (off,ag,sz)):
  ∃fs fld,P.underlying t=some (.struct fs)/\fs[f]? =some fld/\fld.offset=off/\isAggT P fld.type=ag/\z2m P fld.type=sz:=by
 obtain⟨i,d,hi,hd,e⟩:=z1k hok;rw[e] at h
 cases d<;>simp[offsOf] at h
 rename_i fs;obtain⟨fld,h1,h2,h3,h4⟩:=h;exact⟨fs,fld,hd,h1,h2,h3,h4⟩
def faddrK_ok {P:Program}{β:Env}{m:Nat}{G:Bool}{t:TypeId}{f:Nat}{s:SV}{v:Value}{k:SV->Prop}(h:faddrK P G t f s k)(hv:G=true->den β s v/\s.lt m):
  ∃s',k s'/\(G=true->s'.lt m/\∃v',den β s' v'/\Yld P (Instr.fieldAt t v f) v'):=by
 unfold faddrK at h
 split at h
 ·rename_i id kk i j
  split at h
  ·rename_i off ag sz ho;refine⟨_,h.2,fun hG=> ?_⟩;obtain⟨hsz,hok⟩:=h.1 hG;obtain⟨fs,fld,h1,h2,h3,h4,h5⟩:=offs_get hok ho;obtain⟨hd,hl⟩:=hv hG;simp only[den] at hd;obtain⟨L,hb,rfl⟩:=hd;refine⟨hl,.pointer (some ⟨L.blk,L.off+i*L.sz+(j+off),none⟩),by simp only[den];exact⟨L,hb,rfl⟩,fun w=> ?_⟩;obtain⟨inf,hi,hi2⟩:=z4c (P:=P) (t:=fld.type) (by omega);have:inf.size≠0:=by omega
   simp[Instr.fieldAt,qE h1,h2,Instr.sureAddr,fieldPlace,z23 hi,this,z48,h3,jm]
  ·exact h.elim
 ·exact h.elim
def partK (G:Bool)(l:List SV)(x:Option (Nat×Option Bool×Nat))(k:SV->Prop):Prop:=
 match x with
 |some (off,some true,sz)=>(G=true->sz≠0/\off+sz<=l.length)/\k (.agg ((l.drop off).take sz))
 |some (off,some false,_)=>match l[off]? with|some s=>k s|none=>False
 |_=>False
def denL_drop {β:Env}:∀{l:List SV} {vs:List Value} (n:Nat),z2u β l vs->z2u β (l.drop n) (vs.drop n)
 |_,_,0,h=>by simpa using h
 |[],vs,n+1,h=>by simp only[z2u] at h;subst h;simp[z2u]
 |s::l,vs,n+1,h=>by
  simp only[z2u] at h;obtain⟨v,r,_,hr,rfl⟩:=h;simpa using denL_drop n hr
def denL_take {β:Env}:∀{l:List SV} {vs:List Value} (n:Nat),z2u β l vs->z2u β (l.take n) (vs.take n)
 |_,_,0,h=>by simp[z2u]
 |[],vs,n+1,h=>by simp only[z2u] at h;subst h;simp[z2u]
 |s::l,vs,n+1,h=>by
  simp only[z2u] at h;obtain⟨v,r,hv,hr,rfl⟩:=h;exact⟨v,r.take n,hv,denL_take n hr,by simp⟩
def ltL_drop {m:Nat}{l:List SV}(n:Nat)(h:SV.ltL m l):SV.ltL m (l.drop n):=
 SV.ltL_of_get fun j s hs=>SV.ltL_get h (n+j) s (by simpa [QR] using hs)
def ltL_take {m:Nat}{l:List SV}(n:Nat)(h:SV.ltL m l):SV.ltL m (l.take n):=
 SV.ltL_of_get fun j s hs=>by
  rw[Qb] at hs
  split at hs
  ·exact SV.ltL_get h j s hs
  ·cases hs
def partK_ok {P:Program}{β:Env}{m:Nat}{G:Bool}{ft:TypeId}{off:Nat}{l:List SV}{vs:List Value}{k:SV->Prop}(h:partK G l (some (off,isAggT P ft,z2m P ft)) k)
  (hv:G=true->z2u β l vs/\SV.ltL m l):∃s',k s'/\(G=true->s'.lt m/\∃v',den β s' v'/\Yld P (part ft vs.toArray off) v'):=by
 unfold partK at h
 split at h
 ·rename_i off' sz' he;simp only[Qx,jn] at he;obtain⟨rfl,hag,rfl⟩:=he;refine⟨_,h.2,fun hG=> ?_⟩;obtain⟨hd,hl⟩:=hv hG;obtain⟨inf,hi,hi2⟩:=z4c (h.1 hG).1;refine⟨by simp only[SV.lt];exact ltL_take _ (ltL_drop _ hl),.agg ((vs.drop off).take (z2m P ft)).toArray,by simp only[den];exact⟨_,denL_take _ (denL_drop _ hd),rfl⟩,fun w=> ?_⟩;unfold isAggT at hag
  cases hu:P.underlying ft with
  |none=>simp[hu] at hag
  |some d=>
   have hda:(kdOf d).agg=true:=by simpa [hu] using hag
   simp[part,z65 hu,hda,z23 hi,<-hi2,List.extract_eq_take_drop]
 ·rename_i off' sz' he;simp only[Qx,jn] at he;obtain⟨rfl,hag,rfl⟩:=he
  split at h
  ·rename_i s hs;refine⟨s,h,fun hG=> ?_⟩;obtain⟨hd,hl⟩:=hv hG;obtain⟨v,hv1,hv2⟩:=z4k hd _ s hs;refine⟨SV.ltL_get hl _ s hs,v,hv2,fun w=> ?_⟩;unfold isAggT at hag
   cases hu:P.underlying ft with
   |none=>simp[hu] at hag
   |some d=>
    have hda:(kdOf d).agg=false:=by simpa [hu] using hag
    simp[part,z65 hu,hda,hv1]
  ·exact h.elim
 ·exact h.elim
def fieldK (P:Program)(G:Bool)(t:TypeId)(f:Nat)(s:SV)(k:SV->Prop):Prop:=
 match s with
 |.agg l=>(G=true->(z1o P t).ok=true)/\partK G l ((z1o P t).offs[f]?) k
 |_=>False
def fieldK_ok {P:Program}{β:Env}{m:Nat}{G:Bool}{t:TypeId}{f:Nat}{s:SV}{v:Value}{k:SV->Prop}(h:fieldK P G t f s k)(hv:G=true->den β s v/\s.lt m):
  ∃s',k s'/\(G=true->s'.lt m/\∃v',den β s' v'/\Yld P (Instr.field t v f) v'):=by
 unfold fieldK at h
 split at h
 ·rename_i l
  cases G with
  |false=>
   obtain⟨_,h⟩:=h;unfold partK at h
   split at h
   ·exact⟨_,h.2,fun hG=>by cases hG⟩
   ·split at h
    ·exact⟨_,h,fun hG=>by cases hG⟩
    ·exact h.elim
   ·exact h.elim
  |true=>
   obtain⟨hok,h⟩:=h;obtain⟨hd,hl⟩:=hv rfl;simp only[den,SV.lt] at hd hl;obtain⟨vs,hvs,rfl⟩:=hd
   cases ho:(z1o P t).offs[f]? with
   |none=>rw[ho] at h;exact h.elim
   |some x=>
    obtain⟨off,ag,sz⟩:=x;obtain⟨fs,fld,h1,h2,h3,h4,h5⟩:=offs_get (hok rfl) ho;rw[ho,<-h4,<-h5] at h;obtain⟨s',hk,hs'⟩:=partK_ok (β:=β) (m:=m) (vs:=vs) h (fun _=>⟨hvs,hl⟩);refine⟨s',hk,fun hG=> ?_⟩;obtain⟨a,v',b,c⟩:=hs' hG;refine⟨a,v',b,fun w=> ?_⟩;simp[Instr.field,qE h1,h2,asAgg,h3,c w]
 ·exact h.elim
def strsOf:List SV->Option (List ByteArray)
 |[]=>some []
 |.str s::l=>(strsOf l).map (s:: ·)
 |_=>none
def intsOf (kd:IntKind):List SV->Option (List Int)
 |[]=>some []
 |.int k n::l=>if k=kd then(intsOf kd l).map (n:: ·) else none
 |_=>none
def strsOf_get:∀{l:List SV} {ss:List ByteArray},strsOf l=some ss->∀i,i<l.length->l[i]? =some (.str (ss.getD i default))
 |[],_,_,i,hi=>by simp at hi
 |.str s::l,ss,h,i,hi=>by
  simp only[strsOf,q6] at h;obtain⟨r,hr,rfl⟩:=h
  cases i with
  |zero=>simp
  |succ i=>simpa using strsOf_get hr i (by simpa using hi)
def intsOf_get {kd:IntKind}:∀{l:List SV} {ss:List Int},intsOf kd l=some ss->∀i,i<l.length->l[i]? =some (.int kd (ss.getD i default))
 |[],_,_,i,hi=>by simp at hi
 |.int k n::l,ss,h,i,hi=>by
  simp only[intsOf] at h
  split at h
  ·rename_i hk;subst hk;simp only[q6] at h;obtain⟨r,hr,rfl⟩:=h
   cases i with
   |zero=>simp
   |succ i=>simpa using intsOf_get hr i (by simpa using hi)
  ·cases h
def byteAt (s:ByteArray)(i:Nat):Int:=((s[i]?).getD 0).toNat
def iaddrK (P:Program)(H:AH)(G:Bool)(t:TypeId)(s ix:SV)(k:SV->Prop):Prop:=
 match s,ix with
 |.slc _ id kk o n,.int _ z=>
  match(z1o P t).kd,find H.os id with
  |.slice e,some (c,F)=>
   match F kk with
   |.row r=>(G=true->(0<=z/\z<n)/\kk<c/\z2m P e=r.sz/\z2m P e≠0/\(z1o P t).ok=true)/\k (.ptr id kk (o+z.toNat) 0)
   |_=>False
  |_,_=>False
 |.ptr id kk i j,.int _ z=>
  match(z1o P t).kd with
  |.array n e=>(G=true->(0<=z/\z<n)/\z2m P e≠0/\(z1o P t).ok=true)/\k (.ptr id kk i (j+z.toNat*z2m P e))
  |_=>False
 |.raw (.pointer (some ⟨g,o,none⟩)),.int _ z=>
  match(z1o P t).kd with
  |.array n e=>(G=true->(0<=z/\z<n)/\z2m P e=1/\(z1o P t).ok=true)/\k (.raw (.pointer (some ⟨g,o+z.toNat,none⟩)))
  |_=>False
 |_,_=>False
def z4v {β:Env}{g:Bool}{id k o n:Nat}{v:Value}(h:z56 β g id k o n v)(hn:0<n):∃L c,β id k=some L/\v= .slice (some ⟨L.blk,L.off+o*L.sz,none⟩) n c:=by
 unfold z56 at h
 cases g with
 |false=>
  simp only[qz,Ql] at h;obtain⟨a,c,rfl,hc,ha⟩:=h;obtain⟨L,hb,rfl⟩:=ha hn;exact⟨L,c,hb,rfl⟩
 |true=>
  simp only[q9] at h;rcases h with⟨_,h0,_⟩|⟨L,c,hb,ho,hoff,_,_,rfl⟩
  ·omega
  ·exact⟨L,c,hb,by simp[ho,hoff]⟩
def z3z {β:Env}{g:Bool}{id k o n:Nat}{v:Value}(h:z56 β g id k o n v):∃a c,v= .slice a n c/\n<=c:=by
 unfold z56 at h
 cases g with
 |false=>
  simp only[qz,Ql] at h;obtain⟨a,c,rfl,hc,_⟩:=h;exact⟨a,c,rfl,hc⟩
 |true=>
  simp only[q9] at h;rcases h with⟨_,rfl,_,rfl⟩|⟨L,c,hb,ho,hoff,hc,_,rfl⟩
  ·exact⟨_,_,rfl,qd _⟩
  ·exact⟨_,_,rfl,hc⟩
def iaddrK_ok {X:Cx}{β:Env}{H:AH}{w:World}(hS:St X β H w){G:Bool}{t:TypeId}{s ix:SV}{v vi:Value}{k:SV->Prop}(h:iaddrK X.P H G t s ix k)(hv:G=true->den β s v/\s.lt H.nxt)(hi:G=true->den β ix vi):
  ∃s',k s'/\(G=true->s'.lt H.nxt/\∃v',den β s' v'/\Yld X.P (Instr.indexAt t v vi) v'):=by
 unfold iaddrK at h
 split at h
 ·rename_i g id kk o n kd z
  split at h
  ·rename_i e c F hkd hf
   split at h
   ·rename_i r hr;refine⟨_,h.2,fun hG=> ?_⟩;obtain⟨⟨z0,z1⟩,hk,hsz,hsz0,hok⟩:=h.1 hG;obtain⟨hd,hl⟩:=hv hG;have hdi:=hi hG;simp only[den] at hd hdi;subst hdi;obtain⟨L,cc,hb,rfl⟩:=z4v hd (by omega);have hlook:=zy hf hk;rw[hr] at hlook;obtain⟨inf,d,e1,e2,e3⟩:=z1k hok;rw[e3] at hkd;have hd':=z2z hkd;subst hd'
    have hLsz:L.sz=r.sz:=by
     have hh:=hS.holds _ _ _ hlook;rcases hh with⟨h0,hq⟩|⟨L',hq,h1,_⟩
     ·rw[hb] at hq;cases hq
     ·rw[hb] at hq;cases hq;exact h1
    obtain⟨ei,hei,hei2⟩:=z4c hsz0;refine⟨hl,.pointer (some ⟨L.blk,L.off+(o+z.toNat)*L.sz+0,none⟩),by simp only[den];exact⟨L,hb,rfl⟩,fun w=> ?_⟩;have hes:ei.size=L.sz:=by omega
    simp[Instr.indexAt,qE e2,asIntOf,z0,z1,z23 hei,hes,z48,qV,jm]
   ·exact h.elim
  ·exact h.elim
 ·rename_i id kk i j kd z
  split at h
  ·rename_i n e hkd;refine⟨_,h.2,fun hG=> ?_⟩;obtain⟨⟨z0,z1⟩,hsz0,hok⟩:=h.1 hG;obtain⟨hd,hl⟩:=hv hG;have hdi:=hi hG;simp only[den] at hd hdi;subst hdi;obtain⟨L,hb,rfl⟩:=hd;obtain⟨inf,d,e1,e2,e3⟩:=z1k hok;rw[e3] at hkd;have hd':=kdOf_array hkd;subst hd';obtain⟨ei,hei,hei2⟩:=z4c hsz0;refine⟨hl,.pointer (some ⟨L.blk,L.off+i*L.sz+(j+z.toNat*z2m X.P e),none⟩),by simp only[den];exact⟨L,hb,rfl⟩,fun w=> ?_⟩;simp[Instr.indexAt,qE e2,asIntOf,Instr.sureAddr,z0,z1,z23 hei,hei2,z48,jm]
  ·exact h.elim
 ·rename_i g o kd z
  split at h
  ·rename_i n e hkd;refine⟨_,h.2,fun hG=> ?_⟩;obtain⟨⟨z0,z1⟩,hsz,hok⟩:=h.1 hG;obtain⟨hd,hl⟩:=hv hG;have hdi:=hi hG;simp only[den] at hd hdi;subst hdi hd;obtain⟨inf,d,e1,e2,e3⟩:=z1k hok;rw[e3] at hkd;have hd':=kdOf_array hkd;subst hd';obtain⟨ei,hei,hei2⟩:=z4c (P:=X.P) (t:=e) (by omega);refine⟨trivial,_,rfl,fun w=> ?_⟩;simp[Instr.indexAt,qE e2,asIntOf,Instr.sureAddr,z0,z1,z23 hei,hei2,hsz,z48]
  ·exact h.elim
 ·exact h.elim
def indexK (P:Program)(G:Bool)(t:TypeId)(s ix:SV)(k:SV->Prop):Prop:=
 match s,ix with
 |.str s,.int _ z=>(G=true->(0<=z/\z<s.size)/\(z1o P t).kd= .string/\(z1o P t).ok=true)/\k (.int .u8 (byteAt s z.toNat))
 |.agg l,.int _ z=>
  match(z1o P t).kd with
  |.array n e=>
   (G=true->(0<=z/\z<n)/\n<=l.length/\z2m P e=1/\isAggT P e=some false/\(z1o P t).ok=true)/\
   match strsOf l with
   |some ss=>k (.str (ss.getD z.toNat default))
   |none=>match intsOf .i64 l with
    |some ss=>k (.int .i64 (ss.getD z.toNat default))
    |none=>False
  |_=>False
 |_,_=>False
def indexK_ok {P:Program}{β:Env}{m:Nat}{G:Bool}{t:TypeId}{s ix:SV}{v vi:Value}{k:SV->Prop}(h:indexK P G t s ix k)(hv:G=true->den β s v)(hi:G=true->den β ix vi):
  ∃s',k s'/\(G=true->s'.lt m/\∃v',den β s' v'/\Yld P (Instr.index t v vi) v'):=by
 unfold indexK at h
 split at h
 ·rename_i s kd z;refine⟨_,h.2,fun hG=> ?_⟩;obtain⟨⟨z0,z1⟩,hkd,hok⟩:=h.1 hG;have hd:=hv hG;have hdi:=hi hG;simp only[den] at hd hdi;subst hd hdi;obtain⟨inf,d,e1,e2,e3⟩:=z1k hok;rw[e3] at hkd;have hd':=kdOf_string hkd;subst hd';refine⟨trivial,_,rfl,fun w=> ?_⟩;have hlt:z.toNat<s.size:=by omega
  have hsome:s[z.toNat]? =some s[z.toNat]:=by simp[hlt]
  simp[Instr.index,asIntOf,qE e2,z0,hsome,byteAt]
 ·rename_i l kd z
  split at h
  ·rename_i n e hkd;obtain⟨hc,h⟩:=h
   have main:∀s',G=true->l[z.toNat]? =some s'->(∀m,s'.lt m)->s'.lt m/\∃v',den β s' v'/\Yld P (Instr.index t v vi) v':=fun s' hG hs hl=>by
    obtain⟨⟨z0,z1⟩,hn,hsz,hag,hok⟩:=hc hG;have hd:=hv hG;have hdi:=hi hG;simp only[den] at hd hdi;subst hdi;obtain⟨vs,hvs,rfl⟩:=hd;obtain⟨inf,d,e1,e2,e3⟩:=z1k hok;rw[e3] at hkd;have hd':=kdOf_array hkd;subst hd';obtain⟨u,hu1,hu2⟩:=z4k hvs _ _ hs;obtain⟨ei,hei,hei2⟩:=z4c (P:=P) (t:=e) (by omega);refine⟨hl m,u,hu2,fun w=> ?_⟩;unfold isAggT at hag
    cases hue:P.underlying e with
    |none=>simp[hue] at hag
    |some d=>
     have hda:(kdOf d).agg=false:=by simpa [hue] using hag
     simp[Instr.index,asIntOf,qE e2,z0,z1,z23 hei,hei2,hsz,part,z65 hue,hda,hu1]
   split at h
   ·rename_i ss hss;exact⟨_,h,fun hG=>main _ hG (strsOf_get hss _ (by have:=hc hG;omega)) (fun _=>trivial)⟩
   ·split at h
    ·rename_i ss hss;exact⟨_,h,fun hG=>main _ hG (intsOf_get hss _ (by have:=hc hG;omega)) (fun _=>trivial)⟩
    ·exact h.elim
  ·exact h.elim
 ·exact h.elim
def bndK (G:Bool)(x:Option SV)(dflt:Nat)(k:Nat->Prop):Prop:=
 match x with
 |none=>k dflt
 |some (.int _ z)=>(G=true->0<=z)/\k z.toNat
 |_=>False
def sliceK (P:Program)(H:AH)(G:Bool)(t:TypeId)(s:SV)(lo hi mx:Option SV)(k:SV->Prop):Prop:=
 match s with
 |.slc g id kk o n=>
  match(z1o P t).kd,find H.os id with
  |.slice e,some (c,F)=>
   match F kk with
   |.row r=>
    bndK G hi n fun h=>bndK G lo 0 fun l=>bndK G mx n fun m=>
     (G=true->l<=h/\h<=m/\m<=n/\(hi.isSome=true\/mx.isSome=false)/\kk<c/\z2m P e=r.sz/\z2m P e≠0/\(z1o P t).ok=true)/\k (match lo with|none=> .slc g id kk (o+l) (h-l)|some _=> .slc false id kk (o+l) (h-l))
   |_=>False
  |_,_=>False
 |.nils=>
  match(z1o P t).kd with
  |.slice e=>bndK G hi 0 fun h=>bndK G lo 0 fun l=>(G=true->l=0/\h=0/\mx=none/\z2m P e≠0/\(z1o P t).ok=true)/\k .nils
  |_=>False
 |.str s=>
  bndK G hi s.size fun h=>bndK G lo 0 fun l=>
   (G=true->l<=h/\h<=s.size/\mx=none/\(z1o P t).kd= .string/\(z1o P t).ok=true)/\k (.str (s.extract l h))
 |_=>False
def denO (β:Env):Option SV->Option Value->Prop
 |none,none=>True
 |some s,some v=>den β s v
 |_,_=>False
def bndK_ok {β:Env}{G:Bool}{x:Option SV}{v:Option Value}{d:Nat}{k:Nat->Prop}(h:bndK G x d k)(hv:G=true->denO β x v):
  ∃n,k n/\(G=true->(x=none/\v=none/\n=d)\/∃kd z,x.isSome=true/\v=some (.int kd z)/\0<=z/\n=z.toNat):=by
 unfold bndK at h
 split at h
 ·refine⟨d,h,fun hG=> .inl ⟨rfl,?_,rfl⟩⟩;have:=hv hG
  cases v with
  |none=>rfl
  |some v=>simp[denO] at this
 ·rename_i kd z;refine⟨_,h.2,fun hG=> .inr ⟨kd,z,rfl,?_,h.1 hG,rfl⟩⟩;have:=hv hG
  cases v with
  |none=>simp[denO] at this
  |some v=>simp only[denO,den] at this;rw[this]
 ·exact h.elim
def z2w (P:Program)(w:World)(kd:IntKind)(z:Int)(y:Nat)(code:BoundsCode)(h0:0<=z)(h1:z<=y):(Instr.sliceBound (.int kd z) y code).run P w= .ok z.toNat w:=by
 simp[Instr.sliceBound,asIntOf,h0,h1]
def run_sliceBounds {P:Program}{w:World}{isS:Bool}{len cap l h m:Nat}{lo hi mx:Option Value}
  (hm:(mx=none/\m=cap)\/∃kd z,mx=some (.int kd z)/\0<=z/\m=z.toNat) (hmc:m<=cap)
  (hh:(hi=none/\h=len/\mx=none)\/∃kd z,hi=some (.int kd z)/\0<=z/\h=z.toNat) (hhm:h<=m)
  (hl:(lo=none/\l=0)\/∃kd z,lo=some (.int kd z)/\0<=z/\l=z.toNat) (hlh:l<=h):
  (Instr.sliceBounds isS len cap lo hi mx).run P w= .ok (l,h,m) w:=by
 unfold Instr.sliceBounds;rcases hm with⟨rfl,rfl⟩|⟨kd,z,rfl,z0,rfl⟩
 ·rcases hh with⟨rfl,rfl,_⟩|⟨kd,z,rfl,z0,rfl⟩
  ·rcases hl with⟨rfl,rfl⟩|⟨kd,z,rfl,z0,rfl⟩
   ·simp
   ·simp[z2w P w kd z _ _ z0 (show z<=(h:Int) by omega)]
  ·rcases hl with⟨rfl,rfl⟩|⟨kd',z',rfl,z0',rfl⟩
   ·simp[z2w P w kd z _ _ z0 (show z<=(m:Int) by omega)]
   ·simp[z2w P w kd z _ _ z0 (show z<=(m:Int) by omega),z2w P w kd' z' _ _ z0' (show z'<=((z.toNat:Nat):Int) by omega)]
 ·rcases hh with⟨_,_,h⟩|⟨kd',z',rfl,z0',rfl⟩
  ·cases h
  ·rcases hl with⟨rfl,rfl⟩|⟨kd'',z'',rfl,z0'',rfl⟩
   ·simp[z2w P w kd z _ _ z0 (show z<=(cap:Int) by omega),z2w P w kd' z' _ _ z0' (show z'<=((z.toNat:Nat):Int) by omega)]
   ·simp[z2w P w kd z _ _ z0 (show z<=(cap:Int) by omega),z2w P w kd' z' _ _ z0' (show z'<=((z.toNat:Nat):Int) by omega),z2w P w kd'' z'' _ _ z0'' (show z''<=((z'.toNat:Nat):Int) by omega)]
def sliceK_ok {X:Cx}{β:Env}{H:AH}{w:World}(hS:St X β H w){G:Bool}{t:TypeId}{s:SV}{v:Value}{lo hi mx:Option SV}{vlo vhi vmx:Option Value}{k:SV->Prop}
  (h:sliceK X.P H G t s lo hi mx k) (hv:G=true->den β s v/\s.lt H.nxt) (hlo:G=true->denO β lo vlo) (hhi:G=true->denO β hi vhi) (hmx:G=true->denO β mx vmx):
  ∃s',k s'/\(G=true->s'.lt H.nxt/\∃v',den β s' v'/\Yld X.P (Instr.sliceAt t v vlo vhi vmx) v'):=by
 unfold sliceK at h
 split at h
 ·rename_i g id kk o n
  split at h
  ·rename_i e c F hkd hf
   split at h
   ·rename_i r hr;obtain⟨hN,h,hh⟩:=bndK_ok h hhi;obtain⟨lN,h,hl⟩:=bndK_ok h hlo;obtain⟨mN,h,hm⟩:=bndK_ok h hmx;refine⟨_,h.2,fun hG=> ?_⟩;obtain⟨c1,c2,c3,c4,hk,hsz,hsz0,hok⟩:=h.1 hG;obtain⟨hd,hlt⟩:=hv hG;simp only[den] at hd;obtain⟨inf,d,e1,e2,e3⟩:=z1k hok;rw[e3] at hkd;have hd':=z2z hkd;subst hd';obtain⟨ei,hei,hei2⟩:=z4c hsz0;obtain⟨a,cp,rfl,hnc⟩:=z3z hd
    --the capacity that stands in the place of the third bound
    have hmv:(vmx=none/\mx=none)\/∃kd z,vmx=some (.int kd z)/\0<=z/\mN=z.toNat:=by
     rcases hm hG with⟨q1,q2,_⟩|⟨kd,z,_,q2,q3,q4⟩
     ·exact .inl ⟨q2,q1⟩
     ·exact .inr ⟨kd,z,q2,q3,q4⟩
    let m':=if vmx=none then cp else mN
    have hm':(vmx=none/\m'=cp)\/∃kd z,vmx=some (.int kd z)/\0<=z/\m'=z.toNat:=by
     rcases hmv with⟨q,_⟩|⟨kd,z,q,q1,q2⟩
     ·exact .inl ⟨q,by simp[m',q]⟩
     ·exact .inr ⟨kd,z,q,q1,by simp[m',q,q2]⟩
    have hm'c:m'<=cp:=by
     simp only[m'];split
     ·exact qd _
     ·omega
    have hhm':hN<=m':=by
     simp only[m'];split
     ·omega
     ·omega
    have hh':(vhi=none/\hN=n/\vmx=none)\/∃kd z,vhi=some (.int kd z)/\0<=z/\hN=z.toNat:=by
     rcases hh hG with⟨q1,q2,q3⟩|⟨kd,z,_,q2,q3,q4⟩
     ·refine .inl ⟨q2,q3,?_⟩;rcases c4 with c4|c4
      ·rw[q1] at c4;cases c4
      ·rcases hm hG with⟨_,q,_⟩|⟨_,_,q,_⟩
       ·exact q
       ·rw[q] at c4;cases c4
     ·exact .inr ⟨kd,z,q2,q3,q4⟩
    have hl':(vlo=none/\lN=0)\/∃kd z,vlo=some (.int kd z)/\0<=z/\lN=z.toNat:=by
     rcases hl hG with⟨_,q2,q3⟩|⟨kd,z,_,q2,q3,q4⟩
     ·exact .inl ⟨q2,q3⟩
     ·exact .inr ⟨kd,z,q2,q3,q4⟩
    have hlook:=zy hf hk;rw[hr] at hlook
    have base:den β (.slc false id kk (o+lN) (hN-lN)) (.slice (if m'=lN then a else a.map (·.add (lN*ei.size))) (hN-lN) (m'-lN)):=by
     simp only[den,z56,qz,Ql];refine⟨_,_,rfl,by omega,fun hpos=> ?_⟩;obtain⟨L,c',hb,he⟩:=z4v hd (by omega)
     have hLsz:L.sz=r.sz:=by
      rcases hS.holds _ _ _ hlook with⟨_,hq⟩|⟨L',hq,h1,_⟩
      ·rw[hb] at hq;cases hq
      ·rw[hb] at hq;cases hq;exact h1
     simp only[j4] at he;obtain⟨rfl,_,_⟩:=he;refine⟨L,hb,?_⟩;rw[qc (by omega)];have hes:ei.size=L.sz:=by omega
     simp[z48,hes,qV,jm]
    have hyld:Yld X.P (Instr.sliceAt t (.slice a n cp) vlo vhi vmx) (.slice (if m'=lN then a else a.map (·.add (lN*ei.size))) (hN-lN) (m'-lN)):=fun w=>by
     have hsb:=run_sliceBounds (P:=X.P) (w:=w) (isS:=true) hm' hm'c hh' hhm' hl' c1;simp[Instr.sliceAt,Instr.slice,qE e2,hsb,z23 hei]
    split
    ·refine⟨hlt,_,?_,hyld⟩
     have hl0:lN=0:=by
      rcases hl hG with⟨_,_,q⟩|⟨_,_,q,_⟩
      ·exact q
      ·cases q
     cases g with
     |false=>exact base
     |true=>
      simp only[den,z56,q9] at hd ⊢;rcases hd with⟨h1,h2,h3,h4⟩|⟨L,c,h1,h2,h3,h4,h5,h6⟩
      ·cases h4
       refine .inl ⟨h1,by omega,by omega,?_⟩;rw[show hN-lN=0 by omega,show m'-lN=0 by omega]
       split<;>rfl
      ·cases h6
       refine .inr ⟨L,m'-lN,h1,by omega,h3,by omega,by omega,?_⟩;subst hl0
       split<;>simp[z48]
    ·exact⟨hlt,_,base,hyld⟩
   ·exact h.elim
  ·exact h.elim
 ·split at h
  ·rename_i e hkd;obtain⟨hN,h,hh⟩:=bndK_ok h hhi;obtain⟨lN,h,hl⟩:=bndK_ok h hlo;refine⟨_,h.2,fun hG=> ?_⟩;obtain⟨c1,c2,c3,hsz0,hok⟩:=h.1 hG;obtain⟨hd,_⟩:=hv hG;simp only[den] at hd;subst hd c1 c2 c3
   have hvm:vmx=none:=by
    have:=hmx hG
    cases vmx with
    |none=>rfl
    |some _=>simp[denO] at this
   subst hvm;obtain⟨inf,d,e1,e2,e3⟩:=z1k hok;rw[e3] at hkd;have hd':=z2z hkd;subst hd';obtain⟨ei,hei,hei2⟩:=z4c hsz0
   have hh':(vhi=none/\(0:Nat)=0/\(none:Option Value)=none)\/∃kd z,vhi=some (.int kd z)/\0<=z/\0=z.toNat:=by
    rcases hh hG with⟨_,q2,q3⟩|⟨kd,z,_,q2,q3,q4⟩
    ·exact .inl ⟨q2,rfl,rfl⟩
    ·exact .inr ⟨kd,z,q2,q3,q4⟩
   have hl':(vlo=none/\(0:Nat)=0)\/∃kd z,vlo=some (.int kd z)/\0<=z/\0=z.toNat:=by
    rcases hl hG with⟨_,q2,q3⟩|⟨kd,z,_,q2,q3,q4⟩
    ·exact .inl ⟨q2,rfl⟩
    ·exact .inr ⟨kd,z,q2,q3,q4⟩
   refine⟨trivial,_,rfl,fun w=> ?_⟩;have hsb:=run_sliceBounds (P:=X.P) (w:=w) (isS:=true) (len:=0) (cap:=0) (m:=0) (.inl ⟨rfl,rfl⟩) (qd _) hh' (qd _) hl' (qd _);simp[Instr.sliceAt,Instr.slice,qE e2,hsb,z23 hei]
  ·exact h.elim
 ·rename_i s;obtain⟨hN,h,hh⟩:=bndK_ok h hhi;obtain⟨lN,h,hl⟩:=bndK_ok h hlo;refine⟨_,h.2,fun hG=> ?_⟩;obtain⟨c1,c2,c3,hkd,hok⟩:=h.1 hG;obtain⟨hd,_⟩:=hv hG;simp only[den] at hd;subst hd c3
  have hvm:vmx=none:=by
   have:=hmx hG
   cases vmx with
   |none=>rfl
   |some _=>simp[denO] at this
  subst hvm;obtain⟨inf,d,e1,e2,e3⟩:=z1k hok;rw[e3] at hkd;have hd':=kdOf_string hkd;subst hd'
  have hh':(vhi=none/\hN=s.size/\(none:Option Value)=none)\/∃kd z,vhi=some (.int kd z)/\0<=z/\hN=z.toNat:=by
   rcases hh hG with⟨_,q2,q3⟩|⟨kd,z,_,q2,q3,q4⟩
   ·exact .inl ⟨q2,q3,rfl⟩
   ·exact .inr ⟨kd,z,q2,q3,q4⟩
  have hl':(vlo=none/\lN=0)\/∃kd z,vlo=some (.int kd z)/\0<=z/\lN=z.toNat:=by
   rcases hl hG with⟨_,q2,q3⟩|⟨kd,z,_,q2,q3,q4⟩
   ·exact .inl ⟨q2,q3⟩
   ·exact .inr ⟨kd,z,q2,q3,q4⟩
  refine⟨trivial,_,rfl,fun w=> ?_⟩;have hsb:=run_sliceBounds (P:=X.P) (w:=w) (isS:=false) (len:=s.size) (cap:=s.size) (m:=s.size) (.inl ⟨rfl,rfl⟩) (qd _) hh' c2 hl' c1;simp[Instr.sliceAt,Instr.slice,qE e2,hsb]
 ·exact h.elim
def convK (P:Program)(wr G:Bool)(src dst:TypeId)(s:SV)(k:SV->Prop):Prop:=
 match s with
 |.int _ n=>
  match(z1o P dst).kd with
  |.int .i64=>(G=true->(z1o P src).ok=true/\(z1o P dst).ok=true)/\(if wr then k (.int .i64 (IntKind.i64.wrap n)) else(G=true->In64 n)/\k (.int .i64 n))
  |.int kd=>(G=true->(z1o P src).ok=true/\(z1o P dst).ok=true)/\k (.int kd (kd.wrap n))
  |_=>False
 |.str x=>(G=true->(z1o P dst).kd= .string/\(z1o P src).ok=true/\(z1o P dst).ok=true)/\k (.str x)
 |_=>False
def convK_ok {P:Program}{β:Env}{m:Nat}{wr G:Bool}{src dst:TypeId}{s:SV}{v:Value}{k:SV->Prop}(h:convK P wr G src dst s k)(hv:G=true->den β s v):
  ∃s',k s'/\(G=true->s'.lt m/\∃v',den β s' v'/\Yld P (convert src dst v) v'):=by
 have int (kd kd':IntKind) (n:Int) (hkd:(z1o P dst).kd= .int kd) (h1:(z1o P src).ok=true) (h2:(z1o P dst).ok=true):Yld P (convert src dst (.int kd' n)) (.int kd (kd.wrap n)):=fun w=>by
  obtain⟨_,d1,_,e1,_⟩:=z1k h1;obtain⟨_,d2,_,e2,e3⟩:=z1k h2;rw[e3] at hkd;have:=kdOf_int hkd;subst this;simp[convert,qE e1,qE e2,Conv.intToInt]
 unfold convK at h
 split at h
 ·rename_i kd' n
  split at h
  ·rename_i hkd;obtain⟨hc,h⟩:=h
   split at h
   ·refine⟨_,h,fun hG=>⟨trivial,_,rfl,?_⟩⟩;have:=hv hG;simp only[den] at this;subst this;exact int .i64 kd' n hkd (hc hG).1 (hc hG).2
   ·refine⟨_,h.2,fun hG=>⟨trivial,_,rfl,?_⟩⟩;have:=hv hG;simp only[den] at this;subst this;have h2:=int .i64 kd' n hkd (hc hG).1 (hc hG).2;rwa [(h.1 hG).wrap] at h2
  ·rename_i kd _ hkd;refine⟨_,h.2,fun hG=>⟨trivial,_,rfl,?_⟩⟩;have:=hv hG;simp only[den] at this;subst this;exact int kd kd' n hkd (h.1 hG).1 (h.1 hG).2
  ·exact h.elim
 ·rename_i x;refine⟨_,h.2,fun hG=>⟨trivial,_,rfl,fun w=> ?_⟩⟩;obtain⟨hkd,h1,h2⟩:=h.1 hG;have:=hv hG;simp only[den] at this;subst this;obtain⟨_,d1,_,e1,_⟩:=z1k h1;obtain⟨_,d2,_,e2,e3⟩:=z1k h2;rw[e3] at hkd;have:=kdOf_string hkd;subst this;simp[convert,qE e1,qE e2]
 ·exact h.elim
def unK (wr G:Bool)(op:UnOp)(s:SV)(k:SV->Prop):Prop:=
 match op,s with
 |.not,.bool b=>k (.bool (!b))
 |.neg,.int kd n=>arithK wr G kd (0-n) k
 |_,_=>False
def unK_ok {P:Program}{β:Env}{m:Nat}{wr G:Bool}{op:UnOp}{s:SV}{v:Value}{k:SV->Prop}(h:unK wr G op s k)(hv:G=true->den β s v):
  ∃s',k s'/\(G=true->s'.lt m/\∃v',den β s' v'/\Yld P (Op.unary op v) v'):=by
 unfold unK at h
 split at h
 ·refine⟨_,h,fun hG=>⟨trivial,_,rfl,fun w=> ?_⟩⟩;have:=hv hG;simp only[den] at this;subst this;simp[Op.unary]
 ·rename_i kd n;obtain⟨s',hk,hs⟩:=arithK_ok h;refine⟨s',hk,fun hG=> ?_⟩;have:=hv hG;simp only[den] at this;subst this;rw[hs hG];exact⟨trivial,_,rfl,fun w=>by simp[Op.unary,Op.intArith]⟩
 ·exact h.elim
def z59.len:z59->Nat
 |.ints l=>l.length
 |.strs l=>l.length
def z59.len_vals (ks:z59):ks.vals.length=ks.len:=by cases ks<;>simp[z59.vals,z59.len]
def lenK (P:Program)(dr:Bool)(H:AH)(W:List Nat)(G:Bool)(t:TypeId)(s:SV)(k:SV->Prop):Prop:=
 match s with
 |.mp id kk=>
  match find H.os id with
  |some (c,F)=>
   match F kk with
   |.blk _ ks=>(G=true->dr=false/\kk<c/\W.contains id=false/\(∃kt et,(z1o P t).kd= .map kt et)/\(z1o P t).ok=true)/\k (.int .i64 ks.len)
   |.mapo _ M=>(G=true->dr=false/\kk<c/\W.contains id=false/\(∃kt et,(z1o P t).kd= .map kt et)/\(z1o P t).ok=true)/\k (.int .i64 M.n)
   |_=>False
  |none=>False
 |.slc _ _ _ _ n=>(G=true->(∃e,(z1o P t).kd= .slice e)/\(z1o P t).ok=true)/\k (.int .i64 n)
 |.nils=>(G=true->(∃e,(z1o P t).kd= .slice e)/\(z1o P t).ok=true)/\k (.int .i64 0)
 |.str x=>(G=true->(z1o P t).kd= .string/\(z1o P t).ok=true)/\k (.int .i64 x.size)
 |_=>False
def lenK_ok {X:Cx}{β:Env}{H:AH}{w:World}(hS:St X β H w){dr:Bool}{W:List Nat}{G:Bool}{t ty:TypeId}{s:SV}{v:Value}{k:SV->Prop}{C:World->Prop}(hC:dr=false->∀w',C w'->Kp w (inW β H W) w')(h:lenK X.P dr H W G t s k)(hv:G=true->den β s v):
  ∃s',k s'/\(G=true->s'.lt H.nxt/\∃v',den β s' v'/\∀w',C w'->(Builtin.len_ #[t] ty #[v]).run X.P w'= .ok v' w'):=by
 unfold lenK at h
 split at h
 ·rename_i id kk
  split at h
  ·rename_i c F hf
   split at h
   ·rename_i o ks hr;refine⟨_,h.2,fun hG=>⟨trivial,_,rfl,fun w' hw'=> ?_⟩⟩;obtain⟨hdr,hkk,hW,⟨kt,et,hkd⟩,hok⟩:=h.1 hG;have hl:=zy hf hkk;rw[hr] at hl;obtain⟨_,d,_,e2,e3⟩:=z1k hok;rw[e3] at hkd;have:=kdOf_map hkd;subst this;have hd:=hv hG;simp only[den] at hd;obtain⟨L,hb,rfl⟩:=hd;have hh:=hS.holds _ _ _ hl;obtain⟨L',b,hq,hbk,es,clk,rfl,hks,_⟩:=hh;rw[hb] at hq
    cases hq
    have hlt:=(q7.1 hbk).1;have hbk':w'.heap[L.blk]? =some (.map es clk):=((hC hdr w' hw').2 _ hlt (hS.notW hl hW hb)).trans hbk;have hn:es.size=ks.len:=by rw[<-ks.len_vals,<-hks];simp
    have hgo:(getObj L.blk).run X.P w'= .ok (.map es clk) w':=by simp[getObj,Sem.run,hbk']
    simp[Builtin.len_,qE e2,hgo,goInt,hn]
   ·rename_i o M hr;refine⟨_,h.2,fun hG=>⟨trivial,_,rfl,fun w' hw'=> ?_⟩⟩;obtain⟨hdr,hkk,hW,⟨kt,et,hkd⟩,hok⟩:=h.1 hG;have hl:=zy hf hkk;rw[hr] at hl;obtain⟨_,d,_,e2,e3⟩:=z1k hok;rw[e3] at hkd;have:=kdOf_map hkd;subst this;have hd:=hv hG;simp only[den] at hd;obtain⟨L,hb,rfl⟩:=hd;have hh:=hS.holds _ _ _ hl;obtain⟨L',b,hq,hbk,es,clk,rfl,hn,_⟩:=hh;rw[hb] at hq
    cases hq
    have hlt:=(q7.1 hbk).1;have hbk':w'.heap[L.blk]? =some (.map es clk):=((hC hdr w' hw').2 _ hlt (hS.notW hl hW hb)).trans hbk;have hgo:(getObj L.blk).run X.P w'= .ok (.map es clk) w':=by simp[getObj,Sem.run,hbk']
    simp[Builtin.len_,qE e2,hgo,goInt,hn]
   ·exact h.elim
  ·exact h.elim
 ·refine⟨_,h.2,fun hG=>⟨trivial,_,rfl,fun w' _=> ?_⟩⟩;obtain⟨⟨e,hkd⟩,hok⟩:=h.1 hG;obtain⟨_,d,_,e2,e3⟩:=z1k hok;rw[e3] at hkd;have:=z2z hkd;subst this;have hd:=hv hG;simp only[den] at hd;obtain⟨a,c,rfl,_⟩:=z3z hd;simp[Builtin.len_,qE e2,goInt]
 ·refine⟨_,h.2,fun hG=>⟨trivial,_,rfl,fun w' _=> ?_⟩⟩;obtain⟨⟨e,hkd⟩,hok⟩:=h.1 hG;obtain⟨_,d,_,e2,e3⟩:=z1k hok;rw[e3] at hkd;have:=z2z hkd;subst this;have hd:=hv hG;simp only[den] at hd;subst hd;simp[Builtin.len_,qE e2,goInt]
 ·refine⟨_,h.2,fun hG=>⟨trivial,_,rfl,fun w' _=> ?_⟩⟩;obtain⟨hkd,hok⟩:=h.1 hG;obtain⟨_,d,_,e2,e3⟩:=z1k hok;rw[e3] at hkd;have:=kdOf_string hkd;subst this;have hd:=hv hG;simp only[den] at hd;subst hd;simp[Builtin.len_,qE e2,goInt]
 ·exact h.elim
def foldInt (f:Int->Int->Int):Int->List SV->Option Int
 |x,[]=>some x
 |x,.int _ y::l=>foldInt f (f x y) l
 |_,_=>none
def mmK (f:Int->Int->Int)(l:List SV)(k:SV->Prop):Prop:=
 match l with
 |.int kd x::l=>match foldInt f x l with
  |some z=>k (.int kd z)
  |none=>False
 |_=>False
def max_fold {P:Program}{β:Env}(kd:IntKind):∀(l:List SV) (vs:List Value) (x z:Int) (w:World),z2u β l vs->foldInt max x l=some z->(vs.foldlM Builtin.max2 (.int kd x)).run P w= .ok (.int kd z) w
 |[],vs,x,z,w,h,hz=>by simp only[z2u] at h;subst h;simp[foldInt] at hz;subst hz;simp
 |s::l,vs,x,z,w,h,hz=>by
  simp only[z2u] at h;obtain⟨v,r,hv,hr,rfl⟩:=h
  cases s<;>simp only[foldInt] at hz<;>first|cases hz|skip
  rename_i kd' y;simp only[den] at hv;subst hv;have hmx:(if y>x then y else x)=max x y:=by omega
  simp only[List.foldlM_cons,qM,Builtin.max2,Qh,qA,hmx];exact max_fold kd l r _ z w hr hz
def min_fold {P:Program}{β:Env}(kd:IntKind):∀(l:List SV) (vs:List Value) (x z:Int) (w:World),z2u β l vs->foldInt min x l=some z->(vs.foldlM Builtin.min2 (.int kd x)).run P w= .ok (.int kd z) w
 |[],vs,x,z,w,h,hz=>by simp only[z2u] at h;subst h;simp[foldInt] at hz;subst hz;simp
 |s::l,vs,x,z,w,h,hz=>by
  simp only[z2u] at h;obtain⟨v,r,hv,hr,rfl⟩:=h
  cases s<;>simp only[foldInt] at hz<;>first|cases hz|skip
  rename_i kd' y;simp only[den] at hv;subst hv;have hmx:(if y<x then y else x)=min x y:=by omega
  simp only[List.foldlM_cons,qM,Builtin.min2,Qh,qA,hmx];exact min_fold kd l r _ z w hr hz
def mmK_max {P:Program}{β:Env}{m:Nat}{l:List SV}{vs:List Value}{ats:Array TypeId}{ty:TypeId}{k:SV->Prop}{G:Bool}(h:mmK max l k)(hv:G=true->z2u β l vs):
  ∃s',k s'/\(G=true->s'.lt m/\∃v',den β s' v'/\Yld P (Builtin.max_ ats ty vs.toArray) v'):=by
 unfold mmK at h
 split at h
 ·rename_i kd x l
  split at h
  ·rename_i z hz;refine⟨_,h,fun hG=>⟨trivial,_,rfl,fun w=> ?_⟩⟩;have hd:=hv hG;simp only[z2u] at hd;obtain⟨v,r,hv1,hr,rfl⟩:=hd;have hv':v= .int kd x:=hv1;subst hv';exact max_fold kd l r x z w hr hz
  ·exact h.elim
 ·exact h.elim
def mmK_min {P:Program}{β:Env}{m:Nat}{l:List SV}{vs:List Value}{ats:Array TypeId}{ty:TypeId}{k:SV->Prop}{G:Bool}(h:mmK min l k)(hv:G=true->z2u β l vs):
  ∃s',k s'/\(G=true->s'.lt m/\∃v',den β s' v'/\Yld P (Builtin.min_ ats ty vs.toArray) v'):=by
 unfold mmK at h
 split at h
 ·rename_i kd x l
  split at h
  ·rename_i z hz;refine⟨_,h,fun hG=>⟨trivial,_,rfl,fun w=> ?_⟩⟩;have hd:=hv hG;simp only[z2u] at hd;obtain⟨v,r,hv1,hr,rfl⟩:=hd;have hv':v= .int kd x:=hv1;subst hv';exact min_fold kd l r x z w hr hz
  ·exact h.elim
 ·exact h.elim
def bytK (f:Nat->List SV):Nat->Nat->Option (List Int)
 |_,0=>some []
 |o,n+1=>match f o with
  |[.int .u8 z]=>(bytK f (o+1) n).map (z:: ·)
  |_=>none
def bstr (zs:List Int):ByteArray:=zs.foldl (fun r n=>r.push (UInt8.ofNat n.toNat)) ByteArray.empty
def isBy (P:Program)(t:TypeId):Bool:=match P.underlying t with
 |some (.slice e)=>match P.underlying e with
  |some (.int .u8)=>true
  |_=>false
 |_=>false
def bstrK (P:Program)(H:AH)(W:List Nat)(dr G:Bool)(src dst:TypeId)(s:SV)(k:SV->Prop):Prop:=
 match s with
 |.slc _ id kk o n=>
  match find H.os id with
  |some (c,F)=>
   match F kk with
   |.row r=>
    match bytK r.f o n with
    |some zs=>(G=true->dr=false/\kk<c/\o+n<=r.n/\r.sz=1/\W.contains id=false/\isBy P src=true/\(z1o P dst).ok=true/\(z1o P dst).kd= .string)/\k (.str (bstr zs))
    |none=>False
   |_=>False
  |none=>False
 |_=>False
def bytK_get {f:Nat->List SV}:∀{n o:Nat} {zs:List Int},bytK f o n=some zs->zs.length=n/\∀(i:Nat) (z:Int),zs[i]? =some z->f (o+i)=[.int .u8 z]
 |0,o,zs,h=>by cases h;exact⟨rfl,fun i z hz=>by simp at hz⟩
 |n+1,o,zs,h=>by
  unfold bytK at h
  split at h
  ·rename_i z hf;obtain⟨ys,h1,rfl⟩:=q6.1 h;obtain⟨h2,h3⟩:=bytK_get h1;refine⟨by simp[h2],fun i y hy=> ?_⟩
   cases i with
   |zero=>simp at hy;subst hy;exact hf
   |succ i=>
    have:=h3 i y (by simpa using hy);rw[show o+(i+1)=o+1+i by omega];exact this
  ·cases h
def isBy_ok {P:Program}{t:TypeId}(h:isBy P t=true):∃e,P.underlying t=some (.slice e)/\P.underlying e=some (.int .u8):=by
 unfold isBy at h
 split at h
 ·rename_i e he
  split at h
  ·rename_i he2;exact⟨e,he,he2⟩
  ·cases h
 ·cases h
def bstrK_ok {X:Cx}{β:Env}{H:AH}{w:World}(hS:St X β H w){W:List Nat}{dr G:Bool}{src dst:TypeId}{s:SV}{v:Value}{k:SV->Prop}(h:bstrK X.P H W dr G src dst s k)(hv:G=true->den β s v):
  ∃s',k s'/\(G=true->dr=false/\s'.lt H.nxt/\∃v',den β s' v'/\∀w',Kp w (inW β H W) w'->(convert src dst v).run X.P w'= .ok v' w'):=by
 unfold bstrK at h
 split at h
 ·rename_i g id kk o n
  split at h
  ·rename_i c F hf
   split at h
   ·rename_i r hr
    split at h
    ·rename_i zs hzs;refine⟨_,h.2,fun hG=> ?_⟩;obtain⟨h1,h2,h3,h4,h5,h6,h7,h8⟩:=h.1 hG;refine⟨h1,trivial,_,rfl,fun w' hw'=> ?_⟩;have hd:=hv hG;simp only[den] at hd;obtain⟨e,e1,e2⟩:=isBy_ok h6;obtain⟨_,d2,_,e4,e5⟩:=z1k h7;rw[e5] at h8;have:=kdOf_string h8;subst this;obtain⟨hl,hget⟩:=bytK_get hzs;obtain⟨a,cap,rfl,_⟩:=z3z hd;rw[run_convert_bytes_string w' src dst e a n cap e1 e2 e4]
     cases n with
     |zero=>
      have:zs=[]:=je hl;subst this
      cases a with
      |none=>rfl
      |some a=>
       have hcs:(loadCells a 0).run X.P w'= .ok (([]:List Int).map (Value.int .u8)).toArray w':=Js (P:=X.P) w' a [] (fun j v hj=>by cases j<;>cases hj);exact run_bytesToString w' a 0 cap [] hcs
     |succ m=>
      obtain⟨L,c',hb,hv2⟩:=z4v hd (QW m)
      cases hv2
      have hlk:=zy hf h2;rw[hr] at hlk
      have hcs:(loadCells ⟨L.blk,L.off+o*L.sz,none⟩ (m+1)).run X.P w'= .ok (zs.map (Value.int .u8)).toArray w':=by
       have:=Js (P:=X.P) w' ⟨L.blk,L.off+o*L.sz,none⟩ (zs.map (Value.int .u8)) (fun j u hj=>by
        obtain⟨z,hz,rfl⟩:=q6.1 (by rw[<-qQ];exact hj)
        have hjl:j<zs.length:=by
         rcases Qo j zs.length with h|h
         ·exact h
         ·rw[qP h] at hz;cases hz
        obtain⟨L',hb',hlt,hsz,hlen,hcell⟩:=hS.cellsAt hlk (i:=o+j) (by omega);rw[hb] at hb'
        cases hb'
        obtain⟨_,_,u,q3,q4⟩:=hcell 0 (.int .u8 z) (by rw[hget j z hz];rfl);simp only[den] at q4;subst q4;rw[z48];have:=(Q9 (w:=w) (a:=⟨L.blk,L.off+(o+j)*L.sz+0,none⟩) (hw'.2 _ hlt (hS.notW hlk h5 hb))).trans q3;rw[hsz,h4] at this ⊢
        simpa [jm] using this)
       rw[qx,hl] at this;exact this
      exact run_bytesToString w' _ _ _ zs hcs
    ·exact h.elim
   ·exact h.elim
  ·exact h.elim
 ·exact h.elim
def convX (P:Program)(H:AH)(W:List Nat)(wr dr G:Bool)(src dst:TypeId)(s:SV)(k:SV->Prop):Prop:=
 match s with
 |.slc g id kk o n=>bstrK P H W dr G src dst (.slc g id kk o n) k
 |s=>convK P wr G src dst s k
def spl {α:Type}(cs:List α)(off:Nat)(ps:List α):List α:=cs.take off++ps++cs.drop (off+ps.length)
def spl_length {α:Type}(cs:List α)(off:Nat)(ps:List α)(h:off+ps.length<=cs.length):(spl cs off ps).length=cs.length:=by
 simp[spl];omega
def fold_set (ps:List Value):∀(arr:Array Value) (off k:Nat),off+k+ps.length<=arr.size->
  ((ps.zipIdx k).foldl (fun cs (x:Value×Nat)=>cs.setIfInBounds (off+x.2) x.1) arr).toList=spl arr.toList (off+k) ps:=by
 induction ps with
 |nil=>intro arr off k _;simp[spl]
 |cons p ps ih=>
  intro arr off k h;simp only[QN] at h;rw[List.zipIdx_cons,JG,ih _ _ _ (by simp;omega)];simp only[spl,Array.toList_setIfInBounds,QN];apply j2;intro i;simp only[Q8,Qb,QR,qX,qN,qy,QT,Jw,QN];have e1:min (off+(k+1)) arr.size=off+k+1:=by omega
  have e2:min (off+k) arr.size=off+k:=by omega
  simp only[e1,e2];rcases ji i (off+k) with h1|h1|h1
  ·simp[show i<off+k+1+ps.length by omega,show i<off+k+1 by omega,show i<off+(k+1) by omega,show i<off+k+(ps.length+1) by omega,h1,show¬off+k=i by omega]
  ·subst h1;simp[show off+k<off+k+1+ps.length by omega,show off+k<off+(k+1) by omega,show off+k<arr.size by omega]
  ·by_cases h2:i<off+k+1+ps.length
   ·simp only[h2,show¬i<off+k+1 by omega,show i<off+k+(ps.length+1) by omega,show¬i<off+k by omega,q9,Ql];rw[show i-(off+k)=(i-(off+k+1))+1 by omega,jV]
   ·simp only[h2,show¬i<off+k+(ps.length+1) by omega,Ql];rw[show off+(k+1)+ps.length+(i-(off+k+1+ps.length))=i by omega,show off+k+(ps.length+1)+(i-(off+k+(ps.length+1)))=i by omega,qc (by omega)]
def okCells:SV->Bool
 |.agg _=>true
 |s=>s.scalar
def cells_den {β:Env}{s:SV}{v:Value}(hs:okCells s=true)(h:den β s v):z2u β s.cells v.cells.toList:=by
 cases s
 case agg l=>
  simp only[den] at h;obtain⟨vs,hvs,rfl⟩:=h;simpa [SV.cells,Value.cells] using hvs
 all_goals
  have h1:v.oneCell'=true:=(fun h'=>den_scalar h' h) hs;have hc:v.cells= #[v]:=by cases v<;>first|rfl|simp[Value.oneCell'] at h1
  rw[hc];exact⟨v,[],h,rfl,rfl⟩
def cells_lt {m:Nat}{s:SV}(h:s.lt m):SV.ltL m s.cells:=by
 cases s<;>simp only[SV.cells,SV.ltL]<;>first|exact h|exact⟨h,trivial⟩
def fillS (place:Nat->Option (Nat×Nat))(cs:List SV):List (Nat×SV)->Option (List SV)
 |[]=>some cs
 |(i,s)::r=>
  match place i with
  |some (off,sz)=>if okCells s=true/\s.cells.length=sz/\off+sz<=cs.length then fillS place (spl cs off s.cells) r else none
  |none=>none
def fillS_ok {β:Env}{m:Nat}(place:Nat->Option (Nat×Nat)):∀(ps:List (Nat×SV)) (pv:List (Nat×Value)) (cs cs':List SV) (arr:Array Value),
  ps.map (·.1)=pv.map (·.1)->z2u β (ps.map (·.2)) (pv.map (·.2))->SV.ltL m (ps.map (·.2))->z2u β cs arr.toList->SV.ltL m cs->fillS place cs ps=some cs'->
  ∃arr',Instr.fill place arr pv=some arr'/\z2u β cs' arr'.toList/\SV.ltL m cs'
 |[],pv,cs,cs',arr,h1,_,_,h4,h5,h6=>by
  cases pv with
  |cons=>simp at h1
  |nil=>simp only[fillS,Qx] at h6;subst h6;exact⟨arr,rfl,h4,h5⟩
 |(i,s)::ps,pv,cs,cs',arr,h1,h2,h3,h4,h5,h6=>by
  cases pv with
  |nil=>simp at h1
  |cons p pv=>
   obtain⟨i',v⟩:=p;simp only[q8,Jn] at h1;obtain⟨rfl,h1⟩:=h1;simp only[q8,z2u,Jn] at h2;obtain⟨v',r',hd,hr,rfl,rfl⟩:=h2;simp only[q8,SV.ltL] at h3;simp only[fillS] at h6
   split at h6
   ·rename_i off sz hp
    split at h6
    ·rename_i hc;obtain⟨c1,c2,c3⟩:=hc;have hcd:=cells_den c1 hd;have hlen:=z2k hcd;have hlen2:=z2k h4;simp only[QT] at hlen hlen2;simp only[Instr.fill,hp];rw[qc (by simp;omega)];have hfs:=fold_set v.cells.toList arr off 0 (by simp;omega);simp only[ja] at hfs
     have hnew:z2u β (spl cs off s.cells) (Array.foldl (fun cs (x:Value×Nat)=>cs.setIfInBounds (off+x.2) x.1) arr v.cells.zipIdx).toList:=by
      rw[<-Array.foldl_toList,Array.toList_zipIdx,hfs];unfold spl;rw[show v.cells.toList.length=s.cells.length by simpa using hlen];exact denL_append (denL_append (denL_take _ h4) hcd) (denL_drop _ h4)
     refine fillS_ok place ps pv _ cs' _ h1 hr h3.2 hnew ?_ h6;refine SV.ltL_of_get fun j u hu=> ?_;unfold spl at hu;rcases Qa.1 (qW hu) with hm|hm
     ·rcases Qa.1 hm with hm|hm
      ·obtain⟨q,hq⟩:=Qr hm;exact SV.ltL_get (ltL_take off h5) q u hq
      ·obtain⟨q,hq⟩:=Qr hm;exact SV.ltL_get (cells_lt h3.1) q u hq
     ·obtain⟨q,hq⟩:=Qr hm;exact SV.ltL_get (ltL_drop _ h5) q u hq
    ·cases h6
   ·cases h6
def z3d (P:Program)(t:TypeId):Option (List SV):=((P.info? t).bind (·.zero)).map fun v=>v.cells.toList.map z1z
def z49 (β:Env)(l:List Value):z2u β (l.map z1z) l:=by
 induction l with
 |nil=>simp[z2u]
 |cons v l ih=>exact⟨v,l,ofConst1_den β v,ih,rfl⟩
def z4u (m:Nat)(l:List Value):SV.ltL m (l.map z1z):=by
 induction l with
 |nil=>simp[SV.ltL]
 |cons v l ih=>exact⟨ofConst1_lt m v,ih⟩
def zeroOf_run {P:Program}{t:TypeId}{l:List SV}(h:z3d P t=some l):∃z,Yld P (zeroValue t) z/\l=z.cells.toList.map z1z:=by
 unfold z3d at h
 cases hi:P.info? t with
 |none=>simp[hi] at h
 |some i=>
  cases hz:i.zero with
  |none=>simp[hi,hz] at h
  |some z=>
   simp[hi,hz] at h;exact⟨z,fun w=>by simp[zeroValue,typeInfo,hi,hz],h.symm⟩
def partsK (fr:Fr)(G:Bool):List (Nat×Operand)->(List (Nat×SV)->Prop)->Prop
 |[],k=>k []
 |(i,x)::l,k=>z5k fr G x fun s=>partsK fr G l fun r=>k ((i,s)::r)
def partsK_ok {X:Cx}{β:Env}{m:Nat}{fr:Fr}{a:Act}(hF:FrOk X β m fr a){G:Bool}:∀{l:List (Nat×Operand)} {k:List (Nat×SV)->Prop},partsK fr G l k->
  ∃ss,k ss/\ss.map (·.1)=l.map (·.1)/\(G=true->z2u β (ss.map (·.2)) (l.map fun p=>a.eval p.2)/\SV.ltL m (ss.map (·.2)))
 |[],k,h=>⟨[],h,rfl,fun _=>⟨rfl,trivial⟩⟩
 |(i,x)::l,k,h=>by
  obtain⟨s,h1,h2⟩:=z1i hF h;obtain⟨r,h3,h4,h5⟩:=partsK_ok hF h1;exact⟨(i,s)::r,h3,by simp[h4],fun hG=>⟨⟨_,_,(h2 hG).1,(h5 hG).1,rfl⟩,(h2 hG).2,(h5 hG).2⟩⟩
def placeS (offs:List (Nat×Option Bool×Nat))(i:Nat):Option (Nat×Nat):=(offs[i]?).map fun x=>(x.1,x.2.2)
def buildK (P:Program)(G:Bool)(t:TypeId)(ps:List (Nat×SV))(k:SV->Prop):Prop:=
 match z3d P t,(z1o P t).kd with
 |some z,.struct=>
  match fillS (placeS (z1o P t).offs) z ps with
  |some cs=>(G=true->(z1o P t).ok=true/\(z1o P t).offs.all (fun x=>x.2.2 !=0)=true)/\k (.agg cs)
  |none=>False
 |some z,.array _ e=>
  match fillS (fun i=>some (i*z2m P e,z2m P e)) z ps with
  |some cs=>(G=true->(z1o P t).ok=true/\z2m P e≠0)/\k (.agg cs)
  |none=>False
 |_,_=>False
def fieldsMap {P:Program}(fs:List Field)(h:∀f∈fs,z2m P f.type≠0)(w:World):
  (fs.mapM (fun f=>do pure (f.offset,<-sizeOf f.type):Field->Sem (Nat×Nat))).run P w= .ok (fs.map fun f=>(f.offset,z2m P f.type)) w:=by
 induction fs with
 |nil=>simp
 |cons f fs ih=>
  obtain⟨i,hi,hs⟩:=z4c (h f (by simp));have ih':=ih (fun g hg=>h g (by simp[hg]));simp only[List.mapM_cons,qM,Qh,qA,z23 hi,hs,ih',q8]
def buildK_ok {P:Program}{β:Env}{m:Nat}{G:Bool}{t:TypeId}{ps:List (Nat×SV)}{pv:List (Nat×Value)}{k:SV->Prop}(h:buildK P G t ps k)
  (he:ps.map (·.1)=pv.map (·.1)) (hv:G=true->z2u β (ps.map (·.2)) (pv.map (·.2))/\SV.ltL m (ps.map (·.2))):
  ∃s',k s'/\(G=true->s'.lt m/\∃v',den β s' v'/\Yld P (Instr.build t pv.toArray) v'):=by
 unfold buildK at h
 split at h
 ·rename_i z hz hkd
  split at h
  ·rename_i cs hcs;refine⟨_,h.2,fun hG=> ?_⟩;obtain⟨hok,hall⟩:=h.1 hG;obtain⟨hd,hl⟩:=hv hG;obtain⟨zv,hzr,rfl⟩:=zeroOf_run hz;obtain⟨inf,d,e1,e2,e3⟩:=z1k hok;rw[e3] at hkd hall hcs;obtain⟨fs,rfl⟩:=kdOf_struct hkd;obtain⟨arr',ha,hda,hla⟩:=fillS_ok (β:=β) (m:=m) (placeS (offsOf P (.struct fs))) ps pv _ cs zv.cells he hd hl (z49 β _) (z4u m _) hcs;refine⟨by simpa only[SV.lt] using hla,.agg arr',by simp only[den];exact⟨_,hda,by simp⟩,fun w=> ?_⟩
   have hf:∀f∈fs.toList,z2m P f.type≠0:=fun f hf=>by
    simp only[offsOf,List.all_map,qu,Function.comp,Qi,ne_eq] at hall;exact hall f hf
   have hm:=fieldsMap fs.toList hf w
   have hma:(fs.mapM (fun f=>do pure (f.offset,<-sizeOf f.type):Field->Sem (Nat×Nat))).run P w= .ok (fs.map fun f=>(f.offset,z2m P f.type)) w:=by
    rw[Array.mapM_eq_mapM_toList];simp only[Sem.run_map,hm,qA];rw[<-Array.toList_map,JD]
   have hpl:(fun i=>(fs.map fun f=>(f.offset,z2m P f.type))[i]?)=placeS (offsOf P (.struct fs)):=by
    funext i
    simp only[placeS,offsOf,qQ,Array.getElem?_map,QG,Option.map_map]
    cases fs[i]? <;>rfl
   simp only[Instr.build,qM,hzr w,qA,qE e2,hma,hpl,ha];simp
  ·exact h.elim
 ·rename_i z n e hz hkd
  split at h
  ·rename_i cs hcs;refine⟨_,h.2,fun hG=> ?_⟩;obtain⟨hok,hsz⟩:=h.1 hG;obtain⟨hd,hl⟩:=hv hG;obtain⟨zv,hzr,rfl⟩:=zeroOf_run hz;obtain⟨inf,d,e1,e2,e3⟩:=z1k hok;rw[e3] at hkd;have:=kdOf_array hkd;subst this;obtain⟨ei,hei,hei2⟩:=z4c hsz;obtain⟨arr',ha,hda,hla⟩:=fillS_ok (β:=β) (m:=m) _ ps pv _ cs zv.cells he hd hl (z49 β _) (z4u m _) hcs;refine⟨by simpa only[SV.lt] using hla,.agg arr',by simp only[den];exact⟨_,hda,by simp⟩,fun w=> ?_⟩;rw[<-hei2] at ha;simp only[Instr.build,qM,hzr w,qA,qE e2,z23 hei,ha];simp
  ·exact h.elim
 ·exact h.elim
def optK (fr:Fr)(G:Bool)(x:Option Operand)(k:Option SV->Prop):Prop:=
 match x with
 |none=>k none
 |some x=>z5k fr G x fun s=>k (some s)
def optK_ok {X:Cx}{β:Env}{m:Nat}{fr:Fr}{a:Act}(hF:FrOk X β m fr a){G:Bool}{x:Option Operand}{k:Option SV->Prop}(h:optK fr G x k):
  ∃s,k s/\(G=true->denO β s (x.map a.eval)):=by
 cases x with
 |none=>exact⟨none,h,fun _=>trivial⟩
 |some x=>
  obtain⟨s,h1,h2⟩:=z1i hF h;exact⟨some s,h1,fun hG=>(h2 hG).1⟩
def pickB:Bool->SV->SV->Option Bool
 |bc,.bool x,.bool y=>some (cond bc x y)
 |_,_,_=>none
def pickB_bool {b x y:Bool}:pickB b (.bool x) (.bool y)=some (cond b x y):=rfl
def qop (P:Program)(wr dr:Bool)(H:AH)(W:List Nat)(fr:Fr)(G:Bool)(op:Op)(k:SV->Prop):Prop:=
 match op with
 |.move x=>z5k fr G x k
 |.assign x=>z5k fr G x k
 |.pick c a b=>
  z5k fr G c fun sc=>
   match sc with
   |.bool bc=>
    z5k fr (G && bc) a fun sa=>z5k fr (G && !bc) b fun sb=>
     match pickB bc sa sb with
     |some z=>k (.bool z)
     |none=>False
   |_=>False
 |.load t x=>z5k fr G x fun s=>loadK P H W G t s k
 |.nilCheck x=>z5k fr G x fun s=>
  match s with
  |.ptr id kk i j=>k (.ptr id kk i j)
  |.fn f l=>k (.fn f l)
  |_=>False
 |.binOp op t x y _=>z5k fr G x fun sx=>z5k fr G y fun sy=>binK P wr G op t sx sy k
 |.unOp op _ x=>z5k fr G x fun s=>unK wr G op s k
 |.convert src dst x=>z5k fr G x fun s=>convX P H W wr dr G src dst s k
 |.fieldAddr t x f=>z5k fr G x fun s=>faddrK P G t f s k
 |.field t x f=>z5k fr G x fun s=>fieldK P G t f s k
 |.indexAddr t x i=>z5k fr G x fun s=>z5k fr G i fun si=>iaddrK P H G t s si k
 |.index t x i=>z5k fr G x fun s=>z5k fr G i fun si=>indexK P G t s si k
 |.slice t x lo hi mx=>z5k fr G x fun s=>optK fr G lo fun l=>optK fr G hi fun h=>optK fr G mx fun m=>sliceK P H G t s l h m k
 |.extract x i=>z5k fr G x fun s=>
  match s with
  |.tup l=>match l[i]? with|some s=>k s|none=>False
  |_=>False
 |.makeFunc (.func f) first cap=>
  match first with
  |⟨[]⟩=>opdsK fr G cap.toList fun ss=>k (.fn f ss)
  |_=>False
 |.build t ps=>partsK fr G ps.toList fun ss=>buildK P G t ss k
 |.makeInterface t x=>z5k fr G x fun s=>(G=true->(∃e,(z1o P t).kd= .slice e)/\(z1o P t).ok=true)/\k (.ifc t s)
 |.call {callee:= .builtin .len,args:=⟨[x]⟩,argTypes:=⟨[t]⟩}=>z5k fr G x fun s=>lenK P dr H W G t s k
 |.call {callee:= .builtin .max,args,argTypes:=_}=>opdsK fr G args.toList fun ss=>mmK max ss k
 |.call {callee:= .builtin .min,args,argTypes:=_}=>opdsK fr G args.toList fun ss=>mmK min ss k
 |_=>False
def equal_bool {P:Program}{t:TypeId}(h:P.underlying t=some .bool)(p q:Bool)(w:World):(Op.equal t (.bool p) (.bool q)).run P w= .ok (p==q) w:=by
 have:∀d,(Op.equalIn (d+1) t (.bool p) (.bool q)).run P w= .ok (p==q) w:=fun d=>by simp[Op.equalIn,qE h]
 exact this 9999
def equal_nil {P:Program}{t e:TypeId}(h:P.underlying t=some (.slice e))(ad:Option Addr)(n c:Nat)(w:World):(Op.equal t (.slice ad n c) (.slice none 0 0)).run P w= .ok ad.isNone w:=by
 have:∀d,(Op.equalIn (d+1) t (.slice ad n c) (.slice none 0 0)).run P w= .ok ad.isNone w:=fun d=>by cases ad<;>simp[Op.equalIn,qE h]
 exact this 9999
def Good (X:Cx)(β:Env)(H:AH)(C:World->Prop)(o:Oper)(a:Act)(s:SV):Prop:=
 s.lt H.nxt/\∃v,den β s v/\∀w',C w'->(execOp a.eval o).run X.P w'= .ok (.value v) w'
def z3b {X:Cx}{β:Env}{H:AH}{C:World->Prop}{o:Oper}{a:Act}{s:SV}{v:Value}{e:Sem Value}(hl:s.lt H.nxt)(hd:den β s v)(he:execOp a.eval o=(do pure (.value (<-e))))(hy:Yld X.P e v):Good X β H C o a s:=
 ⟨hl,v,hd,fun w' _=>by rw[he];simp[hy w']⟩
def qop_ok {X:Cx}{β:Env}{H:AH}{w:World}(hS:St X β H w){W:List Nat}{C:World->Prop}{fr:Fr}{a:Act}(hF:FrOk X β H.nxt fr a){G:Bool}{o:Oper}{k:SV->Prop}{dr:Bool}(hC:((∃t x,o.op= .load t x)\/dr=false)->∀w',C w'->Kp w (inW β H W) w')(h:qop X.P X.wrap dr H W fr G o.op k):
  ∃s,k s/\(G=true->Good X β H C o a s):=by
 unfold qop at h
 split at h
 ·--move
  rename_i x hop;obtain⟨s,h1,h2⟩:=z1i hF h;refine⟨s,h1,fun hG=>⟨(h2 hG).2,_,(h2 hG).1,fun w' _=>by simp[execOp,hop]⟩⟩
 ·rename_i x hop;obtain⟨s,h1,h2⟩:=z1i hF h;refine⟨s,h1,fun hG=>⟨(h2 hG).2,_,(h2 hG).1,fun w' _=>by simp[execOp,hop]⟩⟩
 ·--pick
  rename_i c x y hop;obtain⟨sc,h,hc⟩:=z1i hF h
  split at h
  ·rename_i bc;obtain⟨sa,h,ha⟩:=z1i hF h;obtain⟨sb,h,hb⟩:=z1i hF h;obtain⟨xb,rfl⟩:∃xb,sa= .bool xb:=by cases sa<;>first|exact⟨_,rfl⟩|exact(show False from h).elim
   obtain⟨yb,rfl⟩:∃yb,sb= .bool yb:=by cases sb<;>first|exact⟨_,rfl⟩|exact(show False from h).elim
   refine⟨_,h,fun hG=>⟨trivial,.bool (cond bc xb yb),rfl,fun w' _=> ?_⟩⟩;have hcv:=(hc hG).1;simp only[den] at hcv
   cases bc with
   |true=>
    have:=(ha (by simp[hG])).1;simp only[den] at this;simp[execOp,hop,hcv,asBool,this]
   |false=>
    have:=(hb (by simp[hG])).1;simp only[den] at this;simp[execOp,hop,hcv,asBool,this]
  ·exact h.elim
 ·--load
  rename_i t x hop;obtain⟨s,h,hx⟩:=z1i hF h;obtain⟨s',hk,hs⟩:=loadK_ok (v:=a.eval x) hS h (fun hG=>(hx hG).1);refine⟨s',hk,fun hG=> ?_⟩;obtain⟨hl,v',hd,hr⟩:=hs hG;exact⟨hl,v',hd,fun w' hw'=>by simp[execOp,hop,hr w' (hC (.inl ⟨_,_,hop⟩) w' hw')]⟩
 ·--nilCheck
  rename_i x hop;obtain⟨s,h,hx⟩:=z1i hF h
  split at h
  ·refine⟨_,h,fun hG=>⟨(hx hG).2,_,(hx hG).1,fun w' _=> ?_⟩⟩;have:=(hx hG).1;simp only[den] at this;obtain⟨L,_,e⟩:=this;simp[execOp,hop,e]
  ·refine⟨_,h,fun hG=>⟨(hx hG).2,_,(hx hG).1,fun w' _=> ?_⟩⟩;have:=(hx hG).1;simp only[den] at this;obtain⟨vs,_,e⟩:=this;simp[execOp,hop,e]
  ·exact h.elim
 ·--binOp
  rename_i op t x y t' hop;obtain⟨sx,h1,hx⟩:=z1i hF h;obtain⟨sy,h2,hy⟩:=z1i hF h1;clear h h1;have h:=h2;clear h2
  have guardOk:∀(v u:Value),(∀w,(eqGuard op t x y v u).run X.P w= .ok () w)->a.eval x=v->a.eval y=u->∀r,Yld X.P (binOp op t v u) r->∀w',(execOp a.eval o).run X.P w'= .ok (.value r) w':=fun v u hg e1 e2 r hr w'=>by
   simp[execOp,hop,e1,e2,hg w',hr w']
  unfold binK at h
  split at h
  ·rename_i kd p kd' q
   have gi:∀w,(eqGuard op t x y (.int kd p) (.int kd' q)).run X.P w= .ok () w:=fun w=>by
    unfold eqGuard;cases op<;>simp
   have sh:∀(op':BinOp),(op'= .shl\/op'= .shr)->op=op'->shiftK G op' kd p q k->∃s,k s/\(G=true->Good X β H C o a s):=fun op' ho he h=>by
    subst he;unfold shiftK at h
    split at h
    ·refine⟨_,h.2,fun hG=>⟨trivial,_,rfl,fun w' _=>guardOk _ _ gi (hx hG).1 (hy hG).1 _ (fun w=> ?_) w'⟩⟩;have:=h.1 hG;simp[binOp,Op.shift,show¬q<0 by omega]
    ·refine⟨_,h.2,fun hG=>⟨trivial,_,rfl,fun w' _=>guardOk _ _ gi (hx hG).1 (hy hG).1 _ (fun w=> ?_) w'⟩⟩;have:=h.1 hG;simp[binOp,Op.shift,show¬q<0 by omega]
    ·exact h.elim
   unfold binII at h
   split at h
   ·exact sh _ (.inl rfl) rfl h
   ·exact sh _ (.inr rfl) rfl h
   ·rename_i n1 n2;obtain⟨s,hk,hs⟩:=intK_ok ⟨n1,n2⟩ h.2;refine⟨s,hk,fun hG=> ?_⟩;obtain⟨hl,v,hd,hyd⟩:=hs hG;have hkk:=h.1 hG;subst hkk;refine⟨hl _,v,hd β,fun w' _=>guardOk _ _ gi (hx hG).1 (hy hG).1 v (fun w=> ?_) w'⟩;have h0:=hyd X.P w;have ht:binOp op t (.int kd' p) (.int kd' q)=binOp op 0 (.int kd' p) (.int kd' q):=by cases op<;>rfl
    rw[ht];exact h0
  ·rename_i xs ys
   have gi:∀w,(eqGuard op t x y (.string xs) (.string ys)).run X.P w= .ok () w:=fun w=>by
    unfold eqGuard;cases op<;>simp
   have go:∀r s,k s->(∀β,den β s r)->(∀m,s.lt m)->(G=true->∀w,(Op.stringOp op xs ys).run X.P w= .ok r w)->∃s,k s/\(G=true->Good X β H C o a s):=fun r s hk hd hl hr=>
    ⟨s,hk,fun hG=>⟨hl _,r,hd β,fun w' _=>guardOk _ _ gi (hx hG).1 (hy hG).1 r (fun w=>by
     have h0:=hr hG w;have:binOp op t (.string xs) (.string ys)=Op.stringOp op xs ys:=by cases op<;>rfl
     rw[this];exact h0) w'⟩⟩
   unfold strK at h
   split at h
   ·refine go _ _ h.2 (fun _=>rfl) (fun _=>trivial) (fun hG w=> ?_);have h2:((xs.size+ys.size:Nat):Int)<=9223372036854775807:=(h.1 hG).2
    have h3:¬(((xs.size+ys.size:Nat):Int)>IntKind.i64.max):=by
     have:IntKind.i64.max=9223372036854775807:=by decide
     rw[this];omega
    simp only[Op.stringOp,qc h3]
    rfl
   ·exact go _ _ h (fun _=>rfl) (fun _=>trivial) (fun _ w=>by simp[Op.stringOp,sEq])
   ·exact go _ _ h (fun _=>rfl) (fun _=>trivial) (fun _ w=>by simp[Op.stringOp,sEq])
   ·exact go _ _ h (fun _=>rfl) (fun _=>trivial) (fun _ w=>by simp[Op.stringOp,sLt])
   ·exact go _ _ h (fun _=>rfl) (fun _=>trivial) (fun _ w=>by simp[Op.stringOp,sLt,sEq])
   ·exact go _ _ h (fun _=>rfl) (fun _=>trivial) (fun _ w=>by simp[Op.stringOp,sLt,sEq])
   ·exact go _ _ h (fun _=>rfl) (fun _=>trivial) (fun _ w=>by simp[Op.stringOp,sLt])
   ·exact h.elim
  ·rename_i p q
   have bl:(z1o X.P t).kd= .bool->∀w,(Op.equal t (.bool p) (.bool q)).run X.P w= .ok (p==q) w:=fun hkd w=>by
    have hok:(z1o X.P t).ok=true:=by
     unfold z1o at hkd ⊢
     split
     ·rfl
     ·rename_i hn;split at hkd
      ·rename_i h1 h2;exact(hn _ _ h1 h2).elim
      ·cases hkd
    obtain⟨_,d,_,e2,e3⟩:=z1k hok;rw[e3] at hkd;have:=kdOf_bool hkd;subst this;exact equal_bool e2 p q w
   unfold binBB at h
   split at h
   ·refine⟨_,h.2,fun hG=>⟨trivial,_,rfl,fun w' _=>guardOk _ _ (fun w=>by simp[eqGuard]) (hx hG).1 (hy hG).1 _ (fun w=> ?_) w'⟩⟩;simp[binOp,bl (h.1 hG) w]
   ·refine⟨_,h.2,fun hG=>⟨trivial,_,rfl,fun w' _=>guardOk _ _ (fun w=>by simp[eqGuard]) (hx hG).1 (hy hG).1 _ (fun w=> ?_) w'⟩⟩;simp[binOp,bl (h.1 hG) w,bne]
   ·exact h.elim
  ·rename_i la lb
   have ag:EqT X.P t la lb->(op= .eql\/op= .neq)->G=true->∀w',∃xs ys,a.eval x= .agg xs/\a.eval y= .agg ys/\(do eqGuard op t x y (.agg xs) (.agg ys);Op.equal t (.agg xs) (.agg ys):Sem Bool).run X.P w'= .ok (eqL la lb) w':=fun he ho hG w'=>by
    have h1:=(hx hG).1;have h2:=(hy hG).1;simp only[den] at h1 h2;obtain⟨xs,d1,e1⟩:=h1;obtain⟨ys,d2,e2⟩:=h2;exact⟨_,_,e1,e2,he β xs ys d1 d2 x y op w' ho⟩
   unfold binAA at h
   split at h
   ·refine⟨_,h.2,fun hG=>⟨trivial,.bool (eqL la lb),rfl,fun w' _=> ?_⟩⟩;obtain⟨xs,ys,e1,e2,hr⟩:=ag (h.1 hG) (.inl rfl) hG w';simp only[execOp,hop,e1,e2,binOp];simp only[qM] at hr ⊢
    cases hg:(eqGuard .eql t x y (.agg xs) (.agg ys)).run X.P w' with
    |halt q w2=>rw[hg] at hr;simp at hr
    |ok u w2=>
     rw[hg] at hr;simp only[qA] at hr ⊢;rw[hr];rfl
   ·refine⟨_,h.2,fun hG=>⟨trivial,.bool (!eqL la lb),rfl,fun w' _=> ?_⟩⟩;obtain⟨xs,ys,e1,e2,hr⟩:=ag (h.1 hG) (.inr rfl) hG w';simp only[execOp,hop,e1,e2,binOp];simp only[qM] at hr ⊢
    cases hg:(eqGuard .neq t x y (.agg xs) (.agg ys)).run X.P w' with
    |halt q w2=>rw[hg] at hr;simp at hr
    |ok u w2=>
     rw[hg] at hr;simp only[qA] at hr ⊢;rw[hr];rfl
   ·exact h.elim
  ·--a slice and nil
   rename_i gg ii kk oo n
   have nl:∀(b:Bool),((∃e,(z1o X.P t).kd= .slice e)/\(z1o X.P t).ok=true)->G=true->∃(b:Bool),(0<n->b=false)/\∃v,a.eval x=v/\a.eval y= .slice none 0 0/\(∀w,(eqGuard op t x y v (.slice none 0 0)).run X.P w= .ok () w)/\∀w,(Op.equal t v (.slice none 0 0)).run X.P w= .ok b w:=fun _ hc hG=>by
    obtain⟨⟨e,hkd⟩,hok⟩:=hc;obtain⟨_,d,_,e2,e3⟩:=z1k hok;rw[e3] at hkd;have:=z2z hkd;subst this;have h1:=(hx hG).1;have h2:=(hy hG).1;simp only[den] at h1 h2;obtain⟨ad,c,hv,hc⟩:=z3z h1;refine⟨ad.isNone,fun hn=> ?_,_,hv,h2,fun w=>by unfold eqGuard;cases op<;>simp,fun w=> ?_⟩
    ·obtain⟨L,c',_,he⟩:=z4v h1 hn;rw[hv] at he;simp only[j4] at he;rw[he.1];rfl
    ·cases ad with
     |none=>exact equal_nil e2 none n c w
     |some ad=>exact equal_nil e2 (some ad) n c w
   unfold binNil at h
   cases G with
   |false=>
    split at h
    ·exact⟨_,h.2 false (fun _=>rfl),fun hG=>by cases hG⟩
    ·exact⟨_,h.2 false (fun _=>rfl),fun hG=>by cases hG⟩
    ·exact h.elim
   |true=>
    split at h
    ·obtain⟨b,hb,v,e1,e2,hg,he⟩:=nl true (h.1 rfl) rfl;refine⟨_,h.2 b hb,fun hG=>⟨trivial,_,rfl,fun w' _=>guardOk _ _ hg e1 e2 _ (fun w=> ?_) w'⟩⟩
     cases v<;>simp[binOp,he w]
    ·obtain⟨b,hb,v,e1,e2,hg,he⟩:=nl true (h.1 rfl) rfl;refine⟨_,h.2 b hb,fun hG=>⟨trivial,_,rfl,fun w' _=>guardOk _ _ hg e1 e2 _ (fun w=> ?_) w'⟩⟩
     cases v<;>simp[binOp,he w]
    ·exact h.elim
  ·exact h.elim
 ·--unOp
  rename_i op t x hop;obtain⟨s,h,hx⟩:=z1i hF h;obtain⟨s',hk,hs⟩:=unK_ok (P:=X.P) (m:=H.nxt) (v:=a.eval x) h (fun hG=>(hx hG).1);refine⟨s',hk,fun hG=> ?_⟩;obtain⟨hl,v',hd,hr⟩:=hs hG;exact z3b hl hd (by simp only[execOp,hop]) hr
 ·rename_i src dst x hop;obtain⟨s,h,hx⟩:=z1i hF h;unfold convX at h
  split at h
  ·obtain⟨s',hk,hs⟩:=bstrK_ok (v:=a.eval x) hS h (fun hG=>(hx hG).1);refine⟨s',hk,fun hG=> ?_⟩;obtain⟨hdr,hl,v',hd,hr⟩:=hs hG;exact⟨hl,v',hd,fun w' hw'=>by simp[execOp,hop,hr w' (hC (.inr hdr) w' hw')]⟩
  ·obtain⟨s',hk,hs⟩:=convK_ok (m:=H.nxt) (v:=a.eval x) h (fun hG=>(hx hG).1);refine⟨s',hk,fun hG=> ?_⟩;obtain⟨hl,v',hd,hr⟩:=hs hG;exact z3b hl hd (by simp only[execOp,hop]) hr
 ·rename_i t x f hop;obtain⟨s,h,hx⟩:=z1i hF h;obtain⟨s',hk,hs⟩:=faddrK_ok (β:=β) (m:=H.nxt) (v:=a.eval x) h hx;refine⟨s',hk,fun hG=> ?_⟩;obtain⟨hl,v',hd,hr⟩:=hs hG;exact z3b hl hd (by simp only[execOp,hop]) hr
 ·rename_i t x f hop;obtain⟨s,h,hx⟩:=z1i hF h;obtain⟨s',hk,hs⟩:=fieldK_ok (β:=β) (m:=H.nxt) (v:=a.eval x) h hx;refine⟨s',hk,fun hG=> ?_⟩;obtain⟨hl,v',hd,hr⟩:=hs hG;exact z3b hl hd (by simp only[execOp,hop]) hr
 ·rename_i t x i hop;obtain⟨s,h,hx⟩:=z1i hF h;obtain⟨si,h,hi⟩:=z1i hF h;obtain⟨s',hk,hs⟩:=iaddrK_ok (v:=a.eval x) (vi:=a.eval i) hS h hx (fun hG=>(hi hG).1);refine⟨s',hk,fun hG=> ?_⟩;obtain⟨hl,v',hd,hr⟩:=hs hG;exact z3b hl hd (by simp only[execOp,hop]) hr
 ·rename_i t x i hop;obtain⟨s,h,hx⟩:=z1i hF h;obtain⟨si,h,hi⟩:=z1i hF h;obtain⟨s',hk,hs⟩:=indexK_ok (β:=β) (m:=H.nxt) (v:=a.eval x) (vi:=a.eval i) h (fun hG=>(hx hG).1) (fun hG=>(hi hG).1);refine⟨s',hk,fun hG=> ?_⟩;obtain⟨hl,v',hd,hr⟩:=hs hG;exact z3b hl hd (by simp only[execOp,hop]) hr
 ·rename_i t x lo hi mx hop;obtain⟨s,h,hx⟩:=z1i hF h;obtain⟨sl,h,hl⟩:=optK_ok hF h;obtain⟨sh,h,hh⟩:=optK_ok hF h;obtain⟨sm,h,hm⟩:=optK_ok hF h;obtain⟨s',hk,hs⟩:=sliceK_ok (v:=a.eval x) hS h hx hl hh hm;refine⟨s',hk,fun hG=> ?_⟩;obtain⟨hl,v',hd,hr⟩:=hs hG;exact z3b hl hd (by simp only[execOp,hop]) hr
 ·--extract
  rename_i x i hop;obtain⟨s,h,hx⟩:=z1i hF h
  split at h
  ·rename_i l
   split at h
   ·rename_i s' hs';refine⟨s',h,fun hG=> ?_⟩;obtain⟨hd,hl⟩:=hx hG;simp only[den,SV.lt] at hd hl;obtain⟨vs,hvs,e⟩:=hd;obtain⟨u,hu1,hu2⟩:=z4k hvs _ _ hs';refine z3b (e:=Instr.extract (a.eval x) i) (SV.ltL_get hl _ _ hs') hu2 (by simp only[execOp,hop]) (fun w=> ?_);simp[Instr.extract,e,hu1]
   ·exact h.elim
  ·exact h.elim
 ·--makeFunc
  rename_i f first cap hop
  split at h
  ·rename_i first' hfi;obtain⟨ss,hk,hs⟩:=opdsK_ok hF h;refine⟨_,hk,fun hG=> ?_⟩;refine z3b (e:=Instr.makeFunc (.func f) (Array.map a.eval ⟨[]⟩) (cap.map a.eval)) (by simp only[SV.lt];exact(hs hG).2) (v:= .func (.func f) #[] (cap.toList.map a.eval).toArray) (by simp only[den];exact⟨_,(hs hG).1,rfl⟩) (by simp only[execOp,hop]) (fun w=> ?_);simp[Instr.makeFunc];rw[<-Array.toList_map,JD]
  ·exact h.elim
 ·--build
  rename_i t ps hop;obtain⟨ss,h,he,hs⟩:=partsK_ok hF h;obtain⟨s',hk,hs'⟩:=buildK_ok (β:=β) (m:=H.nxt) (pv:=(ps.toList.map fun p=>(p.1,a.eval p.2))) h (by rw[he,j8];rfl) (fun hG=>by rw[j8];exact hs hG);refine⟨s',hk,fun hG=> ?_⟩;obtain⟨hl,v',hd,hr⟩:=hs' hG;refine z3b hl hd ?_ hr;simp only[execOp,hop]
  have:(ps.map fun x=>(x.1,a.eval x.2))=(ps.toList.map fun p=>(p.1,a.eval p.2)).toArray:=by
   rw[<-jo]
  rw[<-this]
 ·--makeInterface
  rename_i t x hop;obtain⟨s,h1,hx⟩:=z1i hF h;refine⟨_,h1.2,fun hG=> ?_⟩;obtain⟨⟨e,hkd⟩,hok⟩:=h1.1 hG;obtain⟨_,d,_,e2,e3⟩:=z1k hok;rw[e3] at hkd;have hd:=z2z hkd;subst hd;refine z3b (e:=Instr.makeInterface t (a.eval x)) (v:= .iface t (a.eval x)) (hx hG).2 (by simp only[den];exact⟨_,(hx hG).1,rfl⟩) (by simp only[execOp,hop]) (fun w1=> ?_);simp[Instr.makeInterface,qE e2]
 ·--len
  rename_i x t hop;obtain⟨s,h,hx⟩:=z1i hF h;obtain⟨s',hk,hs⟩:=lenK_ok (ty:=o.type) (v:=a.eval x) (C:=C) hS (fun hdr=>hC (.inr hdr)) h (fun hG=>(hx hG).1);refine⟨s',hk,fun hG=> ?_⟩;obtain⟨hl,v',hd,hr⟩:=hs hG;exact⟨hl,v',hd,fun w' hw'=>by simp[execOp,hop,resolve,invoke,builtin,hr w' hw']⟩
 ·rename_i args ats hop;obtain⟨ss,h,hx⟩:=opdsK_ok hF h;obtain⟨s',hk,hs⟩:=mmK_max (P:=X.P) (m:=H.nxt) (ats:=ats) (ty:=o.type) h (fun hG=>(hx hG).1);refine⟨s',hk,fun hG=> ?_⟩;obtain⟨hl,v',hd,hr⟩:=hs hG;refine⟨hl,v',hd,fun w' _=> ?_⟩;have he:args.map a.eval=(args.toList.map a.eval).toArray:=by rw[<-jo]
  simp only[execOp,hop,resolve,he,invoke,builtin,qM,Qh,qA,hr w']
 ·rename_i args ats hop;obtain⟨ss,h,hx⟩:=opdsK_ok hF h;obtain⟨s',hk,hs⟩:=mmK_min (P:=X.P) (m:=H.nxt) (ats:=ats) (ty:=o.type) h (fun hG=>(hx hG).1);refine⟨s',hk,fun hG=> ?_⟩;obtain⟨hl,v',hd,hr⟩:=hs hG;refine⟨hl,v',hd,fun w' _=> ?_⟩;have he:args.map a.eval=(args.toList.map a.eval).toArray:=by rw[<-jo]
  simp only[execOp,hop,resolve,he,invoke,builtin,qM,Qh,qA,hr w']
 ·exact h.elim
def Env.set (β:Env)(id:Nat)(q:Nat->Option Loc):Env:=fun i k=>if i=id then q k else β i k
def Env.agree_set (β:Env)(m:Nat)(q:Nat->Option Loc):Env.agree m β (β.set m q):=fun id k h=>by
 unfold Env.set;rw[qc (by omega)]
def Env.agree.trans {m m':Nat}{a b c:Env}(h:Env.agree m a b)(h':Env.agree m' b c)(hm:m<=m'):Env.agree m a c:=
 fun id k hl=>(h' id k (Qc hl hm)).trans (h id k hl)
def Env.agree.refl (m:Nat)(β:Env):Env.agree m β β:=fun _ _ _=>rfl
def z19 (i c:Nat)(F:Nat->Obj)(os:List (Nat×Nat×(Nat->Obj)))(id k:Nat):
  look ((i,c,F)::os) id k=if i=id then(if k<c then(F k).opt else none) else look os id k:=by
 by_cases h:i=id<;>simp[look,find,h]
def St.new' {X:Cx}{β:Env}{H:AH}{w:World}(hS:St X β H w){c:Nat}{F:Nat->Obj}{q:Nat->Option Loc}
  (hq:∀k L,k<c->q k=some L->X.w0.heap.size<=L.blk/\∀id k' o L',look H.os id k'=some o->β id k'=some L'->L'.blk≠L.blk)
  (hsep:∀k k' L L',k<c->k'<c->q k=some L->q k'=some L'->L.blk=L'.blk->k=k')
  (ho:∀k,k<c->(F k).holds (β.set H.nxt q) w (q k)) (hl:∀k,k<c->(F k).lt (H.nxt+1)):
  St X (β.set H.nxt q) ⟨H.nxt+1,(H.nxt,c,F)::H.os⟩ w:=by
 have hag:=Env.agree_set β H.nxt q
 have hlk:∀id k o,look ((H.nxt,c,F)::H.os) id k=some o->(id=H.nxt/\k<c/\o=F k)\/(id<H.nxt/\look H.os id k=some o):=fun id k o h=>by
  rw[z19] at h
  split at h
  ·rename_i he
   split at h
   ·exact .inl ⟨he.symm,by assumption,(Obj.opt_some h).1⟩
   ·cases h
  ·exact .inr ⟨(hS.lt _ _ _ h).1,h⟩
 have hold:∀id k,id<H.nxt->(β.set H.nxt q) id k=β id k:=fun id k h=>hag id k h;have hnew:∀k,(β.set H.nxt q) H.nxt k=q k:=fun k=>by unfold Env.set;rw[qe rfl]
 refine⟨hS.os,hS.tape,hS.output,hS.size,fun id k h=> ?_,fun id k o h=> ?_,fun id k id' k' o o' L L' h h' how hb hb' he=> ?_,fun b hb hn=> ?_,fun id k o L h how hb=> ?_,fun id k hb=> ?_,?_,fun id k o h=> ?_,hS.tabs,hS.drawn⟩
 ·rw[hold id k (Qc h hS.m0)];exact hS.fix id k h
 ·rcases hlk _ _ _ h with⟨rfl,hk,rfl⟩|⟨hlt,h0⟩
  ·rw[hnew];exact ho k hk
  ·rw[hold id k hlt];exact(hS.holds _ _ _ h0).agree hag (hS.lt _ _ _ h0).2
 ·rcases hlk _ _ _ h with⟨rfl,hk,rfl⟩|⟨hlt,h0⟩
  ·rw[hnew] at hb;rcases hlk _ _ _ h' with⟨rfl,hk',rfl⟩|⟨hlt',h0'⟩
   ·rw[hnew] at hb';exact⟨rfl,hsep _ _ _ _ hk hk' hb hb' he⟩
   ·rw[hold _ _ hlt'] at hb';exact absurd he.symm ((hq k L hk hb).2 _ _ _ _ h0' hb')
  ·rw[hold _ _ hlt] at hb;rcases hlk _ _ _ h' with⟨rfl,hk',rfl⟩|⟨hlt',h0'⟩
   ·rw[hnew] at hb';exact absurd he ((hq k' L' hk' hb').2 _ _ _ _ h0 hb)
   ·rw[hold _ _ hlt'] at hb';exact hS.sep _ _ _ _ _ _ _ _ h0 h0' how hb hb' he
 ·refine hS.old b hb fun id k o L h how hbb=> ?_;have hlt:=(hS.lt _ _ _ h).1;exact hn id k o L (by rw[z19,qc (by omega)];exact h) how (by rw[hold _ _ hlt];exact hbb)
 ·rcases hlk _ _ _ h with⟨rfl,hk,rfl⟩|⟨hlt,h0⟩
  ·rw[hnew] at hb;exact .inr ⟨hS.m0,(hq k L hk hb).1⟩
  ·rw[hold _ _ hlt] at hb;exact hS.mine _ _ _ _ h0 how hb
 ·obtain⟨hlt,o,h,how⟩:=hS.keep id k hb;have hlt':=Qc hlt hS.m0;exact⟨hlt,o,by rw[z19,qc (by omega)];exact h,how⟩
 ·exact Nat.le_succ_of_le hS.m0
 ·rcases hlk _ _ _ h with⟨rfl,hk,rfl⟩|⟨hlt,h0⟩
  ·exact⟨Qp _,hl k hk⟩
  ·refine⟨Jx hlt,?_⟩;have:=(hS.lt _ _ _ h0).2
   cases o with
   |row r=>exact fun i j s hi hs=>SV.lt_mono (QH _) s (this i j s hi hs)
   |blk _ _=>trivial
   |mapo _ M=>exact⟨SV.lt_mono (QH _) _ this.1,fun v=>SV.lt_mono (QH _) _ (this.2 v)⟩
   |gone=>trivial
def St.blk_lt {X:Cx}{β:Env}{H:AH}{w:World}(hS:St X β H w){id k:Nat}{o:Obj}{L:Loc}(h:look H.os id k=some o)(hb:β id k=some L):L.blk<w.heap.size:=by
 have:=hS.holds _ _ _ h;rw[hb] at this;exact this.blk_lt (z3o h)
def St.new {X:Cx}{β:Env}{H:AH}{w w':World}(hS:St X β H w)(hw:Blw w.heap.size w w'){c:Nat}{F:Nat->Obj}{q:Nat->Option Loc}
  (hq:∀k L,k<c->q k=some L->w.heap.size<=L.blk) (hsep:∀k k' L L',k<c->k'<c->q k=some L->q k'=some L'->L.blk=L'.blk->k=k')
  (ho:∀k,k<c->(F k).holds (β.set H.nxt q) w' (q k)) (hl:∀k,k<c->(F k).lt (H.nxt+1)):
  St X (β.set H.nxt q) ⟨H.nxt+1,(H.nxt,c,F)::H.os⟩ w':=
 St.new' (hS.ext hw) (fun k L hk hL=>⟨qR hS.size (hq k L hk hL),fun id k' o L' h hb=>by have:=hS.blk_lt h hb;have:=hq k L hk hL;omega⟩) hsep ho hl
def St.less {X:Cx}{β:Env}{H H':AH}{w:World}(hS:St X β H w)(hn:H'.nxt=H.nxt)(hl:∀id k o,look H'.os id k=some o->look H.os id k=some o)
  (hm:∀id k o,id<X.m0->look H.os id k=some o->o.own=true->look H'.os id k=some o):St X β H' w where
 os:=hS.os
 tape:=hS.tape
 output:=hS.output
 size:=hS.size
 fix:=hS.fix
 holds id k o h:=hS.holds _ _ _ (hl _ _ _ h)
 sep id k id' k' o o' L L' h h':=hS.sep _ _ _ _ _ _ _ _ (hl _ _ _ h) (hl _ _ _ h')
 old b hb hnn:=hS.old b hb fun id k o L h how hbb=>by
  rcases hS.mine _ _ _ _ h how hbb with⟨h1,_⟩|⟨_,h2⟩
  ·exact hnn id k o L (hm _ _ _ h1 h how) how hbb
  ·omega
 mine id k o L h:=hS.mine _ _ _ _ (hl _ _ _ h)
 keep id k hb:=by
  obtain⟨hlt,o,h,how⟩:=hS.keep id k hb;exact⟨hlt,o,hm _ _ _ hlt h how,how⟩
 m0:=by rw[hn];exact hS.m0
 lt id k o h:=by rw[hn];exact hS.lt _ _ _ (hl _ _ _ h)
 tabs:=hS.tabs
 drawn:=hS.drawn
def St.upd {X:Cx}{β:Env}{H:AH}{os':List (Nat×Nat×(Nat->Obj))}{w w':World}(hS:St X β H w){id kk:Nat}{o o':Obj}{L:Loc}(hl:look H.os id kk=some o)(how:o.own=true)(hb:β id kk=some L)(how':o'.own=true)
  (hos:∀id' k',look os' id' k'=if id'=id/\k'=kk then some o' else look H.os id' k')
  (hw:w'.os=w.os/\w'.tape=w.tape/\w'.output=w.output/\w'.drawn=w.drawn/\w'.heap.size=w.heap.size/\∀b,b≠L.blk->w'.heap[b]? =w.heap[b]?)
  (ho:o'.holds β w' (some L)) (hlt:o'.lt H.nxt):St X β ⟨H.nxt,os'⟩ w':=by
 obtain⟨w1,w2,w3,wd,w4,w5⟩:=hw
 have hlk:∀id' k' u,look os' id' k'=some u->(id'=id/\k'=kk/\u=o')\/(¬(id'=id/\k'=kk)/\look H.os id' k'=some u):=fun id' k' u h=>by
  rw[hos] at h
  split at h
  ·rename_i he
   cases h
   exact .inl ⟨he.1,he.2,rfl⟩
  ·exact .inr ⟨by assumption,h⟩
 --every object of the new knowledge has a counterpart of the same ownership
 have hcp:∀id' k' u,look os' id' k'=some u->∃u0,look H.os id' k'=some u0/\u0.own=u.own:=fun id' k' u h=>by
  rcases hlk _ _ _ h with⟨rfl,rfl,rfl⟩|⟨_,h⟩
  ·exact⟨o,hl,how.trans how'.symm⟩
  ·exact⟨u,h,rfl⟩
 have hpc:∀id' k' u,look H.os id' k'=some u->∃u0,look os' id' k'=some u0/\u0.own=u.own:=fun id' k' u h=>by
  by_cases he:id'=id/\k'=kk
  ·obtain⟨rfl,rfl⟩:=he;rw[hl] at h;cases h
   exact⟨o',by rw[hos];simp,how'.trans how.symm⟩
  ·exact⟨u,by rw[hos,qc he];exact h,rfl⟩
 refine⟨w1.trans hS.os,w2.trans hS.tape,w3.trans hS.output,by rw[w4];exact hS.size,hS.fix,fun id' k' u h=> ?_,fun id1 k1 id2 k2 u1 u2 L1 L2 h1 h2 h3 h4 h5 h6=> ?_,fun b hbl hn=> ?_,fun id' k' u L' h h1 h2=> ?_,fun id' k' hbs=> ?_,hS.m0,fun id' k' u h=> ?_,hS.tabs,by rw[wd];exact hS.drawn⟩
 ·rcases hlk _ _ _ h with⟨rfl,rfl,rfl⟩|⟨hne,h⟩
  ·rw[hb];exact ho
  ·refine(hS.holds _ _ _ h).mono (by omega) fun L' hL' _=>w5 _ fun he=> ?_;have:=hS.sep _ _ _ _ _ _ _ _ hl h how hb hL' he.symm;exact hne ⟨this.1.symm,this.2.symm⟩
 ·obtain⟨v1,g1,e1⟩:=hcp _ _ _ h1;obtain⟨v2,g2,_⟩:=hcp _ _ _ h2;exact hS.sep _ _ _ _ _ _ _ _ g1 g2 (e1.trans h3) h4 h5 h6
 ·have hbL:b≠L.blk:=fun he=>by
   obtain⟨u0,g,e⟩:=hpc _ _ _ hl;exact hn _ _ _ _ g (e.trans how) hb he.symm
  rw[w5 b hbL];refine hS.old b hbl fun id' k' u L' h h1 h2=> ?_;obtain⟨u0,g,e⟩:=hpc _ _ _ h;exact hn _ _ _ _ g (e.trans h1) h2
 ·obtain⟨v1,g1,e1⟩:=hcp _ _ _ h;exact hS.mine _ _ _ _ g1 (e1.trans h1) h2
 ·obtain⟨h0,u,h,h1⟩:=hS.keep id' k' hbs;obtain⟨u0,g,e⟩:=hpc _ _ _ h;exact⟨h0,u0,g,e.trans h1⟩
 ·rcases hlk _ _ _ h with⟨rfl,rfl,rfl⟩|⟨_,h⟩
  ·exact⟨(hS.lt _ _ _ hl).1,hlt⟩
  ·exact hS.lt _ _ _ h
def setO:List (Nat×Nat×(Nat->Obj))->Nat->Nat->Obj->List (Nat×Nat×(Nat->Obj))
 |[],_,_,_=>[]
 |(i,c,F)::l,id,kk,o=>if i=id then(i,match kk with
  |0=>if c=1 then(1,fun _=>o) else(c,fun k=>if k=0 then o else F k)
  |j+1=>(c,fun k=>if k=j+1 then o else F k))::l else(i,c,F)::setO l id kk o
def z3c:∀(os:List (Nat×Nat×(Nat->Obj))) (id kk:Nat) (o o0:Obj),look os id kk=some o0->∀id' k',look (setO os id kk o) id' k'=if id'=id/\k'=kk then o.opt else look os id' k'
 |[],id,kk,o,o0,h,_,_=>by simp[look,find] at h
 |(i,c,F)::l,id,kk,o,o0,h,id',k'=>by
  rw[z19] at h;simp only[setO]
  by_cases hi:i=id
  ·subst hi;rw[qe rfl] at h
   have hk:kk<c:=by
    rcases Qo kk c with h1|h1
    ·exact h1
    ·rw[qc (by omega)] at h;cases h
   rw[qe rfl]
   cases kk with
   |succ j=>
    simp only;rw[z19,z19]
    by_cases hid:i=id'
    ·subst hid;simp only[q9,QQ]
     by_cases hk':k'=j+1
     ·subst hk';simp[hk]
     ·simp[hk']
    ·have:¬id'=i:=fun h=>hid h.symm;simp[hid,this]
   |zero=>
   by_cases hc:c=1
   ·subst hc;simp only[q9];rw[z19,z19]
    by_cases hid:i=id'
    ·subst hid;simp only[q9]
     by_cases hk':k'=0
     ·subst hk';simp
     ·simp[hk']
    ·have:¬id'=i:=fun h=>hid h.symm;simp[hid,this]
   ·simp only;rw[qc hc,z19,z19]
    by_cases hid:i=id'
    ·subst hid;simp only[q9,QQ]
     by_cases hk':k'=0
     ·subst hk';simp[hk]
     ·simp[hk']
    ·have:¬id'=i:=fun h=>hid h.symm;simp[hid,this]
  ·rw[qc hi] at h;rw[qc hi,z19,z19]
   by_cases hid:i=id'
   ·subst hid;simp[hi]
   ·simp only[hid,Ql];exact z3c l id kk o o0 h id' k'
def fam (own:Bool)(e:TypeId)(sz:Nat)(G:Nat->Obj):Nat->Obj
 |0=> .row ⟨own,false,e,sz,0,fun _=>[]⟩
 |i+1=>G i
def z2v (own:Bool)(e:TypeId)(sz:Nat)(G:Nat->Obj)(i:Nat):fam own e sz G (i+1)=G i:=rfl
def fam_zero (own:Bool)(e:TypeId)(sz:Nat)(G:Nat->Obj):fam own e sz G 0= .row ⟨own,false,e,sz,0,fun _=>[]⟩:=rfl
def setF_fam (own:Bool)(e:TypeId)(sz:Nat)(G:Nat->Obj)(j:Nat)(o:Obj):(fun k=>if k=j+1 then o else fam own e sz G k)=fam own e sz (fun i=>if i=j then o else G i):=by
 funext k
 cases k with
 |zero=>rfl
 |succ i=>simp only[fam,jT]
def dropO:List (Nat×Nat×(Nat->Obj))->Nat->List (Nat×Nat×(Nat->Obj))
 |[],_=>[]
 |x::l,id=>if x.1=id then dropO l id else x::dropO l id
def look_dropO:∀(os:List (Nat×Nat×(Nat->Obj))) (id id' k:Nat),look (dropO os id) id' k=if id'=id then none else look os id' k
 |[],id,id',k=>by simp[dropO,look,find]
 |(i,c,F)::l,id,id',k=>by
  simp only[dropO];have ih:=look_dropO l id id' k
  by_cases h:i=id
  ·subst h;rw[qe rfl,ih,z19]
   by_cases h2:id'=i
   ·simp[h2]
   ·simp[h2,show¬i=id' from fun e=>h2 e.symm]
  ·rw[qc h,z19,z19,ih]
   by_cases h2:i=id'
   ·subst h2;simp[h]
   ·simp[h2]
def St.drop {X:Cx}{β:Env}{H:AH}{w:World}(hS:St X β H w)(id:Nat)(hid:X.m0<=id):St X β ⟨H.nxt,dropO H.os id⟩ w:=
 hS.less rfl (fun id' k o h=>by
  rw[look_dropO] at h
  split at h
  ·cases h
  ·exact h) (fun id' k o hlt h _=>by rw[look_dropO,qc (by omega)];exact h)
def St.lose {X:Cx}{β:Env}{H:AH}{w:World}(hS:St X β H w)(id kk:Nat)(hid:X.m0<=id){o0:Obj}(hl:look H.os id kk=some o0):St X β ⟨H.nxt,setO H.os id kk .gone⟩ w:=
 hS.less rfl (fun id' k o h=>by
  rw[z3c _ _ _ _ _ hl] at h
  split at h
  ·cases h
  ·exact h) (fun id' k o hlt h _=>by rw[z3c _ _ _ _ _ hl,qc (by omega)];exact h)
def row_holds {β:Env}{w:World}{b cap:Nat}{cur:Array Value}{e:TypeId}{var:Bool}{sz n:Nat}{f:Nat->List SV}{cs:List SV}{vs:List Value}
  (hb:w.heap[b]? =some (.cells cur e (0,0))) (hc:cur.size=cap*sz) (hn:n<=cap) (hm:cap<=maxLen) (hp:∀j,j<n*sz->cur[j]? =vs[j]?)
  (hd:z2u β cs vs) (hsc:∀s∈cs,s.scalar=true)
  (hf:∀i,i<n->(f i).length=sz/\∀j,j<sz->(f i)[j]? =cs[i*sz+j]?):
  (Obj.row ⟨true,var,e,sz,n,f⟩).holds β w (some ⟨b,0,sz,cap⟩):=by
 refine .inr ⟨_,rfl,rfl,(q7.1 hb).1,fun i hi=>⟨(hf i hi).1,fun j s hs=> ?_⟩,fun _=>⟨rfl,hn,hm,cur,hb,hc⟩⟩
 have hj:j<sz:=by
  have:=(qZ.1 hs).1;rw[(hf i hi).1] at this;exact this
 rw[(hf i hi).2 j hj] at hs;obtain⟨v,hv,hdv⟩:=z4k hd _ _ hs;refine⟨hsc _ (qW hs),v,?_,hdv⟩
 have hlt:i*sz+j<n*sz:=by
  have:(i+1)*sz<=n*sz:=qT _ hi;rw[qV] at this;omega
 simp only[World.cell?,hb,QE];simp[hp _ hlt,hv]
def row_holds_new {β:Env}{w:World}{e:TypeId}{var:Bool}{sz n:Nat}{f:Nat->List SV}{cs:List SV}{vs:List Value}
  (hl:cs.length=n*sz) (hm:n<=maxLen) (hd:z2u β cs vs) (hsc:∀s∈cs,s.scalar=true)
  (hf:∀i,i<n->(f i).length=sz/\∀j,j<sz->(f i)[j]? =cs[i*sz+j]?):
  (Obj.row ⟨true,var,e,sz,n,f⟩).holds β (w.alloc (.cells vs.toArray e)) (some ⟨w.heap.size,0,sz,n⟩):=
 row_holds (jS w _) (by have:=z2k hd;simp;omega) (qd _) hm (fun j _=>by simp) hd hsc hf
def row_lt {m:Nat}{var own:Bool}{e:TypeId}{sz n:Nat}{f:Nat->List SV}{cs:List SV}(hl:SV.ltL m cs)
  (hf:∀i,i<n->(f i).length=sz/\∀j,j<sz->(f i)[j]? =cs[i*sz+j]?):(Obj.row ⟨own,var,e,sz,n,f⟩).lt m:=fun i j s hi hs=>by
 have hi':i<n:=hi
 have hj:j<sz:=by
  have:=(qZ.1 hs).1;rw[(hf i hi').1] at this;exact this
 have hs':(f i)[j]? =some s:=hs;rw[(hf i hi').2 j hj] at hs';exact SV.ltL_get hl _ _ hs'
def Sub (H H':AH):Prop:=∀id k o,id<H.nxt->look H'.os id k=some o->o.own=true->∃o0,look H.os id k=some o0/\o0.own=true
def Sub.refl (H:AH):Sub H H:=fun _ _ o _ h ho=>⟨o,h,ho⟩
def Sub.trans {a b c:AH}(h:Sub a b)(h':Sub b c)(hn:a.nxt<=b.nxt):Sub a c:=fun id k o hi hl ho=>by
 obtain⟨o1,h1,h2⟩:=h' id k o (Qc hi hn) hl ho;exact h id k o1 hi h1 h2
def Aft (X:Cx)(β:Env)(H:AH)(_w:World)(k:SV->AH->Prop)(v:Value)(w':World):Prop:=
 ∃β' s H',k s H'/\den β' s v/\s.lt H'.nxt/\St X β' H' w'/\Env.agree H.nxt β β'/\H.nxt<=H'.nxt/\Sub H H'
def sub_cons {H:AH}(os:List (Nat×Nat×(Nat->Obj)))(c:Nat)(F:Nat->Obj)(h:∀id k o,look os id k=some o->look H.os id k=some o):Sub H ⟨H.nxt+1,(H.nxt,c,F)::os⟩:=fun id k o hi hl ho=>by
 rw[z19,qc (by omega)] at hl;exact⟨o,h _ _ _ hl,ho⟩
def aft_new {X:Cx}{β:Env}{H:AH}{w:World}(hS:St X β H w){e:TypeId}{var:Bool}{sz n:Nat}{f:Nat->List SV}{cs:List SV}{vs:List Value}{s:SV}{v:Value}{k:SV->AH->Prop}
  (hl:cs.length=n*sz) (hm:n<=maxLen) (hd:z2u β cs vs) (hlt:SV.ltL H.nxt cs) (hsc:∀s∈cs,s.scalar=true)
  (hf:∀i,i<n->(f i).length=sz/\∀j,j<sz->(f i)[j]? =cs[i*sz+j]?)
  (hv:∀β':Env,β' H.nxt 0=some ⟨w.heap.size,0,sz,n⟩->den β' s v) (hsl:s.lt (H.nxt+1))
  (hk:k s ⟨H.nxt+1,(H.nxt,uQ (.row ⟨true,var,e,sz,n,f⟩))::H.os⟩):Aft X β H w k v (w.alloc (.cells vs.toArray e)):=by
 have hag:=Env.agree_set β H.nxt (fun _=>some ⟨w.heap.size,0,sz,n⟩);refine⟨β.set H.nxt (fun _=>some ⟨w.heap.size,0,sz,n⟩),s,_,hk,hv _ (by unfold Env.set;rw[qe rfl]),hsl,?_,hag,QH _,sub_cons _ _ _ fun _ _ _ h=>h⟩;refine St.new hS ((Blw.refl _ w).alloc (qd _) _) (fun k L _ he=>by cases he;exact qd _) (fun k k' _ _ h h' _ _ _=>by omega) (fun k _=> ?_) (fun k _=>row_lt (SV.ltL_mono (QH _) _ hlt) hf);exact row_holds_new hl hm (z4y hag cs vs hlt hd) hsc hf
def allocK (P:Program)(H:AH)(e:TypeId)(k:SV->AH->Prop):Prop:=
 match z3d P e with
 |some z=>z.all SV.scalar=true/\k (.ptr H.nxt 0 0 0) ⟨H.nxt+1,(H.nxt,uQ (.row ⟨true,true,e,z.length,1,fun _=>z⟩))::H.os⟩
 |none=>False
def one_row (cs:List SV):∀i,i<1->((fun _=>cs:Nat->List SV) i).length=cs.length/\∀j,j<cs.length->((fun _=>cs:Nat->List SV) i)[j]? =cs[i*cs.length+j]? :=fun i hi=>by
 have:i=0:=by omega
 subst this;simp
def allocK_ok {X:Cx}{β:Env}{H:AH}{w:World}(hS:St X β H w){e:TypeId}{k:SV->AH->Prop}(h:allocK X.P H e k):
  ∃v w',(Instr.alloc e true (.tuple #[])).run X.P w= .ok v w'/\Aft X β H w k v w'/\Blw w.heap.size w w':=by
 unfold allocK at h
 split at h
 ·rename_i z hz;obtain⟨zv,hzr,rfl⟩:=zeroOf_run hz;refine⟨.pointer (some ⟨w.heap.size,0,none⟩),w.alloc (.cells zv.cells e),?_,?_,(Blw.refl _ w).alloc (qd _) _⟩
  ·simp only[Instr.alloc,qM,hzr w,qA,newVar,newRow,J0,Qh]
   rfl
  ·have:=aft_new (vs:=zv.cells.toList) hS (n:=1) (by simp) (by simp[maxLen]) (z49 β _) (z4u _ _) (fun s hs=>(qu.1 h.1) s hs) (one_row _) (v:= .pointer (some ⟨w.heap.size,0,none⟩)) (fun β' hb=>by simp only[den];exact⟨_,hb,by simp⟩) (Qp _) h.2;simpa using this
 ·exact h.elim
def boxK (H:AH)(e:TypeId)(s:SV)(k:SV->AH->Prop):Prop:=
 (okCells s=true/\s.cells.all SV.scalar=true)/\k (.ptr H.nxt 0 0 0) ⟨H.nxt+1,(H.nxt,uQ (.row ⟨true,true,e,s.cells.length,1,fun _=>s.cells⟩))::H.os⟩
def boxK_ok {X:Cx}{β:Env}{H:AH}{w:World}(hS:St X β H w){e:TypeId}{s:SV}{v:Value}{k:SV->AH->Prop}(h:boxK H e s k)(hv:den β s v)(hl:s.lt H.nxt):
  ∃v' w',(Instr.box e v).run X.P w= .ok v' w'/\Aft X β H w k v' w'/\Blw w.heap.size w w':=by
 obtain⟨⟨h1,h2⟩,h3⟩:=h;refine⟨.pointer (some ⟨w.heap.size,0,none⟩),w.alloc (.cells v.cells e),?_,?_,(Blw.refl _ w).alloc (qd _) _⟩
 ·simp only[Instr.box,newVar,newRow,qM,J0,qA,Qh]
  rfl
 ·have:=aft_new (vs:=v.cells.toList) hS (n:=1) (by simp) (by simp[maxLen]) (cells_den h1 hv) (cells_lt hl) (fun s hs=>(qu.1 h2) s hs) (one_row _) (v:= .pointer (some ⟨w.heap.size,0,none⟩)) (fun β' hb=>by simp only[den];exact⟨_,hb,by simp⟩) (Qp _) h3;simpa using this
def chunk (sz:Nat)(cs:List SV):Nat->List (List SV)
 |0=>[]
 |n+1=>cs.take sz::chunk sz (cs.drop sz) n
def chunk_get (sz:Nat):∀(n:Nat) (cs:List SV) (i:Nat),i<n->∀d,(chunk sz cs n).getD i d=(cs.drop (i*sz)).take sz
 |0,_,_,h,_=>by omega
 |n+1,cs,0,_,_=>by simp[chunk]
 |n+1,cs,i+1,h,d=>by
  simp only[chunk,List.getD_cons_succ];rw[chunk_get sz n _ i (by omega) d,List.drop_drop,qV,ju,Nat.add_comm]
def dfl:SV->SV
 |.int k _=> .int k 0
 |.str _=> .str default
 |.bool _=> .bool false
 |s=>s
def dfls:List SV->List SV
 |[]=>[]
 |s::l=>dfl s::dfls l
def z3y (sz n:Nat)(cs:List SV):Nat->List SV:=
 match intsOf .i64 cs with
 |some ns=>if sz=1 then fun i=>[.int .i64 (ns.getD i default)] else fun i=>(chunk sz cs n).getD i (dfls (cs.take sz))
 |none=>fun i=>(chunk sz cs n).getD i (dfls (cs.take sz))
def rowsOf_ok {sz n:Nat}{cs:List SV}(hl:cs.length=n*sz):∀i,i<n->(z3y sz n cs i).length=sz/\∀j,j<sz->(z3y sz n cs i)[j]? =cs[i*sz+j]? :=fun i hi=>by
 have gen:((chunk sz cs n).getD i (dfls (cs.take sz))).length=sz/\∀j,j<sz->((chunk sz cs n).getD i (dfls (cs.take sz)))[j]? =cs[i*sz+j]? :=by
  rw[chunk_get sz n cs i hi];have hb:(i+1)*sz<=n*sz:=qT _ hi;rw[qV] at hb;refine⟨by rw[qN,QO];omega,fun j hj=> ?_⟩;rw[Qb,qe hj,QR]
 unfold z3y
 cases hns:intsOf .i64 cs with
 |none=>exact gen
 |some ns=>
  by_cases h1:sz=1
  ·subst h1;simp only[q9];refine⟨rfl,fun j hj=> ?_⟩;have:j=0:=by omega
   subst this;have:=intsOf_get hns i (by omega);simp[this]
  ·simp only[qc h1];exact gen
def replZ (z:List SV):Nat->List SV
 |0=>[]
 |n+1=>z++replZ z n
def bsliceK (P:Program)(H:AH)(t:TypeId)(len:Nat)(ps:List (Nat×SV))(k:SV->AH->Prop):Prop:=
 match(z1o P t).kd with
 |.slice e=>
  match z3d P e with
  |some z=>
   match fillS (fun i=>some (i*z2m P e,z2m P e)) (replZ z len) ps with
   |some cs=>((z1o P t).ok=true/\z2m P e≠0/\z.length=z2m P e/\cs.length=len*z2m P e/\len*z2m P e<=16777216/\len<=16777216/\cs.all SV.scalar=true)/\
     k (.slc true H.nxt 0 0 len) ⟨H.nxt+1,(H.nxt,uQ (.row ⟨true,false,e,z2m P e,len,z3y (z2m P e) len cs⟩))::H.os⟩
   |none=>False
  |none=>False
 |_=>False
def replZ_eq (z:List Value):∀n,(z.map z1z).length≠0->replZ (z.map z1z) n=((List.range (n*z.length)).map fun j=>z.getD (j%z.length) default).map z1z
 |0,_=>by simp[replZ]
 |n+1,h=>by
  rw[replZ,replZ_eq z n h];simp only[qx] at h;apply j2;intro j;rw[Q8];simp only[qx,qQ]
  by_cases hj:j<z.length
  ·have h1:j<(n+1)*z.length:=by rw[qV];omega
   rw[qe hj,jk h1];simp[Nat.mod_eq_of_lt hj,hj,List.getD]
  ·rw[qc hj]
   by_cases hj2:j<(n+1)*z.length
   ·have h1:j-z.length<n*z.length:=by rw[qV] at hj2;omega
    rw[jk h1,jk hj2]
    have:(j-z.length)%z.length=j%z.length:=by
     conv=>rhs;rw[show j=(j-z.length)+z.length by omega]
     simp
    simp[this]
   ·have h1:¬j-z.length<n*z.length:=by rw[qV] at hj2;omega
    rw[qP (by simpa using h1),qP (by simpa using hj2)]
def bsliceK_ok {X:Cx}{β:Env}{H:AH}{w:World}(hS:St X β H w){t:TypeId}{len:Nat}{ps:List (Nat×SV)}{pv:List (Nat×Value)}{k:SV->AH->Prop}(h:bsliceK X.P H t len ps k)
  (he:ps.map (·.1)=pv.map (·.1)) (hd:z2u β (ps.map (·.2)) (pv.map (·.2))) (hl:SV.ltL H.nxt (ps.map (·.2))):
  ∃v' w',(Instr.buildSlice t len pv.toArray).run X.P w= .ok v' w'/\Aft X β H w k v' w'/\Blw w.heap.size w w':=by
 unfold bsliceK at h
 split at h
 ·rename_i e hkd
  split at h
  ·rename_i z hz
   split at h
   ·rename_i cs hcs;obtain⟨⟨hok,hsz,hzl,hcl,h24,hlen,hsc⟩,hk⟩:=h;obtain⟨zv,hzr,rfl⟩:=zeroOf_run hz;obtain⟨inf,d,e1,e2,e3⟩:=z1k hok;rw[e3] at hkd;have:=z2z hkd;subst this;obtain⟨ei,hei,hei2⟩:=z4c hsz;have hzs:zv.cells.size=z2m X.P e:=by simpa using hzl
    have hne:(zv.cells.toList.map z1z).length≠0:=by rw[hzl];exact hsz
    rw[replZ_eq _ _ hne] at hcs
    have hzz:((Array.range (len*z2m X.P e)).map (zv.cells[· %zv.cells.size]!)).toList=(List.range (len*zv.cells.toList.length)).map fun j=>zv.cells.toList.getD (j%zv.cells.toList.length) default:=by
     simp[hzs,List.getD,Jy,QY]
    obtain⟨arr',ha,hda,hla⟩:=fillS_ok (β:=β) (m:=H.nxt) _ ps pv _ cs ((Array.range (len*z2m X.P e)).map (zv.cells[· %zv.cells.size]!)) he hd hl
     (by rw[hzz];exact z49 β _) (z4u _ _) hcs
    refine⟨.slice (some ⟨w.heap.size,0,none⟩) len len,w.alloc (.cells arr' e),?_,?_,(Blw.refl _ w).alloc (qd _) _⟩
    ·have h0:¬(len*ei.size>2^24):=by rw[hei2];omega
     have hall:(Instr.buildSlice t len pv.toArray).run X.P w= .ok (.slice (some ⟨w.heap.size,0,none⟩) len len) (w.alloc (.cells arr' e)):=by
      simp only[Instr.buildSlice,qM,qE e2,qA,z23 hei,qc h0]
      by_cases hz0:len*ei.size=0
      ·have hlen0:len=0:=by
        rcases Nat.mul_eq_zero.1 hz0 with h|h
        ·exact h
        ·omega
       subst hlen0;rw[hei2];have hr0:Array.range 0= #[]:=rfl;have ha':Instr.fill (fun i=>some (i*z2m X.P e,z2m X.P e)) #[] pv=some arr':=by simpa [hr0] using ha
       simp[ha',newRow,hr0]
      ·simp only[hz0,Ql,qM,hzr w,qA,Qh];rw[hei2];simp[ha,newRow]
     exact hall
    ·have hlen2:=z2k hda
     have:=aft_new (e:=e) (var:=false) (vs:=arr'.toList) hS (n:=len) hcl (by simp only[maxLen];omega) hda hla (fun s hs=>(qu.1 hsc) s hs) (rowsOf_ok hcl) (s:= .slc true H.nxt 0 0 len) (v:= .slice (some ⟨w.heap.size,0,none⟩) len len)
      (fun β' hb=>by simp only[den,z56,q9];exact .inr ⟨_,_,hb,trivial,rfl,qd _,qd _,rfl⟩) (Qp _) hk
     simpa using this
   ·exact h.elim
  ·exact h.elim
 ·exact h.elim
def updF (r:Row)(i:Nat)(c:List SV):Nat->List SV:=
 if r.var then fun _=>c else fun i'=>if i'=i then c else r.f i'
def storeK (P:Program)(H:AH)(dr:Bool)(W:List Nat)(t:TypeId)(sa sv:SV)(k:SV->AH->Prop):Prop:=
 match sa with
 |.ptr id kk i j=>
  match find H.os id with
  |some (c,F)=>
   match F kk with
   |.row r=>
    (r.own=true/\kk<c/\i<r.n/\(r.var=true->r.n=1)/\(dr=true->W.contains id=true)/\okCells sv=true/\sv.cells.all SV.scalar=true/\sv.cells.length=z2m P t/\z2m P t≠0/\j+sv.cells.length<=r.sz)/\
    k (.raw undef) ⟨H.nxt,setO H.os id kk (.row {r with f:=updF r i (spl (r.f i) j sv.cells)})⟩
   |_=>False
  |none=>False
 |_=>False
def spl_get {α:Type}(cs:List α)(off:Nat)(ps:List α)(j:Nat)(h:off+ps.length<=cs.length):(spl cs off ps)[j]? =if off<=j/\j<off+ps.length then ps[j-off]? else cs[j]? :=by
 unfold spl;rw[Q8,Q8];simp only[qX,qN,Qb,QR];have e:min off cs.length=off:=by omega
 simp only[e]
 by_cases h1:j<off
 ·simp[h1,show¬off<=j by omega,show j<off+ps.length by omega]
 ·by_cases h2:j<off+ps.length
  ·simp[h1,h2,show off<=j by omega]
  ·simp only[h1,h2,Ql,and_false]
   congr 1;omega
def row_apart {i i' sz j j':Nat}(hj:j<sz)(hj':j'<sz)(h:i*sz+j=i'*sz+j'):i=i'/\j=j':=by
 have h1:(i*sz+j)/sz=i:=by
  rw[Nat.mul_comm,Nat.mul_add_div (by omega),Nat.div_eq_of_lt hj];omega
 have h2:(i'*sz+j')/sz=i':=by
  rw[Nat.mul_comm,Nat.mul_add_div (by omega),Nat.div_eq_of_lt hj'];omega
 have:i=i':=by rw[<-h1,<-h2,h]
 subst this;exact⟨rfl,by omega⟩
def storeK_ok {X:Cx}{β:Env}{H:AH}{w:World}(hS:St X β H w){dr:Bool}{W:List Nat}{t:TypeId}{sa sv:SV}{va vv:Value}{k:SV->AH->Prop}(h:storeK X.P H dr W t sa sv k)
  (ha:den β sa va) (hv:den β sv vv) (hlv:sv.lt H.nxt):
  ∃w',(Instr.storeAt t va vv).run X.P w= .ok () w'/\Aft X β H w k undef w'/\(dr=true->Kp w (inW β H W) w'):=by
 unfold storeK at h
 split at h
 ·rename_i id kk i j
  split at h
  ·rename_i c F hf
   split at h
   ·rename_i r hr;obtain⟨⟨hown,hkk,hi,hvar,hW,hok,hsc,hlen,hsz,hfit⟩,hk⟩:=h;have hl:=zy hf hkk;rw[hr] at hl;simp only[den] at ha;obtain⟨L,hb,rfl⟩:=ha;have hh:=hS.holds _ _ _ hl;rcases hh with⟨h0,_⟩|⟨L',hq,h1,h2,h3,h4⟩
    ·omega
    ·rw[hb] at hq
     cases hq
     obtain⟨hoff,hncap,hmax,cur,hcur,hcs⟩:=h4 hown;have hcd:=cells_den hok hv;have hclen:=z2k hcd;simp only[QT] at hclen;obtain⟨ti,hti,hti2⟩:=z4c hsz
     have hrow:i*r.sz+r.sz<=r.n*r.sz:=by
      have:=qT r.sz hi;rw[Nat.succ_mul] at this;exact this
     have hcap:r.n*r.sz<=L.cap*r.sz:=qT _ hncap
     have hst:=run_storeCells_at X.P L.blk (L.off+i*L.sz+j) r.e vv.cells.toList 0 cur w hcur (by rw[h1,hoff];simp;omega) (fun u hu=>by
      obtain⟨q,hq⟩:=Qr hu
      obtain⟨s,hs⟩:∃s,sv.cells[q]? =some s:=by
       have:q<sv.cells.length:=by
        have:=(qZ.1 hq).1;simp at this;omega
       exact⟨_,qJ this⟩
      obtain⟨u',hu',hd'⟩:=z4k hcd q s hs;rw[hq] at hu'
      cases hu'
      exact den_scalar ((qu.1 hsc) s (qW hs)) hd')
     simp only[ja] at hst
     let o:=L.off+i*L.sz+j
     let cur':Array Value:=(cur.toList.take o++vv.cells.toList++cur.toList.drop (o+vv.cells.toList.length)).toArray
     have hspl:cur'.toList=spl cur.toList o vv.cells.toList:=rfl
     have hofit:o+vv.cells.toList.length<=cur.toList.length:=by
      simp only[o,QT];rw[h1,hoff,hclen,hcs];omega
     have hcur':cur'.size=cur.size:=by
      have:=spl_length cur.toList o vv.cells.toList hofit;rw[<-hspl] at this;simpa using this
     have hget:∀q:Nat,cur'[q]? =if o<=q/\q<o+vv.cells.toList.length then vv.cells.toList[q-o]? else cur[q]? :=fun q=>by
      have:=spl_get cur.toList o vv.cells.toList q hofit;rw[<-hspl] at this;simpa using this
     have hheap:=setRow_heap w L.blk cur cur' r.e (0,0) hcur;refine⟨w.setRow L.blk cur',?_,?_,?_⟩
     ·have hsize:¬(vv.cells.size≠ti.size):=by omega
      simp only[Instr.storeAt,Instr.sureAddr,qM,Qh,qA,storeVar,z23 hti,qc hsize];exact hst
     ·refine⟨β,.raw undef,_,hk,rfl,trivial,?_,Env.agree.refl _ _,qd _,fun id' k' o' _ hl' ho'=> ?_⟩
      rotate_left
      ·rw[z3c _ _ _ _ _ hl] at hl'
       split at hl'
       ·rename_i he;exact⟨.row r,by rw[he.1,he.2];exact hl,hown⟩
       ·exact⟨_,hl',ho'⟩
      refine St.upd hS hl hown hb (o':= .row {r with f:=updF r i (spl (r.f i) j sv.cells)}) hown (z3c _ _ _ _ _ hl) ⟨rfl,rfl,rfl,rfl,by simp[World.setRow],fun b hbne=>JK w L.blk b _ hbne⟩ ?_ ?_
      ·have hri:(r.f i).length=r.sz:=(h3 i hi).1
       have hfi:∀i',i'<r.n->i'≠i->updF r i (spl (r.f i) j sv.cells) i'=r.f i':=fun i' hi' hne=>by
        unfold updF
        split
        ·rename_i hv';have:=hvar hv';omega
        ·show(if i'=i then _ else _)=_
         rw[qc hne]
       have hfii:updF r i (spl (r.f i) j sv.cells) i=spl (r.f i) j sv.cells:=by
        unfold updF
        split
        ·rfl
        ·show(if i=i then _ else _)=_
         rw[qe rfl]
       refine .inr ⟨L,rfl,h1,by simpa [World.setRow] using h2,fun i' hi'=> ?_,fun _=>⟨hoff,hncap,hmax,cur',hheap,by rw[hcur'];exact hcs⟩⟩;have hcell:∀q:Nat,(w.setRow L.blk cur').cell? ⟨L.blk,q,none⟩=cur'[q]? :=fun q=>by simp[World.cell?,hheap]
       have hcell0:∀q:Nat,w.cell? ⟨L.blk,q,none⟩=cur[q]? :=fun q=>by simp[World.cell?,hcur]
       by_cases hii:i'=i
       ·subst hii;simp only[hfii];refine⟨by rw[spl_length _ _ _ (by omega)];exact hri,fun j' s hs=> ?_⟩;rw[spl_get _ _ _ _ (by omega)] at hs
        split at hs
        ·rename_i hin;obtain⟨u,hu,hud⟩:=z4k hcd _ _ hs;refine⟨(qu.1 hsc) s (qW hs),u,?_,hud⟩;rw[hcell,hget,qe (by simp only[o];rw[QT,hclen];omega)];rw[<-hu];congr 1;simp only[o];omega
        ·rename_i hnin;obtain⟨h5,u,hu,hud⟩:=(h3 i' hi).2 j' s hs;refine⟨h5,u,?_,hud⟩;rw[hcell,hget,qc (by simp only[o];rw[QT,hclen];omega),<-hcell0];exact hu
       ·simp only[hfi i' hi' hii];refine⟨(h3 i' hi').1,fun j' s hs=> ?_⟩;obtain⟨h5,u,hu,hud⟩:=(h3 i' hi').2 j' s hs;refine⟨h5,u,?_,hud⟩
        have hj':j'<r.sz:=by
         have:=(qZ.1 hs).1;rw[(h3 i' hi').1] at this;exact this
        rw[hcell,hget,qc ?_,<-hcell0]
        ·exact hu
        ·rintro⟨q1,q2⟩;rw[QT,hclen] at q2;simp only[o,h1] at q1 q2;have hjj:(L.off+i'*r.sz+j')-(L.off+i*r.sz)<r.sz:=by omega
         have:=row_apart (i:=i') (i':=i) (sz:=r.sz) (j:=j') (j':=(L.off+i'*r.sz+j')-(L.off+i*r.sz)) hj' hjj (by omega);exact hii this.1
      ·intro i' j' s hi' hs;have hs':(updF r i (spl (r.f i) j sv.cells) i')[j']? =some s:=hs;have hi'':i'<r.n:=hi';have hlt:=(hS.lt _ _ _ hl).2;unfold updF at hs'
       have hspl2:∀(q:Nat) (s:SV),(spl (r.f i) j sv.cells)[q]? =some s->s.lt H.nxt:=fun q s hq=>by
        rw[spl_get _ _ _ _ (by rw[(h3 i hi).1];omega)] at hq
        split at hq
        ·exact SV.ltL_get (cells_lt hlv) _ _ hq
        ·exact hlt i q s hi hq
       split at hs'
       ·exact hspl2 _ _ hs'
       ·simp only at hs'
        split at hs'
        ·exact hspl2 _ _ hs'
        ·exact hlt i' j' s hi'' hs'
     ·intro hdr;refine⟨by simp[World.setRow],fun b hb2 hnb=>JK w L.blk b _ fun he=>hnb ?_⟩;have hWc:=hW hdr;exact⟨id,kk,.row r,L,by simpa using hWc,hl,hown,hb,he.symm⟩
   ·exact h.elim
  ·exact h.elim
 ·exact h.elim
def aft_newC {X:Cx}{β:Env}{H:AH}{w:World}(hS:St X β H w){e:TypeId}{var:Bool}{sz n cap:Nat}{f:Nat->List SV}{cs:List SV}{vs:List Value}{s:SV}{v:Value}{k:SV->AH->Prop}
  (hl:cs.length=cap*sz) (hn:n<=cap) (hm:cap<=maxLen) (hd:z2u β cs vs) (hlt:SV.ltL H.nxt cs) (hsc:∀s∈cs,s.scalar=true)
  (hf:∀i,i<n->(f i).length=sz/\∀j,j<sz->(f i)[j]? =cs[i*sz+j]?)
  (hv:∀β':Env,β' H.nxt 0=some ⟨w.heap.size,0,sz,cap⟩->den β' s v) (hsl:s.lt (H.nxt+1))
  (hk:k s ⟨H.nxt+1,(H.nxt,uQ (.row ⟨true,var,e,sz,n,f⟩))::H.os⟩):Aft X β H w k v (w.alloc (.cells vs.toArray e)):=by
 have hag:=Env.agree_set β H.nxt (fun _=>some ⟨w.heap.size,0,sz,cap⟩);refine⟨β.set H.nxt (fun _=>some ⟨w.heap.size,0,sz,cap⟩),s,_,hk,hv _ (by unfold Env.set;rw[qe rfl]),hsl,?_,hag,QH _,sub_cons _ _ _ fun _ _ _ h=>h⟩;refine St.new hS ((Blw.refl _ w).alloc (qd _) _) (fun k L _ he=>by cases he;exact qd _) (fun k k' _ _ h h' _ _ _=>by omega) (fun k _=> ?_) (fun k _=>row_lt (SV.ltL_mono (QH _) _ hlt) hf);exact row_holds (jS w _) (by have:=z2k hd;simp;omega) hn hm (fun j _=>by simp) (z4y hag cs vs hlt hd) hsc hf
def mkK (P:Program)(H:AH)(t:TypeId)(sl sc:SV)(k:SV->AH->Prop):Prop:=
 match sl,sc with
 |.int _ l,.int _ c=>
  match(z1o P t).kd with
  |.slice e=>
   match z3d P e with
   |some z=>((z1o P t).ok=true/\z2m P e≠0/\z.length=z2m P e/\z.all SV.scalar=true/\(z1o P e).ok=true/\0<=l/\l<=c/\c<=1073741824/\(z1o P e).bytes<=1024)/\
     k (.slc true H.nxt 0 0 l.toNat) ⟨H.nxt+1,(H.nxt,uQ (.row ⟨true,false,e,z2m P e,l.toNat,fun _=>z⟩))::H.os⟩
   |none=>False
  |_=>False
 |_,_=>False
def replZ_get (z:List SV):∀(n i:Nat),i<n->∀j,j<z.length->z[j]? =(replZ z n)[i*z.length+j]?
 |0,_,h,_,_=>by omega
 |n+1,0,_,j,hj=>by simp only[replZ,Nat.zero_mul,QE];rw[Q8,qe hj]
 |n+1,i+1,h,j,hj=>by
  simp only[replZ];rw[Q8,qc (by rw[qV];omega),replZ_get z n i (by omega) j hj]
  congr 1
  rw[qV];omega
def replZ_length (z:List SV):∀n,(replZ z n).length=n*z.length
 |0=>by simp[replZ]
 |n+1=>by simp[replZ,replZ_length z n,qV];omega
def replZ_mem (z:List SV):∀n s,s∈replZ z n->s∈z
 |0,s,h=>by simp[replZ] at h
 |n+1,s,h=>by
  simp only[replZ,Qa] at h;rcases h with h|h
  ·exact h
  ·exact replZ_mem z n s h
def mkK_ok {X:Cx}{β:Env}{H:AH}{w:World}(hS:St X β H w){t:TypeId}{sl sc:SV}{vl vc:Value}{k:SV->AH->Prop}(h:mkK X.P H t sl sc k)(hl:den β sl vl)(hc:den β sc vc):
  ∃v' w',(Instr.makeSlice t vl vc).run X.P w= .ok v' w'/\Aft X β H w k v' w'/\Blw w.heap.size w w':=by
 unfold mkK at h
 split at h
 ·rename_i kl l kc c
  split at h
  ·rename_i e hkd
   split at h
   ·rename_i z hz;obtain⟨⟨hok,hsz,hzl,hsc,hoke,h0,hcl,hbig,hby⟩,hk⟩:=h;simp only[den] at hl hc;subst hl hc;obtain⟨inf,d,e1,e2,e3⟩:=z1k hok;rw[e3] at hkd;have:=z2z hkd;subst this;obtain⟨ei,de,e4,e5,e6⟩:=z1k hoke;rw[e6] at hby;have hby':ei.bytes<=1024:=hby;clear hby;have hei2:ei.size=z2m X.P e:=by unfold z2m;simp[e4]
    have hzz:∃zv,ei.zero=some zv/\z=zv.cells.toList.map z1z:=by
     unfold z3d at hz;simp only[e4,jC] at hz
     cases hz0:ei.zero with
     |none=>simp[hz0] at hz
     |some zv=>simp[hz0] at hz;exact⟨zv,rfl,hz.symm⟩
    obtain⟨zv,hzv,rfl⟩:=hzz
    have hbm:(ei.bytes:Int)*c<=281474976710656:=by
     have h1:(ei.bytes:Int)*c<=1024*c:=Int.mul_le_mul_of_nonneg_right (by omega) (by omega);omega
    have hrun:=run_make (P:=X.P) w t e ei zv e2 e4 hzv kl kc l c h0 hcl hbm (by omega);refine⟨_,_,hrun,?_,(Blw.refl _ w).alloc (qd _) _⟩;have hzsz:zv.cells.size=ei.size:=by have:=hzl;simp at this;omega
    have hmade:(madeCells zv.cells (c.toNat*ei.size)).toList=(List.range (c.toNat*zv.cells.toList.length)).map fun j=>zv.cells.toList.getD (j%zv.cells.toList.length) default:=by
     simp[madeCells,hzsz,List.getD,Jy,QY]
    have hne:(zv.cells.toList.map z1z).length≠0:=by rw[hzl];exact hsz
    have hrz:=replZ_eq zv.cells.toList c.toNat hne
    have hd:z2u β (replZ (zv.cells.toList.map z1z) c.toNat) (madeCells zv.cells (c.toNat*ei.size)).toList:=by
     rw[hrz,hmade];exact z49 β _
    have hm:c.toNat<=maxLen:=by unfold maxLen;omega
    have hrl:(replZ (zv.cells.toList.map z1z) c.toNat).length=c.toNat*z2m X.P e:=by rw[replZ_length,hzl]
    have hlt:SV.ltL H.nxt (replZ (zv.cells.toList.map z1z) c.toNat):=by rw[hrz];exact z4u _ _
    have hf:∀i,i<l.toNat->((fun _=>zv.cells.toList.map z1z:Nat->List SV) i).length=z2m X.P e/\∀j,j<z2m X.P e->((fun _=>zv.cells.toList.map z1z:Nat->List SV) i)[j]? =(replZ (zv.cells.toList.map z1z) c.toNat)[i*z2m X.P e+j]? :=fun i hi=>⟨hzl,fun j hj=>by rw[<-hzl];exact replZ_get _ _ i (by omega) j (by rw[hzl];exact hj)⟩;have hall:∀s∈replZ (zv.cells.toList.map z1z) c.toNat,s.scalar=true:=fun s hs=>(qu.1 hsc) s (replZ_mem _ _ s hs)
    have hnew:=aft_newC (e:=e) (var:=false) (sz:=z2m X.P e) (n:=l.toNat) (cap:=c.toNat) (f:=fun _=>zv.cells.toList.map z1z) (vs:=(madeCells zv.cells (c.toNat*ei.size)).toList) (s:= .slc true H.nxt 0 0 l.toNat) (v:= .slice (some ⟨w.heap.size,0,none⟩) l.toNat c.toNat) hS hrl (by omega) hm hd hlt hall hf
     (fun β' hb=>by simp only[den,z56,q9];exact .inr ⟨_,c.toNat,hb,trivial,rfl,by omega,qd _,rfl⟩) (Qp _) hk
    rw[JD] at hnew;exact hnew
   ·exact h.elim
  ·exact h.elim
 ·exact h.elim
end Go.Sk
