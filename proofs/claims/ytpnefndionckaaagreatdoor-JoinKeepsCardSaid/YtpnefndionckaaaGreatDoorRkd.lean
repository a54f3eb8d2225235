/-
  Walks and plain facts, joined: part 4 of 6.
  Conditions: those that each statement names.
-/
import Derived.Test.YtpnefndionckaaaGreatDoorRkc
import Derived.Test.YtpnefndionckaaaGreatDoorRkb
import Derived.Test.YtpnefndionckaaaGreatDoorChecked
import Derived.Below
import Derived.ChangeSame
import Derived.ChangeSlices
import Derived.ReadAgain
import Derived.OpenShut
import Derived.JoinedOf
import Derived.Handed
import Derived.Shelf.SlSortCmp.NoneTotal
set_option linter.unusedSimpArgs false
set_option linter.unusedVariables false
set_option linter.defProp false
set_option maxRecDepth 4000
set_option maxHeartbeats 8000000
namespace Go.Sk
open Go.RowKit
abbrev Pn:=Nat→Nat→Nat×Nat
mutual
def SV.renP (π:Pn):SV→SV
 |.ptr id k i j=> .ptr (π id k).1 (π id k).2 i j
 |.slc g id k o n=> .slc g (π id k).1 (π id k).2 o n
 |.mp id k=> .mp (π id k).1 (π id k).2
 |.fn f l=> .fn f (SV.renPL π l)
 |.agg l=> .agg (SV.renPL π l)
 |.tup l=> .tup (SV.renPL π l)
 |.gd g s=> .gd g (SV.renP π s)
 |.ifc t s=> .ifc t (SV.renP π s)
 |s=>s
def SV.renPL (π:Pn):List SV→List SV
 |[]=>[]
 |s::l=>SV.renP π s::SV.renPL π l
end
def Env.viaP (β:Env)(π:Pn):Env:=fun id k=>β (π id k).1 (π id k).2
mutual
theorem z3g {β:Env}{π:Pn}:∀(s:SV) (v:Value),den β (s.renP π) v↔den (β.viaP π) s v
 |.int ..,_=>Iff.rfl
 |.bool _,_=>Iff.rfl
 |.str _,_=>Iff.rfl
 |.nilp,_=>Iff.rfl
 |.nils,_=>Iff.rfl
 |.nilfn,_=>Iff.rfl
 |.raw _,_=>Iff.rfl
 |.ptr ..,_=>Iff.rfl
 |.slc ..,_=>Iff.rfl
 |.mp ..,_=>Iff.rfl
 |.fn f l,v=>by
  simp only[SV.renP,den];exact⟨fun⟨vs,h,e⟩=>⟨vs,(z5d l vs).1 h,e⟩,fun⟨vs,h,e⟩=>⟨vs,(z5d l vs).2 h,e⟩⟩
 |.agg l,v=>by
  simp only[SV.renP,den];exact⟨fun⟨vs,h,e⟩=>⟨vs,(z5d l vs).1 h,e⟩,fun⟨vs,h,e⟩=>⟨vs,(z5d l vs).2 h,e⟩⟩
 |.tup l,v=>by
  simp only[SV.renP,den];exact⟨fun⟨vs,h,e⟩=>⟨vs,(z5d l vs).1 h,e⟩,fun⟨vs,h,e⟩=>⟨vs,(z5d l vs).2 h,e⟩⟩
 |.ifc t s,v=>by
  simp only[SV.renP,den];exact⟨fun⟨u,h,e⟩=>⟨u,(z3g s u).1 h,e⟩,fun⟨u,h,e⟩=>⟨u,(z3g s u).2 h,e⟩⟩
 |.gd g s,v=>by
  simp only[SV.renP,den];exact⟨fun⟨h,e⟩=>⟨fun hg=>(z3g s v).1 (h hg),e⟩,fun⟨h,e⟩=>⟨fun hg=>(z3g s v).2 (h hg),e⟩⟩
theorem z5d {β:Env}{π:Pn}:∀(l:List SV) (vs:List Value),z2h β (SV.renPL π l) vs↔z2h (β.viaP π) l vs
 |[],_=>Iff.rfl
 |s::l,vs=>by
  simp only[SV.renPL,z2h];exact⟨fun⟨v,r,h1,h2,e⟩=>⟨v,r,(z3g s v).1 h1,(z5d l r).1 h2,e⟩,fun⟨v,r,h1,h2,e⟩=>⟨v,r,(z3g s v).2 h1,(z5d l r).2 h2,e⟩⟩
end
theorem renPL_eq (π:Pn):∀l:List SV,SV.renPL π l=l.map (SV.renP π)
 |[]=>rfl
 |s::l=>by simp[SV.renPL,renPL_eq π l]
theorem scalar_renP (π:Pn)(s:SV):(s.renP π).scalar=s.scalar:=by cases s<;>rfl
def zm (π:Pn)(r r':Row):Prop:=
 (r'.own=true→r.own=true∧r'.e=r.e)∧r'.sz=r.sz∧r'.n≤r.n∧∀i,i<r'.n→r.f i=SV.renPL π (r'.f i)
def mapGivesP (π:Pn):z2z→z2z→Prop
 |.ints n h g z,.ints n' h' g' z'=>n'=n∧(∀a,h' a=h a)∧(∀a,g a=(g' a).renP π)∧z=z'.renP π
 |.prs n h g z,.prs n' h' g' z'=>n'=n∧(∀a b,h' a b=h a b)∧(∀a b,g a b=(g' a b).renP π)∧z=z'.renP π
 |_,_=>False
theorem mapGivesP_all {π:Pn}{M M':z2z}(h:mapGivesP π M M'):M'.n=M.n∧(∀v,M'.has v=M.has v)∧(∀v,M.val v=(M'.val v).renP π)∧M.z=M'.z.renP π:=by
 cases M<;>cases M'<;>simp only[mapGivesP] at h
 all_goals
  obtain⟨h1,h2,h3,h4⟩:=h;refine⟨h1,fun v=> ?_,fun v=> ?_,h4⟩<;>simp only[z2z.has,z2z.val]<;>split<;>first|exact h2 _|exact h2 _ _|exact h3 _|exact h3 _ _|exact h4|rfl
def zn (π:Pn):Obj→Obj→Prop
 |.row r,.row r'=>zm π r r'
 |.blk w p,.blk w' p'=>(w'=true→w=true)∧p=p'
 |.mapo w p,.mapo w' p'=>(w'=true→w=true)∧mapGivesP π p p'
 |_,_=>False
theorem objGivesP_own {π:Pn}{o o':Obj}(h:zn π o o')(ho:o'.own=true):o.own=true:=by
 cases o<;>cases o'<;>simp only[zn] at h
 ·exact(h.1 ho).1
 ·exact h.1 ho
 ·exact h.1 ho
theorem z23 {π:Pn}{o o':Obj}(h:zn π o o'):o≠ .gone:=by
 cases o<;>cases o'<;>simp only[zn] at h<;>simp
theorem objGivesP_holds {π:Pn}{o o':Obj}(h:zn π o o'){β:Env}{w:World}{q:Option Loc}(hh:o.holds β w q):o'.holds (β.viaP π) w q:=by
 cases o<;>cases o'<;>simp only[zn] at h
 ·rename_i r r';obtain⟨h1,h2,h3,h4⟩:=h;rcases hh with⟨hn,hq⟩|⟨L,hq,e1,e2,e3,e4⟩
  ·exact .inl ⟨by omega,hq⟩
  ·refine .inr ⟨L,hq,by omega,e2,fun i hi=> ?_,fun ho=> ?_⟩
   ·have:=e3 i (by omega);rw[h4 i hi] at this;refine⟨by rw[renPL_eq,List.length_map] at this;omega,fun j s hs=> ?_⟩;have hj:(SV.renPL π (r'.f i))[j]? =some (s.renP π):=by rw[renPL_eq,List.getElem?_map,hs];rfl
    obtain⟨c1,v,c2,c3⟩:=this.2 j _ hj;exact⟨by rw[←scalar_renP π];exact c1,v,c2,(z3g s v).1 c3⟩
   ·obtain⟨a,b,c,cur,d,e⟩:=e4 (h1 ho).1;exact⟨a,by omega,c,cur,by rw[(h1 ho).2];exact d,by rw[h2];exact e⟩
 ·obtain⟨_,rfl⟩:=h;exact hh
 ·obtain⟨L,b,hq,hb,es,clk,e1,e2,e6,e3,e4,e5⟩:=hh;obtain⟨q1,q2,q3,q4⟩:=mapGivesP_all h.2;refine⟨L,b,hq,hb,es,clk,e1,e2.trans q1.symm,e6,fun k=>by rw[q2];exact e3 k,fun e he=> ?_,fun k hk v hv=> ?_⟩
  ·have:=e4 e he;rw[q3] at this;exact(z3g _ _).1 this
  ·have:=e5 k (by rw[←q2];exact hk) v (by rw[q4];exact(z3g _ _).2 hv);rw[q3] at this;exact(z3g _ _).1 this
structure z54 (X:Cx) (π:Pn) (fr:Fr) (H:AH) (fr':Fr) (H':AH):Prop where
 fr:∀t s,get fr' t=some s→get fr t=some (s.renP π)∧s.lt H'.nxt
 os:∀id k o',look H'.os id k=some o'→id<H'.nxt∧o'.lt H'.nxt∧∃o,look H.os (π id k).1 (π id k).2=some o∧zn π o o'
 inj:∀id k o id' k' o',look H'.os id k=some o→look H'.os id' k'=some o'→o.own=true→π id k=π id' k'→id=id'∧k=k'
 fix:∀id k,id<X.m0→π id k=(id,k)
 m0:X.m0≤H'.nxt
 keep:∀id k,id<X.m0→(∃o,look H.os id k=some o∧o.own=true)→∃o,look H'.os id k=some o∧o.own=true
 big:∀id k o,X.m0≤id→look H'.os id k=some o→o.own=true→X.m0≤(π id k).1
theorem z54.frOk {X:Cx}{π:Pn}{fr fr':Fr}{H H':AH}(h:z54 X π fr H fr' H'){β:Env}{a:Act}(hF:FrOk X β H.nxt fr a):FrOk X (β.viaP π) H'.nxt fr' a:=
 ⟨hF.defers,hF.size,fun t s hs=>by
  obtain⟨h1,h2⟩:=h.fr t s hs;obtain⟨_,v,h3,h4⟩:=hF.get t _ h1
  exact⟨h2,v,h3,(z3g s v).1 h4⟩⟩
theorem z54.st {X:Cx}{π:Pn}{fr fr':Fr}{H H':AH}(h:z54 X π fr H fr' H'){β:Env}{w:World}(hS:St X β H w):St X (β.viaP π) H' w where
 os:=hS.os
 tape:=hS.tape
 output:=hS.output
 size:=hS.size
 fix id k hl:=by
  show β (π id k).1 (π id k).2=_
  rw[h.fix id k hl];exact hS.fix id k hl
 holds id k o hl:=by
  obtain⟨_,_,o0,h1,h2⟩:=h.os _ _ _ hl;exact objGivesP_holds h2 (hS.holds _ _ _ h1)
 sep id k id' k' o o' L L' hl hl' ho hb hb' he:=by
  obtain⟨_,_,o0,h1,h2⟩:=h.os _ _ _ hl;obtain⟨_,_,o1,h3,h4⟩:=h.os _ _ _ hl';have:=hS.sep _ _ _ _ _ _ _ _ h1 h3 (objGivesP_own h2 ho) hb hb' he;exact h.inj _ _ _ _ _ _ hl hl' ho (Prod.ext this.1 this.2)
 old b hb hn:=hS.old b hb fun id k o L hl ho hbb he=>by
  rcases hS.mine _ _ _ _ hl ho hbb with⟨h1,_⟩|⟨_,h2⟩
  ·obtain⟨o',q1,q2⟩:=h.keep id k h1 ⟨o,hl,ho⟩;refine hn id k o' L q1 q2 ?_ he
   show β (π id k).1 (π id k).2=_
   rw[h.fix id k h1];exact hbb
  ·omega
 mine id k o L hl ho hb:=by
  obtain⟨hlt,_,o0,h1,h2⟩:=h.os _ _ _ hl;rcases hS.mine _ _ _ _ h1 (objGivesP_own h2 ho) hb with⟨q1,q2⟩|⟨q1,q2⟩
  ·by_cases hm:id<X.m0
   ·rw[h.fix id k hm] at q2;exact .inl ⟨hm,q2⟩
   ·have:=h.big id k o (by omega) hl ho;omega
  ·by_cases hm:id<X.m0
   ·have:=h.fix id k hm;rw[this] at q1;simp only at q1;omega
   ·exact .inr ⟨by omega,q2⟩
 keep id k ho:=by
  obtain⟨q1,o,q2,q3⟩:=hS.keep id k ho;exact⟨q1,h.keep id k q1 ⟨o,q2,q3⟩⟩
 m0:=h.m0
 lt id k o hl:=by
  obtain⟨h1,h2,_⟩:=h.os _ _ _ hl;exact⟨h1,h2⟩
 tabs:=hS.tabs
 drawn:=hS.drawn
def mvP (ρ:Nat→Nat)(f j a:Nat):Pn:=fun id k=>if id=f∧k=j+1 then(a,0) else(ρ id,k)
def frGivesP (π:Pn)(m:Nat)(fr:Fr):Fr→Prop
 |[]=>True
 |(t,s)::l=>(get fr t=some (s.renP π)∧s.lt m)∧frGivesP π m fr l
theorem frGivesP_ok {π:Pn}{m:Nat}{fr:Fr}:∀{fr':Fr},frGivesP π m fr fr'→∀t s,get fr' t=some s→get fr t=some (s.renP π)∧s.lt m
 |[],_,_,_,h=>by simp[get] at h
 |(u,s0)::l,h,t,s,hs=>by
  simp only[get] at hs
  split at hs
  ·rename_i he
   cases hs;subst he
   exact h.1
  ·exact frGivesP_ok h.2 t s hs
def z1m (ρ:Nat→Nat)(f j a m:Nat)(os:List (Nat×Nat×(Nat→Obj))):List (Nat×Nat×(Nat→Obj))→Prop
 |[]=>True
 |(id,c',F')::l=>
  ((match find os (ρ id) with
   |some (c,F)=> ∀k,k<c'→¬(id=f∧k=j+1)→k<c∧zn (mvP ρ f j a) (F k) (F' k)∧(F' k).lt m
   |none=>False)∧
   (id=f→match find os a with
   |some (c,F)=>0<c∧zn (mvP ρ f j a) (F 0) (F' (j+1))∧(F' (j+1)).lt m
   |none=>False))∧id<m∧z1m ρ f j a m os l
theorem z1m.get {ρ:Nat→Nat}{f j a m:Nat}{os:List (Nat×Nat×(Nat→Obj))}:∀{os':List (Nat×Nat×(Nat→Obj))},z1m ρ f j a m os os'→∀id c' F',(id,c',F')∈os'→∀k,k<c'→F' k≠ .gone→
  id<m∧(F' k).lt m∧∃o,look os (mvP ρ f j a id k).1 (mvP ρ f j a id k).2=some o∧zn (mvP ρ f j a) o (F' k)
 |[],_,_,_,_,hm=>by cases hm
 |(i,c1,F1)::l,h,id,c',F',hm=>by
  obtain⟨⟨h1,h1'⟩,h2,h3⟩:=h
  cases hm with
  |head=>
   intro k hk hg
   by_cases hj:i=f∧k=j+1
   ·obtain⟨rfl,rfl⟩:=hj;have:=h1' rfl
    split at this
    ·rename_i c F hf;obtain⟨q1,q2,q3⟩:=this;refine⟨h2,q3,F 0,?_,q2⟩;simp only[mvP,and_self,if_true];exact(zt hf q1).trans (Obj.opt_of (z23 q2))
    ·exact this.elim
   ·split at h1
    ·rename_i c F hf;obtain⟨q1,q2,q3⟩:=h1 k hk hj;refine⟨h2,q3,F k,?_,q2⟩;have e:mvP ρ f j a i k=(ρ i,k):=if_neg hj;rw[e];exact(zt hf q1).trans (Obj.opt_of (z23 q2))
    ·exact h1.elim
  |tail _ hm=>exact z1m.get h3 id c' F' hm
theorem z54.mk' {X:Cx}{fr:Fr}{H:AH}{fr':Fr}{H':AH}(ρ:Nat→Nat)(f j a:Nat)(h1:frGivesP (mvP ρ f j a) H'.nxt fr fr')(h2:z1m ρ f j a H'.nxt H.os H'.os)(h3:injB ρ H'.os=true)(h3u:ownU H'.os)
  (h3a:(H'.os.all fun x=> !(ρ x.1==a))=true) (h4:(List.range X.m0).all (fun id=>ρ id==id)=true)
  (h5:X.m0≤H'.nxt) (h5f:X.m0≤f) (h5a:X.m0≤a) (h6:∀x∈H.os,x.1<X.m0→∀k,(x.2.2 k).own=(x.2.2 0).own) (h7:keepB X.m0 H.os H'.os) (h8:bigB X.m0 ρ H'.os=true):z54 X (mvP ρ f j a) fr H fr' H' where
 fr:=frGivesP_ok h1
 os id k o' hl:=by
  have hg:=z38 hl;obtain⟨c,F,hf,hk,rfl⟩:=z1d hl;exact h2.get _ _ _ (z1g hf) k hk hg
 inj id k o id' k' o' hl hl' ho he:=by
  have hna:∀{id k:Nat} {o:Obj},look H'.os id k=some o→ρ id≠a:=fun {id k o} h e=>by
   obtain⟨c,F,hf,hk,rfl⟩:=z1d h;have:=List.all_eq_true.1 h3a _ (z1g hf);simp[e] at this
  have hij:InjOn ρ H'.os:= .of h3 h3u;unfold mvP at he
  split at he
  ·rename_i h
   split at he
   ·rename_i h';exact⟨h.1.trans h'.1.symm,h.2.trans h'.2.symm⟩
   ·simp only[Prod.mk.injEq] at he;exact absurd he.1.symm (hna hl')
  ·split at he
   ·simp only[Prod.mk.injEq] at he;exact absurd he.1 (hna hl)
   ·simp only[Prod.mk.injEq] at he;exact⟨hij _ _ _ _ _ _ hl hl' ho he.1,he.2⟩
 fix id k hid:=by
  have:=List.all_eq_true.1 h4 id (List.mem_range.2 hid);unfold mvP;rw[if_neg (by omega)];rw[beq_iff_eq] at this;rw[this]
 m0:=h5
 keep id k hid ho:=by
  obtain⟨o,ho1,ho2⟩:=ho;obtain⟨c,F,hf,hk,rfl⟩:=z1d ho1;have:=h7 _ (z1g hf) hid (by have:=h6 _ (z1g hf) hid k;simp only at this;rw[←this];exact ho2);simp only at this
  split at this
  ·rename_i c' F' hf';exact⟨F' k,(zt hf' (by omega)).trans (Obj.opt_of fun e=>by have:=this.2 k;rw[e] at this;cases this),this.2 k⟩
  ·exact this.elim
 big id k o h0 hl ho:=by
  obtain⟨c,F,hf,hk,rfl⟩:=z1d hl;have h9:=List.all_eq_true.1 h8 _ (z1g hf);have h10:=h3u _ (z1g hf) k;simp only[Bool.or_eq_true,decide_eq_true_eq,Bool.not_eq_true'] at h9;simp only at h10;rw[←h10,ho] at h9;unfold mvP
  split
  ·exact h5a
  ·rcases h9 with(h9|h9)|h9
   ·omega
   ·exact h9
   ·cases h9
section
variable {X:Cx} {Q:Exit→Fr→AH→Prop} {fr:Fr} {H:AH} {l:List Code}
theorem z4f {c:Code}{fr':Fr}{H':AH}(π:Pn)(hg:z54 X π fr H fr' H')(h:Cs X (c::l) Q fr' H'):Cs X (c::l) Q fr H:=fun _ a w hF hS=>h _ a w (hg.frOk hF) (hg.st hS)
theorem z31 {c:Code}(e:TypeId)(sz:Nat)(G:Nat→Obj)(h:Cs X (c::l) Q fr ⟨H.nxt+1,(H.nxt,0+1,fam true e sz G)::H.os⟩):Cs X (c::l) Q fr H:=fun β a w hF hS=>by
 have hag:=Env.agree_set β H.nxt (fun _=>none);refine h (β.set H.nxt fun _=>none) a w (hF.agree (Nat.le_succ H.nxt) hag) ?_;refine St.new' hS (fun k L _ he=>by cases he) (fun k k' L L' h h' he he' _=>by cases he) (fun k hk=> ?_) (fun k hk=> ?_)
 ·have:k=0:=by omega
  subst this;exact .inl ⟨rfl,rfl⟩
 ·have:k=0:=by omega
  subst this;intro i j s hi _;exact absurd hi (Nat.not_lt_zero _)
end
end Go.Sk

namespace Go.Sk
open Go.RowKit
theorem fam_gives {ρ:Nat→Nat}{o o':Bool}{e e':TypeId}{sz sz':Nat}{G G':Nat→Obj}{n m:Nat}:
  (∀k,k<n+1→z1b ρ (fam o e sz G k) (fam o' e' sz' G' k)∧(fam o' e' sz' G' k).lt m)↔((o'=true→o=true∧e'=e)∧sz'=sz)∧∀i,i<n→z1b ρ (G i) (G' i)∧(G' i).lt m:=by
 constructor
 ·intro h;refine⟨?_,fun i hi=>h (i+1) (by omega)⟩;have:=(h 0 (by omega)).1;simp only[fam,z1b,z3s] at this;exact⟨this.1,this.2.1⟩
 ·rintro⟨⟨h1,h2⟩,h3⟩ k hk
  cases k with
  |zero=>
   refine⟨?_,fun i j s hi _=>absurd hi (Nat.not_lt_zero _)⟩;simp only[fam,z1b,z3s];exact⟨h1,h2,Nat.le_refl _,fun i hi=>absurd hi (Nat.not_lt_zero _)⟩
  |succ i=>exact h3 i (by omega)
theorem fam_gives' {ρ:Nat→Nat}{o o':Bool}{e e':TypeId}{sz sz':Nat}{G G':Nat→Obj}{n m:Nat}:
  (∀k,k≤n→z1b ρ (fam o e sz G k) (fam o' e' sz' G' k)∧(fam o' e' sz' G' k).lt m)↔((o'=true→o=true∧e'=e)∧sz'=sz)∧∀i,i<n→z1b ρ (G i) (G' i)∧(G' i).lt m:=by
 rw[←fam_gives];exact⟨fun h k hk=>h k (by omega),fun h k hk=>h k (by omega)⟩
theorem fam_g0 {ρ:Nat→Nat}{o o':Bool}{e e':TypeId}{sz sz':Nat}{G G':Nat→Obj}:z1b ρ (fam o e sz G 0) (fam o' e' sz' G' 0)↔(o'=true→o=true∧e'=e)∧sz'=sz:=by
 simp only[fam,z1b,z3s];exact⟨fun h=>⟨h.1,h.2.1⟩,fun h=>⟨h.1,h.2,Nat.le_refl _,fun i hi=>absurd hi (Nat.not_lt_zero _)⟩⟩
theorem fam_l0 (o:Bool)(e:TypeId)(sz:Nat)(G:Nat→Obj)(m:Nat):(fam o e sz G 0).lt m:=fun i j s hi _=>absurd hi (Nat.not_lt_zero _)
theorem app_at (f:Nat→List SV)(n:Nat)(g:Nat→List SV):app f n g n=g 0:=by simp[app]
theorem rows_nil1:z4d 1 1 [SV.nils] 0=[SV.nils]:=rfl
theorem fam_own (o:Bool)(e:TypeId)(sz:Nat)(G:Nat→Obj):(∀k,(fam o e sz G k).own=o)↔∀i,(G i).own=o:=by
 constructor
 ·exact fun h i=>h (i+1)
 ·intro h k
  cases k with
  |zero=>rfl
  |succ i=>exact h i
theorem fam_own1 {o:Bool}{e:TypeId}{sz:Nat}{G:Nat→Obj}(h:∀i,(G i).own=o)(k:Nat):(fam o e sz G k).own=o:=(fam_own o e sz G).2 h k
theorem z47 (ρ:Nat→Nat)(o:Bool)(e:TypeId)(sz:Nat)(G:Nat→Obj):(fun k=>(fam o e sz G k).ren ρ)=fam o e sz (fun i=>(G i).ren ρ):=by
 funext k
 cases k<;>rfl
theorem fam_givesP {π:Pn}{o o':Bool}{e e':TypeId}{sz sz':Nat}{G G':Nat→Obj}{c c' f id j m:Nat}(hid:id=f)(h1:(o'=true→o=true∧e'=e)∧sz'=sz)(h0:0<c)(h:∀i,i+1<c'→i≠j→i+1<c∧zn π (G i) (G' i)∧(G' i).lt m):
  ∀k,k<c'→¬(id=f∧k=j+1)→k<c∧zn π (fam o e sz G k) (fam o' e' sz' G' k)∧(fam o' e' sz' G' k).lt m:=by
 intro k hk hn
 cases k with
 |zero=>
  refine⟨h0,?_,fun i j s hi _=>absurd hi (Nat.not_lt_zero _)⟩;simp only[fam,zn,zm];exact⟨h1.1,h1.2,Nat.le_refl _,fun i hi=>absurd hi (Nat.not_lt_zero _)⟩
 |succ i=>exact h i hk fun e=>hn ⟨hid,by omega⟩
theorem z1f {ρ:Nat→Nat}{f j a m:Nat}{os l:List (Nat×Nat×(Nat→Obj))}{id c:Nat}{F:Nat→Obj}{o':Obj}(hf:find os (ρ id)=some (c,F))(hc:0<c)(hid:id≠f)(h:zn (mvP ρ f j a) (F 0) o')(hl:o'.lt m)(hm:id<m)(ht:z1m ρ f j a m os l):z1m ρ f j a m os ((id,uQ o')::l):=by
 refine⟨⟨?_,fun e=>absurd e hid⟩,hm,ht⟩;rw[hf];intro k hk _
 have hk0:k=0:=by
  have:k<1:=hk;omega
 subst hk0;exact⟨hc,h,hl⟩
theorem z4g {ρ:Nat→Nat}{f j a m:Nat}{os l:List (Nat×Nat×(Nat→Obj))}{c c' ca:Nat}{Fa:Nat→Obj}{o o':Bool}{e e':TypeId}{sz sz':Nat}{G G':Nat→Obj}(hf:find os (ρ f)=some (c,fam o e sz G))(hfa:find os a=some (ca,Fa))(hca:0<ca)
  (h1:(o'=true→o=true∧e'=e)∧sz'=sz) (h0:0<c) (h:∀i,i+1<c'→i≠j→i+1<c∧zn (mvP ρ f j a) (G i) (G' i)∧(G' i).lt m) (ha:zn (mvP ρ f j a) (Fa 0) (G' j)) (hal:(G' j).lt m) (hm:f<m) (ht:z1m ρ f j a m os l):
  z1m ρ f j a m os ((f,(c',fam o' e' sz' G'))::l):=by
 refine⟨⟨?_,fun _=> ?_⟩,hm,ht⟩
 ·rw[hf];exact fam_givesP rfl h1 h0 h
 ·rw[hfa];exact⟨hca,ha,hal⟩
theorem z1m.consO {ρ:Nat→Nat}{f j a m:Nat}{os l:List (Nat×Nat×(Nat→Obj))}{id c c':Nat}{o o':Bool}{e e':TypeId}{sz sz':Nat}{G G':Nat→Obj}(hf:find os (ρ id)=some (c,fam o e sz G))(hid:id≠f)
  (h1:(o'=true→o=true∧e'=e)∧sz'=sz) (hc:c'≤c) (h:∀i,i+1<c'→zn (mvP ρ f j a) (G i) (G' i)∧(G' i).lt m) (hm:id<m) (ht:z1m ρ f j a m os l):
  z1m ρ f j a m os ((id,(c',fam o' e' sz' G'))::l):=by
 refine⟨⟨?_,fun e=>absurd e hid⟩,hm,ht⟩;rw[hf];intro k hk _
 cases k with
 |zero=>
  refine⟨by omega,?_,fun i j s hi _=>absurd hi (Nat.not_lt_zero _)⟩;simp only[fam,zn,zm];exact⟨h1.1,h1.2,Nat.le_refl _,fun i hi=>absurd hi (Nat.not_lt_zero _)⟩
 |succ i=>exact⟨by omega,h i hk⟩
theorem zm.of {π:Pn}{r r':Row}(h1:r'.own=true→r.own=true∧r'.e=r.e)(h2:r'.sz=r.sz)(h3:r'.n≤r.n)(h4:∀i,i<r'.n→r.f i=SV.renPL π (r'.f i)):zn π (.row r) (.row r'):=⟨h1,h2,h3,h4⟩
end Go.Sk

namespace Go.Proofs
open Go.Sk
theorem Tryz.tyNodess:z1l Tryz.prog 131=⟨true,.slice 23,1,24,[]⟩:=by kernel_rfl
theorem Tryz.szNodess:z29 Tryz.prog 131=1:=by kernel_rfl
def cnd (cs:List (List Nd))(i:Nat):List Nd:=cs.getD i []
def clR (g:Bool)(f:Nat)(cs:List (List Nd)):Nat→List SV:=fun i=>[.slc g f (i+1) 0 (cnd cs i).length]
def clF (o:Bool)(cs:List (List Nd)):Nat→Sk.Obj:=fun i=> .row ⟨o,false,62,3,(cnd cs i).length,nds (cnd cs i)⟩
theorem clR_ap (g:Bool)(f:Nat)(cs:List (List Nd))(i:Nat):clR g f cs i=[.slc g f (i+1) 0 (cnd cs i).length]:=rfl
theorem clR_fold (g:Bool)(f:Nat)(cs:List (List Nd)):(fun i=>[SV.slc g f (i+1) 0 (cnd cs i).length])=clR g f cs:=rfl
theorem clF_ap (o:Bool)(cs:List (List Nd))(i:Nat):clF o cs i= .row ⟨o,false,62,3,(cnd cs i).length,nds (cnd cs i)⟩:=rfl
theorem clR_ren (ρ:Nat→Nat)(g:Bool)(f:Nat)(cs:List (List Nd)):(fun i=>SV.renL ρ (clR g f cs i))=clR g (ρ f) cs:=by funext i;simp[clR,SV.renL,SV.ren]
theorem clR_ren' (ρ:Nat→Nat)(g:Bool)(f:Nat)(cs:List (List Nd))(i:Nat):SV.renL ρ (clR g f cs i)=clR g (ρ f) cs i:=congrFun (clR_ren ρ g f cs) i
theorem clR_lt (m:Nat)(g:Bool)(f:Nat)(cs:List (List Nd))(i:Nat):SV.ltL m (clR g f cs i)↔f<m:=by simp[clR,SV.ltL,SV.lt]
theorem clF_gives (ρ:Nat→Nat)(o o':Bool)(cs:List (List Nd))(i:Nat):z1b ρ (clF o cs i) (clF o' cs i)↔(o'=true→o=true):=by
 simp[clF,z1b,z3s,nds_ren']
theorem clFm_lt (m:Nat)(o:Bool)(cs:List (List Nd))(i:Nat):(clF o cs i).lt m:=Obj.lt_row.2 fun q _=>nds_lt m _ q
theorem clF_own (o:Bool)(cs:List (List Nd))(i:Nat):(clF o cs i).own=o:=rfl
theorem clF_fown (o:Bool)(e:Go.TypeId)(sz:Nat)(cs:List (List Nd))(k:Nat):(fam o e sz (clF o cs) k).own=o:=fam_own1 (clF_own o cs) k
theorem clF_ren (ρ:Nat→Nat)(o:Bool)(cs:List (List Nd)):(fun i=>(clF o cs i).ren ρ)=clF o cs:=by
 funext i;simp[clF,Obj.ren,Row.ren,z2g]
theorem cnd_lt {cs:List (List Nd)}{i:Nat}(h:i<cs.length):cnd cs i=cs[i]:=by simp[cnd,List.getD,h]
noncomputable def lvBox (lv:Int):Nat×(Nat→Sk.Obj):=uQ (.row ⟨false,true,3,1,1,fun _=>[.int .i64 lv]⟩)
noncomputable def ndBox (x:Nd):Nat×(Nat→Sk.Obj):=uQ (.row ⟨false,true,62,3,1,fun _=>[.int .i64 x.id,.str x.key,.int .u32 x.word]⟩)
theorem z2y (π:Pn)(xs:List Nd)(i:Nat):SV.renPL π (nds xs i)=nds xs i:=by simp[nds,Nd.sv,SV.renPL,SV.renP]
theorem clR_renP (ρ:Nat→Nat)(g:Bool)(f j a:Nat)(cs:List (List Nd))(i:Nat):SV.renPL (mvP ρ f j a) (clR g f cs i)=if i=j then [.slc g a 0 0 (cnd cs i).length] else [.slc g (ρ f) (i+1) 0 (cnd cs i).length]:=by
 simp only[clR,SV.renPL,SV.renP,mvP,true_and,Nat.add_right_cancel_iff]
 split<;>rfl
theorem clF_givesP (π:Pn)(o o':Bool)(cs cs':List (List Nd))(i:Nat)(h:o'=true→o=true)(e:cnd cs' i=cnd cs i):zn π (clF o cs i) (clF o' cs' i):=⟨fun h2=>⟨h h2,rfl⟩,rfl,by rw[e];exact Nat.le_refl _,fun q _=>by rw[e];exact(z2y π _ q).symm⟩
theorem clF_newP (π:Pn)(n:Nat)(l:List Nd)(cs:List (List Nd))(i:Nat)(hn:l.length=n)(e:cnd cs i=l):zn π (.row ⟨true,false,62,3,n,nds l⟩) (clF true cs i):=⟨fun _=>⟨rfl,rfl⟩,rfl,by rw[e,hn];exact Nat.le_refl _,fun q _=>by rw[e];exact(z2y π _ q).symm⟩
theorem cnd_append {cs:List (List Nd)}{c:List Nd}{i:Nat}(h:i<cs.length):cnd (cs++[c]) i=cnd cs i:=by simp[cnd,List.getD,List.getElem?_append_left h]
theorem cnd_last (cs:List (List Nd))(c:List Nd):cnd (cs++[c]) cs.length=c:=by simp[cnd,List.getD]
theorem cnd_set (cs:List (List Nd))(k i:Nat)(c:List Nd)(h:k<cs.length):cnd (cs.set k c) i=if i=k then c else cnd cs i:=by
 simp only[cnd,List.getD,List.getElem?_set]
 by_cases e:k=i
 ·subst e;simp[h]
 ·rw[if_neg e,if_neg (fun h=>e h.symm)]
def ec21:=aj @ndBox.eq_1 @lvBox.eq_1
def ec22:=aj @Tryz.tyNodess @Tryz.szNodess
def ec23:=aj @clR_ap @clF_ap
def ec24:=aj @rowsOf_nd' @app_ndsL
def InEm.exE:=aj @zg (aj @zi (aj @zj (aj @zu (aj @zl (aj ec13 (aj @zw (aj z40 (aj z4t (aj ec21 (aj ec22 (aj @z26 (aj ec23 ec24))))))))))))
def ec25:=aj @clR_ren' (aj @clR_lt (aj @clF_gives (aj @clFm_lt @clF_fown)))
def ec26:=aj @fam_gives (aj @fam_gives' @fam_own)
def InEm.gxE:=aj z40 (aj ec16 (aj z4t (aj ec21 (aj ec25 ec26))))
def ec27:=aj @clF_ren @clR_ren
def InEm.axE:=aj @zg (aj @zi (aj @zj (aj @zu (aj @zl (aj ec13 (aj @zw (aj z40 (aj z4t (aj ec21 (aj ec22 (aj @z26 (aj ec24 (aj @z2g (aj @z47 ec27))))))))))))))
open InEm (gxE axE exE)
open D0 (oxE sdE)
theorem clsTest_spec (cs:List (List Nd))(k:Nat)(x:Nd)(lv:Int)(hk:k<cs.length)(hne:cnd cs k≠[]):
  zf Tryz.prog 126 [.slc true 0 (k+1) 0 (cnd cs k).length,.ptr 1 0 0 0,.ptr 2 0 0 0] ⟨3,[(0,(cs.length+1,fam false 62 3 (clF false cs))),(1,ndBox x),(2,lvBox lv)]⟩
   (fun s H1=>s= .bool (z3x (hdN (cnd cs k)).word x.word lv)∧H1=⟨3,[]⟩):=by
 have hl:0<(cnd cs k).length:=List.length_pos_iff.2 hne;unfold ndBox lvBox;refine zf.ofC false 13 [.tmp 4] Tryz.func126 rfl rfl Tryz.ntmps126 Tryz.results126 rfl ?_;intro w0 own0 β0 Q hQ hQn;simp only[z16];refine Zrs [0,1,2] ?_;refine z6 ?_;refine Zrd [4] [0,1,2,3,4,5,6,7,8] [[],[],[],[],[],[],[],[0,1,2],[]] [[],[],[],[],[],[],[],[0,1,2],[0,1,2]] ?_;intro K hK;iterate 7 (refine Zo (Zi [] []) ?_)
 refine Zo (Zi [0,1,2] [0,1,2]) ?_;refine Zc1 (same_w_spec (nd (cnd cs k) 0).word x.word lv) (id) ?_;refine Zo (Zi [] [0,1,2]) ?_;refine zz (Zpr (hK _ _ ?_));clear hK K;refine zd (hQ _ _ ?_);refine zb (H':=⟨3,[]⟩) (.inl rfl) ?_;refine Zou ?_;refine⟨Zs,(Zg id),Zs,?_⟩
 all_goals first|trivial|exact⟨rfl,trivial⟩
theorem clsIndex_spec (cs:List (List Nd))(n:Nat)(hn:cs.length=n)(x:Nd)(lv:Int)(hx:n≤1000000)(hne:∀k,k<cs.length→cnd cs k≠[]):
  zf Tryz.prog 125 [.slc false 0 0 0 n,.fn 126 [.ptr 2 0 0 0,.ptr 3 0 0 0]] ⟨4,[(0,uQ (.row ⟨false,false,23,1,n,clR true 1 cs⟩)),(1,(n+1,fam false 62 3 (clF false cs))),(2,ndBox x),(3,lvBox lv)]⟩
   (fun s H1=>s= .int .i64 (idxB n fun i=>z3x (hdN (cnd cs i)).word x.word lv)∧H1=⟨4,[]⟩):=by
 subst hn;refine zf.ofC false 19 [.tmp 4] Tryz.func125 rfl rfl Tryz.ntmps125 Tryz.results125 rfl ?_;intro w0 own0 β0 Q hQ hQn;simp only[z16];refine Zrs [0,1] ?_;refine z6 ?_;refine Zrs [0,1,7,8] ?_;refine zc fun Q0 hN0 hX0 hR0 hE0=> ?_;refine zr (σ:=Nat) (fun i=>i≤cs.length∧∀q,q<i→z3x (hdN (cnd cs q)).word x.word lv=false) (fun i=>cs.length-i) (fun i=>[(0,.slc false 0 0 0 cs.length),(1,.fn 126 [.ptr 2 0 0 0,.ptr 3 0 0 0]),(7,.int .i64 cs.length),(8,.int .i64 i)]) (fun _=>⟨4,[(0,uQ (.row ⟨false,false,23,1,cs.length,clR true 1 cs⟩)),(1,(cs.length+1,fam false 62 3 (clF false cs))),(2,ndBox x),(3,lvBox lv)]⟩) 0 ⟨Nat.zero_le _,fun q h=>by omega⟩ (ρ:=id) (have xE:=aj @ndBox.eq_1 @lvBox.eq_1;Zgx id) ?_;rintro i hi QL1 hL1 hRL1 hEL1;refine Zrs [0,1,7,8,9] ?_;refine z6 ?_;refine z7 _ rfl ?_ ?_
 ·intro h9;replace h9:=Znb h9;obtain⟨hi1,hi2⟩:=hi;refine za (z6 (zc fun Q1 hN1 hX1 hR1 hE1=> ?_));refine Zrs [0,1,5,7,8] ?_;refine sg [0,1,5,7,8,16] rfl ?_;intro K hK;iterate 5 (refine Zo Zl ?_)
  refine Zo Zl ?_;refine Zc1 (clsTest_spec cs i x lv (by omega) (hne i (by omega))) (fun q=>q+1) ?_;refine z8 (Zpr (hK _ _ ?_));clear hK K;refine z7 _ rfl ?_ ?_
  ·intro h16
   try replace h16:=Znb h16
   refine Zrs [4] ?_;refine zd (hR1 _ _ (hRL1 _ _ (hR0 _ _ (hQ _ _ ?_))));refine zb (H':=⟨4,[]⟩) (.inl rfl) ?_;refine Zou ?_;refine⟨Zs,(Zg id),Zs,?_⟩;rw[idxB_at (p:=fun i=>z3x (hdN (cnd cs i)).word x.word lv) h16 (by omega) hi2];exact⟨rfl,by trivial⟩
  ·intro h16
   try replace h16:=Znb h16
   refine za (ze (hN1 _ _ ?_));refine Zrg [0,1,7,8] ?_;refine ze (hL1 _ _ ?_);rw[show(i:Int)+1=((i+1:Nat):Int) from by omega];refine⟨i+1,⟨⟨by omega,fun q hq=> ?_⟩,by omega⟩,id,(have xE:=aj @ndBox.eq_1 @lvBox.eq_1;Zgx id)⟩
   by_cases e:q=i
   ·subst e;exact h16
   ·exact hi2 q (by omega)
 ·intro h9;replace h9:=Znb h9;obtain⟨hi1,hi2⟩:=hi;refine zo (hEL1 _ _ _ (hX0 _ _ ?_));refine Zrs [4] ?_;refine zd (hQ _ _ ?_);refine zb (H':=⟨4,[]⟩) (.inl rfl) ?_;refine Zou ?_;refine⟨Zs,(Zg id),Zs,?_⟩;rw[idxB_none (p:=fun i=>z3x (hdN (cnd cs i)).word x.word lv) fun q hq=>hi2 q (by omega)];exact⟨rfl,by trivial⟩
end Go.Proofs

namespace Go.Sk
open Go.RowKit
def shP (ρ:Nat→Nat)(f:Nat)(μ:Nat→Nat):Pn:=fun id k=>(ρ id,if id=f then μ k else k)
end Go.Sk

namespace Go.Sk
open Go.RowKit
structure GpQ (X:Cx) (π:Pn) (fr:Fr) (H:AH) (fr1:Fr) (H1:AH):Prop where
 a1:frGivesP π H1.nxt fr fr1
 a4:ownU H1.os
 a7:∀x∈H.os,x.1<X.m0→∀k,(x.2.2 k).own=(x.2.2 0).own
 a8:keepB X.m0 H.os H1.os
structure GpR (X:Cx) (ρ:Nat→Nat) (f:Nat) (H1:AH):Prop where
 a3:injB ρ H1.os=true
 a5:(List.range X.m0).all (fun id=>ρ id==id)=true
 a6:X.m0≤H1.nxt
 a6f:X.m0≤f
 a9:bigB X.m0 ρ H1.os=true
structure GpA (X:Cx) (ρ:Nat→Nat) (a:Nat) (H1:AH):Prop where
 a4a:(H1.os.all fun x=> !(ρ x.1==a))=true
 a6a:X.m0≤a
theorem gpS {X:Cx}{fr:Fr}{H:AH}{fr1:Fr}{H1:AH}(ρ:Nat→Nat)(f j a:Nat)(a2:z1m ρ f j a H1.nxt H.os H1.os)(q:GpQ X (mvP ρ f j a) fr H fr1 H1)(r:GpR X ρ f H1)(t:GpA X ρ a H1):z54 X (mvP ρ f j a) fr H fr1 H1:=
 z54.mk' ρ f j a q.a1 a2 r.a3 q.a4 t.a4a r.a5 r.a6 r.a6f t.a6a q.a7 q.a8 r.a9
end Go.Sk

namespace Go.Sk
open Go.RowKit Go.Proofs
theorem Zu {a:Prop}(h:a:=by simp[frGivesP,Sk.get,SV.renP,SV.renPL,mvP,shP,SV.lt,SV.ltL,ownU,uQ,keepB,Sk.find,Obj.own.eq_1,Obj.own.eq_2,Obj.own.eq_3,Obj.own.eq_4,gxE]):a:=h
theorem Zgp {X:Cx}{fr:Fr}{H:AH}{fr1:Fr}{H1:AH}(ρ:Nat→Nat)(f j a:Nat)(a2:z1m ρ f j a H1.nxt H.os H1.os)(q:GpQ X (mvP ρ f j a) fr H fr1 H1:=by constructor<;>exact Zu)(r:GpR X ρ f H1:=by exact⟨rfl,rfl,Nat.le_of_ble_eq_true rfl,Nat.le_of_ble_eq_true rfl,rfl⟩)(t:GpA X ρ a H1:=by exact⟨rfl,Nat.le_of_ble_eq_true rfl⟩):z54 X (mvP ρ f j a) fr H fr1 H1:=gpS ρ f j a a2 q r t
end Go.Sk

namespace Go.Proofs
open Go.Sk
theorem insC_len (lv:Int)(x:Nd):∀cs:List (List Nd),(insC lv x cs).length≤cs.length+1
 |[]=>Nat.le_refl _
 |c::cs=>by
  rw[insC];split
  ·simp
  ·have:=insC_len lv x cs;simp;omega
theorem clsG_snoc (lv:Int)(l:List Nd)(x:Nd)(cs:List (List Nd)):clsG lv (l++[x]) cs=insC lv x (clsG lv l cs):=by simp[clsG]
theorem insC_new {lv:Int}{x:Nd}:∀{cs:List (List Nd)},(∀q,q<cs.length→z3x (hdN (cnd cs q)).word x.word lv=false)→insC lv x cs=cs++[[x]]
 |[],_=>rfl
 |c::cs,h=>by
  have h0:=h 0 (by simp);rw[insC,if_neg (by rw[show hdN c=hdN (cnd (c::cs) 0) from rfl,h0];exact Bool.false_ne_true),insC_new fun q hq=>h (q+1) (by simp;omega)]
  rfl
theorem insC_old {lv:Int}{x:Nd}:∀{cs:List (List Nd)} {k:Nat},k<cs.length→z3x (hdN (cnd cs k)).word x.word lv=true→(∀q,q<k→z3x (hdN (cnd cs q)).word x.word lv=false)→insC lv x cs=cs.set k (cnd cs k++[x])
 |[],k,h,_,_=>by simp at h
 |c::cs,0,_,h,_=>by rw[insC,if_pos (by exact h)];rfl
 |c::cs,k+1,hk,h,h2=>by
  have h0:=h2 0 (by omega);rw[insC,if_neg (by rw[show hdN c=hdN (cnd (c::cs) 0) from rfl,h0];exact Bool.false_ne_true),insC_old (k:=k) (by simpa using hk) h fun q hq=>h2 (q+1) (by omega)]
  rfl
theorem clsG_len' (lv:Int):∀(l:List Nd) (cs:List (List Nd)),(clsG lv l cs).length≤cs.length+l.length
 |[],cs=>Nat.le_refl _
 |x::l,cs=>by
  have h1:=clsG_len' lv l (insC lv x cs);have h2:=insC_len lv x cs
  show(clsG lv l (insC lv x cs)).length≤_
  simp;omega
theorem clsG_len (lv:Int)(xs:List Nd){i:Nat}(hi:i≤xs.length){cs:List (List Nd)}(h:clsG lv (xs.take i) []=cs):cs.length≤i:=by
 have:=clsG_len' lv (xs.take i) [];rw[h] at this;simp at this;omega
def ec28:=aj @app_at @rows_nil1
def InFm.exE:=aj @zg (aj @zi (aj @zj (aj @zu (aj @zl (aj ec13 (aj @zw (aj z40 (aj z4t (aj ec28 (aj ec21 (aj ec22 (aj @z26 (aj ec23 ec24)))))))))))))
def ec29:=aj @fam_g0 @fam_l0
def InFm.gxE:=aj z40 (aj ec16 (aj z4t (aj ec21 (aj ec25 (aj ec26 ec29)))))
def InFm.axE:=aj @zg (aj @zi (aj @zj (aj @zu (aj @zl (aj ec13 (aj @zw (aj z40 (aj z4t (aj ec28 (aj ec21 (aj ec22 (aj @z26 (aj ec24 (aj @z2g (aj @z47 ec27)))))))))))))))
open InFm (gxE axE exE)
open D0 (oxE sdE)
theorem classes_spec (xs:List Nd)(n:Nat)(hn:xs.length=n)(lv:Int)(hx:n≤1000000):
  zf Tryz.prog 88 [.slc false 0 0 0 n,.int .i64 lv] ⟨1,[(0,uQ (.row ⟨false,false,62,3,n,nds xs⟩))]⟩
   (fun s H1=>s= .slc true 1 0 0 (z4k xs lv).length∧H1=⟨3,[(1,uQ (.row ⟨true,false,23,1,(z4k xs lv).length,clR true 2 (z4k xs lv)⟩)),(2,((z4k xs lv).length+1,fam true 62 3 (clF true (z4k xs lv))))]⟩):=by
 subst hn;refine zf.ofC false 39 [.tmp 4] Tryz.func88 rfl rfl Tryz.ntmps88 Tryz.results88 rfl ?_;intro w0 own0 β0 Q hQ hQn;simp only[z16];refine Zrs [0,3] ?_;refine z6 ?_;refine Zrs [0,3,10] ?_;refine z7 _ rfl ?_ ?_
 ·intro h10;replace h10:=Znb h10;refine Zrs [4] ?_;refine z2f 4 23 1 (clR true 3 []) rfl ?_;dsimp only;refine z31 62 3 (clF true []) ?_;dsimp only;refine zd (hQ _ _ ?_);rw[show z4k xs lv=[] by rw[z4k,if_pos h10]];refine zp (fun q=>if q=1 then 2 else if q=2 then 3 else q) (.slc true 1 0 0 ([]:List (List Nd)).length) (⟨3,[(1,uQ (.row ⟨true,false,23,1,([]:List (List Nd)).length,clR true 2 []⟩)),(2,(([]:List (List Nd)).length+1,fam true 62 3 (clF true [])))]⟩) (.inl rfl) ?_;refine Zou ?_;refine⟨Zs,Zs,(Zg (fun q=>if q=1 then 2 else if q=2 then 3 else q)),Zs,?_⟩
  all_goals first|trivial|exact⟨rfl,trivial⟩
 ·intro h10;replace h10:=Znb h10;refine za ?_;refine Zrs [0,3,5] ?_;refine z6 ?_;refine Zrs [3,5,11,12,13] ?_;refine z2f 5 23 1 (clR true 3 []) rfl ?_;dsimp only;refine z31 62 3 (clF true []) ?_;dsimp only;refine zc fun Q0 hN0 hX0 hR0 hE0=> ?_;refine zr (σ:=Nat) (fun i=>i≤xs.length) (fun i=>xs.length-i) (fun i=>[(3,.ptr 1 0 0 0),(5,.slc true 2 0 0 (clsG lv (xs.take i) []).length),(11,.slc false 0 0 0 xs.length),(12,.int .i64 xs.length),(13,.int .i64 i)]) (fun i=>⟨4,[(2,uQ (.row ⟨true,false,23,1,(clsG lv (xs.take i) []).length,clR true 3 (clsG lv (xs.take i) [])⟩)),(3,((clsG lv (xs.take i) []).length+1,fam true 62 3 (clF true (clsG lv (xs.take i) [])))),(1,uQ (.row ⟨true,true,3,1,1,fun _=>[.int .i64 lv]⟩)),(0,uQ (.row ⟨false,false,62,3,xs.length,nds xs⟩))]⟩) 0 (Nat.zero_le _) (ρ:=id) (have xE:=@clsG.eq_1;Zgx id) ?_;rintro i hi QL1 hL1 hRL1 hEL1;refine Zrs [3,5,11,12,13,14] ?_;refine z6 ?_;refine z7 _ rfl ?_ ?_
  ·intro h14;replace h14:=Znb h14;have hok:=clsG_ok (by omega:lv≤16) (xs.take i) (s:=[]) (cs:=[]) ⟨fun c h=>(by cases h),fun c h=>(by cases h),List.Pairwise.nil⟩ fun y h=>(by cases h);obtain⟨cs,hcs⟩:∃cs,clsG lv (xs.take i) []=cs:=⟨_,rfl⟩;rw[hcs] at hok ⊢;have hne:∀k,k<cs.length→cnd cs k≠[]:=fun k hk=>by rw[cnd_lt hk];exact hok.1.ne _ (List.getElem_mem hk)
   have hcl:cs.length≤i:=clsG_len lv xs hi hcs;refine za (z6 (zc fun Q1 hN1 hX1 hR1 hE1=> ?_));refine Zrs [3,5,7,11,12,13] ?_;refine sg [3,5,7,8,11,12,13] rfl ?_;intro K hK;iterate 2 (refine Zo Zl ?_)
   refine Zo Zl ?_;refine Zc1 (clsIndex_spec cs cs.length rfl (nd xs i) lv (by omega) hne) (fun q=>if q=0 then 2 else if q=1 then 3 else if q=2 then 4 else 1) ?_;refine Zo Zl ?_;refine z8 (Zpr (hK _ _ ?_));clear hK K;refine z6 ?_;refine Zrs [3,5,7,8,11,12,13,21] ?_;refine z7 _ rfl ?_ ?_
   ·intro h21
    have hnone:∀q,q<cs.length→z3x (hdN (cnd cs q)).word (nd xs i).word lv=false:=by
     rcases z34 cs.length (fun q=>z3x (hdN (cnd cs q)).word (nd xs i).word lv) with⟨_,h⟩|⟨j,h,_⟩
     ·exact h
     ·simp only[h,decide_eq_true_eq] at h21;omega
    refine Zrs [3,5,7,8,11,12,13] ?_;refine Zrg [3,5,7,8,11,12,13] ?_;refine Zrd [3,5,11,12,13] [0,1,2,3,4,5,6,7,8,9,10] [[],[],[],[],[],[],[],[],[],[],[6]] [[],[],[],[],[],[],[],[],[],[],[6]] ?_;intro K hK;iterate 10 (refine Zo (Zi [] []) ?_)
    refine Zo (Zi [6] [6]) ?_;refine zz (Zpr (hK _ _ ?_));clear hK K;refine ze (hN1 _ _ ?_);have hins:insC lv (nd xs i) cs=cs++[[nd xs i]]:=insC_new hnone
    have hout:∀q,q<cs.length+1→(if q=cs.length then [SV.slc true 8 0 0 1] else app (clR true 3 cs) cs.length (z4d 1 1 [SV.nils]) q)=SV.renPL (mvP (fun q=>if q=2 then 6 else q) 3 cs.length 8) (clR true 3 (cs++[[nd xs i]]) q):=fun q hq=>by
     rw[clR_renP]
     split
     ·rename_i e;subst e;rw[cnd_last];rfl
     ·rw[cnd_append (by omega),app,if_pos (by omega)];rfl
    refine z4f (fr':=[(3,.ptr 1 0 0 0),(5,.slc true 2 0 0 (cs.length+1)),(11,.slc false 0 0 0 xs.length),(12,.int .i64 xs.length),(13,.int .i64 i)]) (H':=⟨4,[(2,uQ (.row ⟨true,false,23,1,cs.length+1,clR true 3 (cs++[[nd xs i]])⟩)),(3,(cs.length+1+1,fam true 62 3 (clF true (cs++[[nd xs i]])))),(1,uQ (.row ⟨true,true,3,1,1,fun _=>[.int .i64 lv]⟩)),(0,uQ (.row ⟨false,false,62,3,xs.length,nds xs⟩))]⟩) _ (Zgp (fun q=>if q=2 then 6 else q) (3) (cs.length) (8) (z1f rfl Nat.zero_lt_one (by decide) (zm.of (fun _=>⟨rfl,rfl⟩) rfl (Nat.le_refl _) hout) (Obj.lt_row.2 fun q _=>(clR_lt _ _ _ _ q).2 (Nat.le_of_ble_eq_true rfl)) (Nat.le_of_ble_eq_true rfl) (z4g rfl rfl Nat.zero_lt_one ⟨fun _=>⟨rfl,rfl⟩,rfl⟩ (Nat.succ_pos _) (fun q hq hne=>⟨by omega,clF_givesP _ _ _ _ _ _ id (cnd_append (by omega)),clFm_lt _ _ _ _⟩) (clF_newP _ _ _ _ _ rfl (cnd_last _ _)) (clFm_lt _ _ _ _) (Nat.le_of_ble_eq_true rfl) (z1f rfl Nat.zero_lt_one (by decide) (zm.of (fun _=>⟨rfl,rfl⟩) rfl (Nat.le_refl _) fun _ _=>rfl) (Obj.lt_row.2 fun q _=>by simp[SV.ltL,SV.lt]) (Nat.le_of_ble_eq_true rfl) (z1f rfl Nat.zero_lt_one (by decide) (zm.of (fun h=>by cases h) rfl (Nat.le_refl _) fun q _=>(z2y _ _ q).symm) (Obj.lt_row.2 fun q _=>nds_lt _ _ q) (Nat.le_of_ble_eq_true rfl) trivial))))) ?_;refine Zrg [3,5,11,12,13] ?_;refine ze (hL1 _ _ ?_);have hstep:clsG lv (xs.take (i+1)) []=cs++[[nd xs i]]:=by rw[take_nd (by omega),clsG_snoc,hcs,hins]
    rw[show(i:Int)+1=((i+1:Nat):Int) from by omega];refine⟨i+1,⟨by omega,by omega⟩,id,?_⟩;simp only[hstep,List.length_append,List.length_singleton];exact(Zg id)
   ·intro h21
    obtain⟨k,hk1,hk2,hk3,hk4⟩:∃k:Nat,idxB cs.length (fun q=>z3x (hdN (cnd cs q)).word (nd xs i).word lv)=k∧k<cs.length∧z3x (hdN (cnd cs k)).word (nd xs i).word lv=true∧∀q,q<k→z3x (hdN (cnd cs q)).word (nd xs i).word lv=false:=by
     rcases z34 cs.length (fun q=>z3x (hdN (cnd cs q)).word (nd xs i).word lv) with⟨h,_⟩|⟨j,h,h2,h3,h4⟩
     ·simp[h] at h21
     ·exact⟨j,h,h2,h3,h4⟩
    rw[hk1]
    have hml:(cnd cs k).length≤i:=by
     have h1:=hok.1.eq (cnd cs k) (by rw[cnd_lt hk2];exact List.getElem_mem hk2);have h2:(grpW ([]++xs.take i) lv (hdN (cnd cs k)).word).length≤([]++xs.take i).length:=List.length_filter_le ..;rw[←h1] at h2;simp at h2;omega
    refine za ?_;refine Zrd [3,5,11,12,13] [0,1,2,3,4,5,6,7,8,9,10] [[],[],[],[],[],[],[],[],[3],[],[2]] [[3],[3],[],[],[],[],[],[],[3],[3],[2,3]] ?_;intro K hK;iterate 2 (refine Zo (Zi [] [3]) ?_)
    iterate 6 (refine Zo (Zi [] []) ?_)
    refine Zo (Zi [3] [3]) ?_;refine Zo (Zi [] [3]) ?_;refine Zo (Zi [2] [2,3]) ?_;refine zz (Zpr (hK _ _ ?_));clear hK K;refine ze (hN1 _ _ ?_);have hins:=insC_old hk2 hk3 hk4
    have hout:∀q,q<cs.length→(if q=k then [SV.slc true 6 0 0 ((cnd cs k).length+1)] else clR true 3 cs q)=SV.renPL (mvP id 3 k 6) (clR true 3 (cs.set k (cnd cs k++[nd xs i])) q):=fun q hq=>by
     rw[clR_renP,cnd_set _ _ _ _ hk2]
     split
     ·simp
     ·rfl
    refine z4f (fr':=[(3,.ptr 1 0 0 0),(5,.slc true 2 0 0 cs.length),(11,.slc false 0 0 0 xs.length),(12,.int .i64 xs.length),(13,.int .i64 i)]) (H':=⟨4,[(2,uQ (.row ⟨true,false,23,1,cs.length,clR true 3 (cs.set k (cnd cs k++[nd xs i]))⟩)),(3,(cs.length+1,fam true 62 3 (clF true (cs.set k (cnd cs k++[nd xs i]))))),(1,uQ (.row ⟨true,true,3,1,1,fun _=>[.int .i64 lv]⟩)),(0,uQ (.row ⟨false,false,62,3,xs.length,nds xs⟩))]⟩) _ (Zgp (id) (3) (k) (6) (z1f rfl Nat.zero_lt_one (by decide) (zm.of (fun _=>⟨rfl,rfl⟩) rfl (Nat.le_refl _) hout) (Obj.lt_row.2 fun q _=>(clR_lt _ _ _ _ q).2 (Nat.le_of_ble_eq_true rfl)) (Nat.le_of_ble_eq_true rfl) (z4g rfl rfl Nat.zero_lt_one ⟨fun _=>⟨rfl,rfl⟩,rfl⟩ (Nat.succ_pos _) (fun q hq hne=>⟨by omega,by rw[if_neg hne];exact clF_givesP _ _ _ _ _ _ id (by rw[cnd_set _ _ _ _ hk2,if_neg hne]),clFm_lt _ _ _ _⟩) (clF_newP _ _ _ _ _ (by simp) (by rw[cnd_set _ _ _ _ hk2,if_pos rfl])) (clFm_lt _ _ _ _) (Nat.le_of_ble_eq_true rfl) (z1f rfl Nat.zero_lt_one (by decide) (zm.of (fun _=>⟨rfl,rfl⟩) rfl (Nat.le_refl _) fun _ _=>rfl) (Obj.lt_row.2 fun q _=>by simp[SV.ltL,SV.lt]) (Nat.le_of_ble_eq_true rfl) (z1f rfl Nat.zero_lt_one (by decide) (zm.of (fun h=>by cases h) rfl (Nat.le_refl _) fun q _=>(z2y _ _ q).symm) (Obj.lt_row.2 fun q _=>nds_lt _ _ q) (Nat.le_of_ble_eq_true rfl) trivial))))) ?_;refine Zrg [3,5,11,12,13] ?_
    refine ze (hL1 _ _ ?_);have hstep:clsG lv (xs.take (i+1)) []=cs.set k (cnd cs k++[nd xs i]):=by rw[take_nd (by omega),clsG_snoc,hcs,hins]
    rw[show(i:Int)+1=((i+1:Nat):Int) from by omega];refine⟨i+1,⟨by omega,by omega⟩,id,?_⟩;simp only[hstep,List.length_set];exact(Zg id)
  ·intro h14
   refine zo (hEL1 _ _ _ (hX0 _ _ ?_));refine Zrs [4] ?_;refine zd (hQ _ _ ?_)
   have he:clsG lv (xs.take i) []=z4k xs lv:=by
    have h14':¬(i:Int)<xs.length:=by simpa using h14
    rw[List.take_of_length_le (by omega),z4k,if_neg (by omega)]
   rw[he];refine zp (fun q=>if q=1 then 2 else if q=2 then 3 else q) (.slc true 1 0 0 (z4k xs lv).length) (⟨3,[(1,uQ (.row ⟨true,false,23,1,(z4k xs lv).length,clR true 2 (z4k xs lv)⟩)),(2,((z4k xs lv).length+1,fam true 62 3 (clF true (z4k xs lv))))]⟩) (.inl rfl) ?_;refine Zou ?_;refine⟨Zs,Zs,(Zg (fun q=>if q=1 then 2 else if q=2 then 3 else q)),Zs,?_⟩
   all_goals first|trivial|exact⟨rfl,trivial⟩
end Go.Proofs

namespace Go.Proofs
open Go.Sk
structure Lk where
 id:Int
 lv:List (Int×Int)
deriving DecidableEq
def noLk:Lk:=⟨0,[]⟩
def lk (l:List Lk)(i:Nat):Lk:=l.getD i noLk
def pI (p:List (Int×Int))(i:Nat):Int×Int:=p.getD i (0,0)
theorem lk_lt {l:List Lk}{i:Nat}(h:i<l.length):lk l i=l[i]:=by simp[lk,List.getD,h]
theorem pI_lt {l:List (Int×Int)}{i:Nat}(h:i<l.length):pI l i=l[i]:=by simp[pI,List.getD,h]
def lstG (s:List Nd)(lv:Int):List (List Int):=(z4k s lv).map fun c=>c.map (·.id)
end Go.Proofs

namespace Go.Proofs
open Go.Sk
def insAt (l:List Nd)(k:Nat)(x:Nd):List Nd:=l.take k++[x]++l.drop k
theorem insAt_length {l:List Nd}{k:Nat}{x:Nd}(h:k≤l.length):(insAt l k x).length=l.length+1:=by
 simp[insAt];omega
theorem nd_insAt {l:List Nd}{k:Nat}{x:Nd}(h:k≤l.length)(q:Nat):nd (insAt l k x) q=if q<k then nd l q else if q=k then x else nd l (q-1):=by
 by_cases h1:q<k
 ·rw[if_pos h1,insAt,z58 (by simp;omega),z58 (by simp;omega)];simp only[nd,List.getD,List.getElem?_take,if_pos h1]
 ·rw[if_neg h1]
  by_cases h2:q=k
  ·subst h2;rw[if_pos rfl,insAt,z58 (by simp;omega),nd_append_ge (by simp;omega)];simp only[List.length_take,Nat.min_eq_left h,Nat.sub_self];rfl
  ·rw[if_neg h2,insAt,nd_append_ge (by simp;omega)];simp only[nd,List.getD,List.getElem?_drop,List.length_append,List.length_take,List.length_singleton,Nat.min_eq_left h]
   congr 2;omega
theorem ins_srt {l:List Nd}{k:Nat}{x:Nd}(h:k≤l.length)(hs:Srt 0 l.length (nd l))(hlo:0<k→¬Lt x (nd l (k-1)))(hhi:∀q,k≤q→q<l.length→Lt x (nd l q)):Srt 0 (insAt l k x).length (nd (insAt l k x))∧Stb (l++[x]) (insAt l k x):=by
 refine⟨srt_of_next fun q _ hq=> ?_,?_⟩
 ·rw[insAt_length h] at hq;rw[nd_insAt h,nd_insAt h]
  by_cases c1:q+1<k
  ·rw[if_pos c1,if_pos (by omega)];exact hs q (q+1) (by omega) (by omega) (by omega)
  ·rw[if_neg c1]
   by_cases c2:q+1=k
   ·rw[if_pos c2,if_pos (by omega)];have:=hlo (by omega);rwa [show k-1=q by omega] at this
   ·rw[if_neg c2,if_neg (show¬q<k by omega)]
    by_cases c3:q=k
    ·rw[if_pos c3];exact fun hh=>Lt.irrefl _ (hh.trans (hhi _ (by omega) (by omega)))
    ·rw[if_neg c3];exact hs _ _ (by omega) (by omega) (by omega)
 ·have:=stb_blocks (A:=l.take k) (B:=l.drop k) (C:=[x]) (D:=[]) (fun b hb c hc=>by
   obtain⟨q,hq,rfl⟩:=List.getElem_of_mem hb;simp only[List.mem_singleton] at hc;subst hc;simp only[List.length_drop] at hq;simp only[List.getElem_drop];have:=hhi (k+q) (by omega) (by omega)
   rwa [z4q (by omega)] at this)
  simpa [insAt,List.take_append_drop] using this
theorem gtN_eq (a b:Nd):(!(sLt a.key b.key||sEq a.key b.key)||(sEq a.key b.key && decide (b.id<a.id)))=ltN b a:=by
 rw[Bool.eq_iff_iff,ltN_iff];simp only[Lt,Bool.or_eq_true,Bool.and_eq_true,Bool.not_eq_true',Bool.or_eq_false_iff,decide_eq_true_eq,sEq_iff,decide_eq_false_iff_not]
 constructor
 ·rintro(⟨h1,h2⟩|⟨h1,h2⟩)
  ·left
   cases h:sLt b.key a.key with
   |true=>rfl
   |false=>exact absurd (ba_ext (bl_eq h1 h)) h2
  ·exact .inr ⟨h1.symm,h2⟩
 ·rintro(h1|⟨h1,h2⟩)
  ·left
   refine⟨?_,fun e=> ?_⟩
   ·cases h:sLt a.key b.key with
    |false=>rfl
    |true=>
     have:=bl_trans h h1;rw[bl_irr] at this
     cases this
   ·rw[e] at h1;simp[sLt,bl_irr] at h1
  ·exact .inr ⟨h1.symm,h2⟩
theorem ins_rows {ys:List Nd}{k:Nat}(hk:k≤ys.length)(x:Nd){q:Nat}(hq:q<ys.length+1):
  (if q=k then SV.int .i64 x.id:: .str x.key:: .int .u32 x.word::List.drop 3 (z5i (nds (ys++[⟨0,⟨#[]⟩,0⟩])) (k+1) (min (ys.length+1-k) (ys.length-k)) (srcF (nds (ys++[⟨0,⟨#[]⟩,0⟩])) k) k)
   else z5i (nds (ys++[⟨0,⟨#[]⟩,0⟩])) (k+1) (min (ys.length+1-k) (ys.length-k)) (srcF (nds (ys++[⟨0,⟨#[]⟩,0⟩])) k) q)=[SV.int .i64 (nd (insAt ys k x) q).id,.str (nd (insAt ys k x) q).key,.int .u32 (nd (insAt ys k x) q).word]:=by
 have hm:min (ys.length+1-k) (ys.length-k)=ys.length-k:=by omega
 rw[hm,nd_insAt hk]
 by_cases c1:q=k
 ·subst c1;rw[if_pos rfl,if_neg (by omega),if_pos rfl];simp only[z5i];rw[if_neg (by omega)]
  rfl
 ·rw[if_neg c1];simp only[z5i,srcF]
  by_cases c2:q<k
  ·rw[if_neg (by omega),if_pos c2];simp only[nds,Nd.sv];rw[z58 (by omega)]
  ·rw[if_pos (by omega),if_neg c2,if_neg c1];simp only[nds,Nd.sv];rw[show k+(q-(k+1))=q-1 by omega,z58 (by omega)]
def RotBm.exE:=aj @zg (aj @zi (aj @zq (aj @zk (aj @z14 (aj @z19 (aj @zj (aj @zu (aj @zl (aj ec13 (aj @zw (aj z40 (aj z4t (aj @z18.eq_1 (aj @z11.eq_1 (aj @ints.eq_1 (aj @idsBox.eq_1 (aj @app_nds (aj ec24 @z1c))))))))))))))))))
def RotBm.gxE:=aj z40 (aj ec16 (aj z4t (aj @z18.eq_1 (aj @z11.eq_1 (aj @ints.eq_1 @idsBox.eq_1)))))
open RotBm (gxE exE)
open D0 (oxE sdE)
theorem refSort_spec (xs:List Nd)(n:Nat)(hn:xs.length=n)(hx:n≤1000000):
  zf Tryz.prog 131 [.slc false 0 0 0 n] ⟨1,[(0,uQ (.row ⟨false,false,62,3,n,nds xs⟩))]⟩
   (fun s H1=>s= .slc true 1 0 0 n∧H1=⟨2,[(1,uQ (.row ⟨true,false,62,3,n,nds (z52 xs)⟩))]⟩):=by
 subst hn;refine zf.ofC false 80 [.tmp 2] Tryz.func131 rfl rfl Tryz.ntmps131 Tryz.results131 rfl ?_;intro w0 own0 β0 Q hQ hQn;simp only[z16];refine Zrs [0] ?_;refine Zrs [0,3] ?_;refine z6 ?_;refine Zrs [0,3,4] ?_;refine z2f 3 62 3 (nds []) rfl ?_;dsimp only;refine zc fun Q0 hN0 hX0 hR0 hE0=> ?_;refine zr (σ:=Nat×List Nd) (fun σ=>(σ.1≤xs.length∧σ.2.length=σ.1)∧Srt 0 σ.2.length (nd σ.2)∧Stb (xs.take σ.1) σ.2) (fun σ=>xs.length-σ.1) (fun σ=>[(0,.slc false 0 0 0 xs.length),(3,.slc true 1 0 0 σ.2.length),(4,.int .i64 σ.1)]) (fun σ=>⟨2,[(1,uQ (.row ⟨true,false,62,3,σ.2.length,nds σ.2⟩)),(0,uQ (.row ⟨false,false,62,3,xs.length,nds xs⟩))]⟩) (0,[]) ⟨⟨Nat.zero_le _,rfl⟩,fun p q _ _ h=>by simp at h,Stb.refl _⟩ (ρ:=id) (Zg id) ?_;rintro⟨i,ys⟩ hi QL1 hL1 hRL1 hEL1;refine z6 ?_;refine Zrs [0,3,4,9] ?_;refine z7 _ rfl ?_ ?_
 ·intro h9;replace h9:=Znb h9;obtain⟨⟨hi1,hi2⟩,hi3,hi4⟩:=hi;dsimp only at hi1 hi2 hi3 hi4;refine za (z6 (zc fun Q1 hN1 hX1 hR1 hE1=> ?_));refine Zrs [0,3,4,5] ?_;refine z6 (zc fun Q2 hN2 hX2 hR2 hE2=> ?_);refine zr (σ:=Nat) (fun k=>k≤ys.length∧∀q,k≤q→q<ys.length→Lt (nd xs i) (nd ys q)) (fun k=>k) (fun k=>[(0,.slc false 0 0 0 xs.length),(3,.slc true 1 0 0 ys.length),(4,.int .i64 i),(5,.int .i64 k)]) (fun _=>⟨2,[(1,uQ (.row ⟨true,false,62,3,ys.length,nds ys⟩)),(0,uQ (.row ⟨false,false,62,3,xs.length,nds xs⟩))]⟩) ys.length ⟨Nat.le_refl _,fun q _ _=>by omega⟩ (ρ:=id) (Zg id) ?_;rintro k hk QL2 hL2 hRL2 hEL2;refine z6 (z6 ?_);refine Zrd [0,3,4,5,57] [0,1,2,3,4,5,6,7,8,9,10,11,12,13,14,15,16,17,18,19,20,21,22,23,24,25,26,27,28,29,30,31,32,33,34,35,36,37,38,39,40,41,42,43] [[],[],[],[],[],[],[],[],[],[],[],[],[],[],[],[],[],[],[],[],[],[],[],[],[],[],[],[],[],[],[],[],[],[],[],[],[],[],[],[],[],[],[],[]] [[],[],[],[],[],[],[],[],[],[],[],[],[],[],[],[],[],[],[],[],[],[],[],[],[],[],[],[],[],[],[],[],[],[],[],[],[],[],[],[],[],[],[],[]] ?_;intro K hK;iterate 44 (refine Zo (Zi [] []) ?_)
  refine zz (Zpr (hK _ _ ?_));clear hK K;refine z7 _ rfl ?_ ?_
  ·intro h57;replace h57:=Znb h57;obtain⟨hk1,hk2⟩:=hk
   have hgt:Lt (nd xs i) (nd ys (k-1)):=by
    rw[←ltN_iff,←gtN_eq];have:=h57.2;rw[show((k:Int)-1).toNat=k-1 from by omega] at this;simpa using this
   refine za (zc fun Q3 hN3 hX3 hR3 hE3=> ?_);refine Zrg [0,3,4,5] ?_;refine ze (hN3 _ _ (ze (hL2 _ _ ?_)));rw[show(k:Int)-1=((k-1:Nat):Int) from by omega];refine⟨k-1,⟨⟨by omega,fun q hq hq2=> ?_⟩,by omega⟩,id,(Zg id)⟩
   by_cases e:q=k-1
   ·subst e;exact hgt
   ·exact hk2 q (by omega) hq2
  ·intro h57;replace h57:=Znb h57;obtain⟨hk1,hk2⟩:=hk
   have hle:0<k→¬Lt (nd xs i) (nd ys (k-1)):=fun hk0=>by
    rw[←ltN_iff,←gtN_eq];have:=h57 (by omega);rw[show((k:Int)-1).toNat=k-1 from by omega] at this;intro hc;replace hc:=Znb hc;rcases hc with⟨h1,h2⟩|⟨h1,h2⟩
    ·simp[h1,h2] at this
    ·simp[h1] at this;omega
   refine zo (hEL2 _ _ _ (hX2 _ _ ?_));refine Zrs [0,3,4,5] ?_;refine z6 ?_;refine Zrd [0,3,4,5] [0,1,2,3,4,5,6,7] [[],[],[],[],[],[],[],[3]] [[],[],[],[],[],[],[],[3]] ?_;intro K hK;iterate 7 (refine Zo (Zi [] []) ?_)
   refine Zo (Zi [3] [3]) ?_;rw[show((k:Int)+1).toNat=k+1 from by omega];repeat(with_reducible apply And.intro;exact sdE)
   refine zz (Zpr (hK _ _ ?_));clear hK K;refine Zrg [0,3,4] ?_;refine ze (hN1 _ _ ?_);refine Zrg [0,3,4] ?_;refine ze (hL1 _ _ ?_);rw[show(i:Int)+1=((i+1:Nat):Int) from by omega];have hins:=ins_srt hk1 hi3 hle hk2;have hlen:=insAt_length (x:=nd xs i) hk1
   have hst:Stb (xs.take (i+1)) (insAt ys k (nd xs i)):=by
    rw[take_nd (by omega)];refine Stb.trans (fun kk ii=> ?_) hins.2;rw[List.filter_append,List.filter_append,hi4]
   refine⟨(i+1,insAt ys k (nd xs i)),⟨⟨⟨by dsimp only;omega,by dsimp only;omega⟩,hins.1,hst⟩,by dsimp only;omega⟩,fun j=>if j=1 then 3 else j,?_⟩;simp only[hlen];exact(gvS (fun j=>if j=1 then 3 else j) ⟨Zs,(by simp[z56,Sk.find,uQ,z1b.eq_1,z1b.eq_2,z1b.eq_3,z3s,SV.renL,SV.ren,Obj.lt_row,SV.ltL,SV.lt,gxE];exact fun q hq=>ins_rows hk1 (nd xs i) hq),Zs,Zs,Zs⟩ ⟨rfl,rfl,Nat.le_of_ble_eq_true rfl,rfl⟩)
 ·intro h9;replace h9:=Znb h9;obtain⟨⟨hi1,hi2⟩,hi3,hi4⟩:=hi;dsimp only at hi1 hi2 hi3 hi4;refine zo (hEL1 _ _ _ (hX0 _ _ ?_));refine Zrs [2] ?_;refine zd (hQ _ _ ?_);have hyl:ys.length=xs.length:=by omega
  have hys:ys=z52 xs:=srtN_unique (by have:=hi4;rwa [show i=xs.length by omega,List.take_length] at this) hi3;rw[hyl,hys];refine zb (H':=⟨2,[(1,uQ (.row ⟨true,false,62,3,xs.length,nds (z52 xs)⟩))]⟩) (.inl rfl) ?_;refine Zou ?_;refine⟨Zs,(Zg id),Zs,?_⟩;trivial
end Go.Proofs

namespace Go.Proofs
open Go.Sk
theorem Stb.perm {xs ys:List Nd}(h:Stb xs ys):xs.Perm ys:=by
 rw[List.perm_iff_count];intro x
 have h1:∀l:List Nd,l.count x=(l.filter (cls x.key x.id)).count x:=fun l=>by
  rw[List.count_filter];simp[cls]
 exact(h1 xs).trans ((congrArg (List.count x) (h x.key x.id)).trans (h1 ys).symm)
theorem z2e (xs:List Nd):xs.Perm (z52 xs):=(srtN_stb xs).perm
theorem anyB_iff {n:Nat}{p:Nat→Bool}:anyB n p=false↔∀i,i<n→p i=false:=⟨fun h i hi=>anyB_elim h hi,z1p⟩
theorem good_iff (xs:List Nd):z1r xs=0↔xs.length≤64∧(∀x∈xs,badN x=false)∧xs.Pairwise fun a b=>twinN a b=false:=by
 rw[z1r]
 by_cases c1:64<xs.length
 ·rw[if_pos c1];exact⟨fun h=>by omega,fun h=>by omega⟩
 ·rw[if_neg c1]
  cases c2:anyB xs.length (fun i=>badN (nd xs i)) with
  |true=>
   rw[if_pos rfl];refine⟨fun h=>by omega,fun h=> ?_⟩;rw[z1p fun i hi=>by rw[z4q hi];exact h.2.1 _ (List.getElem_mem hi)] at c2
   cases c2
  |false=>
   rw[if_neg Bool.false_ne_true];rw[anyB_iff] at c2
   cases c3:anyB xs.length (fun i=>anyB i fun k=>twinN (nd xs k) (nd xs i)) with
   |true=>
    rw[if_pos rfl];refine⟨fun h=>by omega,fun h=> ?_⟩
    rw[z1p fun i hi=>z1p fun k hk=>by
     rw[z4q hi,z4q (show k<xs.length by omega)]
     exact List.pairwise_iff_getElem.1 h.2.2 k i (by omega) hi hk] at c3
    cases c3
   |false=>
    rw[if_neg Bool.false_ne_true];rw[anyB_iff] at c3;refine⟨fun _=>⟨by omega,fun x hx=> ?_,List.pairwise_iff_getElem.2 fun k i hk hi hki=> ?_⟩,fun _=>rfl⟩
    ·obtain⟨i,hi,rfl⟩:=List.getElem_of_mem hx;have:=c2 i hi;rwa [z4q hi] at this
    ·have:=anyB_iff.1 (c3 i hi) k hki;rwa [z4q hi,z4q hk] at this
theorem good_perm {xs ys:List Nd}(h:xs.Perm ys)(hg:z1r xs=0):z1r ys=0:=by
 rw[good_iff] at*;obtain⟨h1,h2,h3⟩:=hg;refine⟨by rw[←h.length_eq];exact h1,fun x hx=>h2 x (h.mem_iff.2 hx),?_⟩;exact(h.pairwise_iff (R:=fun a b=>twinN a b=false) (fun {x y} hh=>by rw[twinN_comm];exact hh)).1 h3
theorem twinN_false {a b:Nd}(h:twinN a b=false):a.id≠b.id∧a.key≠b.key:=by
 simp only[twinN,sEq_iff,Bool.or_eq_false_iff,decide_eq_false_iff_not] at h;exact h
theorem nd_mem {xs:List Nd}{i:Nat}(h:i<xs.length):nd xs i∈xs:=by rw[z4q h];exact List.getElem_mem h
theorem good_sub {xs ys:List Nd}(h:ys.Sublist xs)(hg:z1r xs=0):z1r ys=0:=by
 rw[good_iff] at*;obtain⟨h1,h2,h3⟩:=hg;exact⟨Nat.le_trans h.length_le h1,fun x hx=>h2 x (h.mem hx),h3.sublist h⟩
end Go.Proofs

namespace Go.Proofs
open Go.Sk
theorem Tryz.tyIntss:z1l Tryz.prog 78=⟨true,.slice 22,1,24,[]⟩:=by kernel_rfl
theorem Tryz.szIntss:z29 Tryz.prog 78=1:=by kernel_rfl
theorem Tryz.zInts:z2x Tryz.prog 22=some [.nils]:=by kernel_rfl
theorem z20 (m:Nat)(l:List Int)(i:Nat):SV.ltL m (ints l i):=by simp[ints,SV.ltL,SV.lt]
theorem z2j (π:Pn)(xs:List Int)(i:Nat):SV.renPL π (ints xs i)=ints xs i:=by simp[ints,SV.renPL,SV.renP]
def ind (cs:List (List Int))(i:Nat):List Int:=cs.getD i []
def ilR (g:Bool)(f:Nat)(cs:List (List Int)):Nat→List SV:=fun i=>[.slc g f (i+1) 0 (ind cs i).length]
def ilF (o:Bool)(cs:List (List Int)):Nat→Sk.Obj:=fun i=> .row ⟨o,false,3,1,(ind cs i).length,ints (ind cs i)⟩
theorem ilR_ap (g:Bool)(f:Nat)(cs:List (List Int))(i:Nat):ilR g f cs i=[.slc g f (i+1) 0 (ind cs i).length]:=rfl
theorem ilR_fold (g:Bool)(f:Nat)(cs:List (List Int)):(fun i=>[SV.slc g f (i+1) 0 (ind cs i).length])=ilR g f cs:=rfl
theorem ilF_ap (o:Bool)(cs:List (List Int))(i:Nat):ilF o cs i= .row ⟨o,false,3,1,(ind cs i).length,ints (ind cs i)⟩:=rfl
theorem ilR_ren (ρ:Nat→Nat)(g:Bool)(f:Nat)(cs:List (List Int)):(fun i=>SV.renL ρ (ilR g f cs i))=ilR g (ρ f) cs:=by funext i;simp[ilR,SV.renL,SV.ren]
theorem ilR_ren' (ρ:Nat→Nat)(g:Bool)(f:Nat)(cs:List (List Int))(i:Nat):SV.renL ρ (ilR g f cs i)=ilR g (ρ f) cs i:=congrFun (ilR_ren ρ g f cs) i
theorem ilR_lt (m:Nat)(g:Bool)(f:Nat)(cs:List (List Int))(i:Nat):SV.ltL m (ilR g f cs i)↔f<m:=by simp[ilR,SV.ltL,SV.lt]
theorem ilF_gives (ρ:Nat→Nat)(o o':Bool)(cs:List (List Int))(i:Nat):z1b ρ (ilF o cs i) (ilF o' cs i)↔(o'=true→o=true):=by
 simp[ilF,z1b,z3s,z2d]
theorem ilFm_lt (m:Nat)(o:Bool)(cs:List (List Int))(i:Nat):(ilF o cs i).lt m:=Obj.lt_row.2 fun q _=>z20 m _ q
theorem ilF_own (o:Bool)(cs:List (List Int))(i:Nat):(ilF o cs i).own=o:=rfl
theorem ilF_fown (o:Bool)(e:Go.TypeId)(sz:Nat)(cs:List (List Int))(k:Nat):(fam o e sz (ilF o cs) k).own=o:=fam_own1 (ilF_own o cs) k
theorem ilF_ren (ρ:Nat→Nat)(o:Bool)(cs:List (List Int)):(fun i=>(ilF o cs i).ren ρ)=ilF o cs:=by
 funext i;simp[ilF,Obj.ren,Row.ren,z1s]
theorem ilR_renP (ρ:Nat→Nat)(g:Bool)(f j a:Nat)(cs:List (List Int))(i:Nat):SV.renPL (mvP ρ f j a) (ilR g f cs i)=if i=j then [.slc g a 0 0 (ind cs i).length] else [.slc g (ρ f) (i+1) 0 (ind cs i).length]:=by
 simp only[ilR,SV.renPL,SV.renP,mvP,true_and,Nat.add_right_cancel_iff]
 split<;>rfl
theorem clR_renO (ρ:Nat→Nat)(g:Bool)(f j a h:Nat)(hh:h≠f)(cs:List (List Nd))(i:Nat):SV.renPL (mvP ρ f j a) (clR g h cs i)=clR g (ρ h) cs i:=by
 simp[clR,SV.renPL,SV.renP,mvP,hh]
theorem ilF_givesP (π:Pn)(o o':Bool)(cs cs':List (List Int))(i:Nat)(h:o'=true→o=true)(e:ind cs' i=ind cs i):zn π (ilF o cs i) (ilF o' cs' i):=⟨fun h2=>⟨h h2,rfl⟩,rfl,by rw[e];exact Nat.le_refl _,fun q _=>by rw[e];exact(z2j π _ q).symm⟩
theorem ilF_newP (π:Pn)(n:Nat)(l:List Int)(cs:List (List Int))(i:Nat)(hn:l.length=n)(e:ind cs i=l):zn π (.row ⟨true,false,3,1,n,ints l⟩) (ilF true cs i):=⟨fun _=>⟨rfl,rfl⟩,rfl,by rw[e,hn];exact Nat.le_refl _,fun q _=>by rw[e];exact(z2j π _ q).symm⟩
theorem ind_append {cs:List (List Int)}{c:List Int}{i:Nat}(h:i<cs.length):ind (cs++[c]) i=ind cs i:=by simp[ind,List.getD,List.getElem?_append_left h]
theorem ind_last (cs:List (List Int))(c:List Int):ind (cs++[c]) cs.length=c:=by simp[ind,List.getD]
theorem ind_lt {cs:List (List Int)}{i:Nat}(h:i<cs.length):ind cs i=cs[i]:=by simp[ind,List.getD,h]
def ec30:=aj @Tryz.tyIntss @Tryz.szIntss
def ec31:=aj @ilR_ap @ilF_ap
def InGm.exE:=aj @zg (aj @zi (aj @zj (aj @zu (aj @zl (aj ec13 (aj @zw (aj z40 (aj z4t (aj ec28 (aj ec22 (aj @z26 (aj ec23 (aj ec24 (aj ec30 (aj @Tryz.zInts (aj @zk (aj @z14 (aj @zq (aj ec31 (aj @ints.eq_1 (aj @z1i (aj @z2c @z11.eq_1))))))))))))))))))))))
def ec32:=aj @ilR_ren' (aj @ilR_lt (aj @ilF_gives (aj @ilFm_lt @ilF_fown)))
def InGm.gxE:=aj z40 (aj ec16 (aj z4t (aj ec25 (aj ec26 (aj ec29 (aj ec32 (aj @z2d (aj @z20 @z11.eq_1))))))))
def ec33:=aj @ilF_ren @ilR_ren
def InGm.axE:=aj @zg (aj @zi (aj @zj (aj @zu (aj @zl (aj ec13 (aj @zw (aj z40 (aj z4t (aj ec28 (aj ec22 (aj @z26 (aj ec24 (aj ec30 (aj @Tryz.zInts (aj @zk (aj @z14 (aj @zq (aj @z1i (aj @z2c (aj @z11.eq_1 (aj @z1s (aj @z2g (aj @z47 (aj ec27 ec33))))))))))))))))))))))))
open InGm (gxE axE exE)
open D0 (oxE sdE)
theorem ordered_spec (xs:List Nd)(n:Nat)(hn:xs.length=n)(hx:n≤19):
  zf Tryz.prog 79 [.slc false 0 0 0 n] ⟨1,[(0,uQ (.row ⟨false,false,62,3,n,nds xs⟩))]⟩
   (fun s H1=>s= .tup [.slc true 1 0 0 n,.bool (decide (z1r xs=0))]∧H1=⟨2,[(1,uQ (.row ⟨true,false,62,3,n,nds (z52 xs)⟩))]⟩):=by
 refine zf.ofC false 9 [.tmp 2,.tmp 3] Tryz.func79 rfl rfl Tryz.ntmps79 Tryz.results79 rfl ?_;intro w0 own0 β0 Q hQ hQn;simp only[z16];refine Zrs [0] ?_;refine sg [2,3] rfl ?_;intro K hK;refine Zo Zl ?_;refine Zo Zl ?_;refine Zc1 (sort_spec xs n hn hx) (id) ?_;refine Zo Zl ?_;refine Zo Zl ?_;refine Zc1 (check_spec xs n hn (by omega)) (id) ?_;iterate 3 (refine Zo Zl ?_)
 refine z8 (Zpr (hK _ _ ?_));clear hK K;refine zd (hQ _ _ ?_);refine zb (H':=⟨2,[(1,uQ (.row ⟨true,false,62,3,n,nds (z52 xs)⟩))]⟩) (.inl rfl) ?_;refine Zou ?_;refine⟨Zs,(Zg id),Zs,?_⟩
 all_goals first|trivial|exact⟨by rw[←decide_eq];rfl,trivial⟩
theorem level_spec (n:Int):zf Tryz.prog 50 [.int .i64 n] ⟨0,[]⟩ (fun s H1=>s= .bool (decide (0≤n) && decide (n≤16))∧H1=⟨0,[]⟩):=by
 refine zf.ofC false 9 [.tmp 2] Tryz.func50 rfl rfl Tryz.ntmps50 Tryz.results50 rfl ?_;intro w0 own0 β0 Q hQ hQn;simp only[z16];refine Zrs [0] ?_;refine Zrs [2] ?_;refine zd (hQ _ _ ?_);refine zb (H':=⟨0,[]⟩) (.inl rfl) ?_;refine Zou ?_;refine⟨Zs,(Zg id),Zs,?_⟩
 all_goals first|trivial|exact⟨rfl,trivial⟩
end Go.Proofs

namespace Go.Proofs
open Go.Sk
def lstN (xs:List Nd)(lv:Int):List (List Int):=if z1r xs=0∧0≤lv∧lv≤16 then lstG (z52 xs) lv else []
theorem lstG_len (s:List Nd)(lv:Int):(lstG s lv).length=(z4k s lv).length:=by simp[lstG]
theorem ind_lstG (s:List Nd)(lv:Int){i:Nat}(h:i<(z4k s lv).length):ind (lstG s lv) i=(cnd (z4k s lv) i).map (·.id):=by
 rw[ind_lt (by rw[lstG_len];exact h),cnd_lt h];simp[lstG]
theorem clsN_len (s:List Nd)(lv:Int):(z4k s lv).length≤s.length:=by
 unfold z4k
 split
 ·simp
 ·have:=clsG_len' lv s [];simpa using this
theorem cnd_len (s:List Nd)(lv:Int)(i:Nat):(cnd (z4k s lv) i).length≤s.length:=by
 by_cases h:i<(z4k s lv).length
 ·have h16:lv≤16:=by
   by_cases g:16<lv
   ·rw[z4k,if_pos g] at h;simp at h
   ·omega
  have:=(clsN_ok h16 s).1.eq (cnd (z4k s lv) i) (by rw[cnd_lt h];exact List.getElem_mem h);rw[this];exact List.length_filter_le ..
 ·have:cnd (z4k s lv) i=[]:=by simp[cnd,List.getD,Nat.not_lt.1 h]
  rw[this];simp
theorem app_intsN {xs ys:List Int}{n:Nat}(h:xs.length=n):app (ints xs) n (ints ys)=ints (xs++ys):=by subst h;exact z2c xs ys
theorem take_ind {ls:List (List Int)}{i:Nat}(h:i<ls.length):ls.take (i+1)=ls.take i++[ind ls i]:=by
 rw[ind_lt h,List.take_succ_eq_append_getElem h]
theorem map_take_id {c:List Nd}{j:Nat}(h:j<c.length):(c.take (j+1)).map (·.id)=(c.take j).map (·.id)++[(nd c j).id]:=by
 rw[take_nd h,List.map_append];rfl
def InHm.exE:=aj @zg (aj @zi (aj @zj (aj @zu (aj @zl (aj ec13 (aj @zw (aj z40 (aj z4t (aj ec28 (aj ec22 (aj @z26 (aj ec23 (aj ec30 (aj @Tryz.zInts (aj @zk (aj @z14 (aj @zq (aj ec31 (aj @ints.eq_1 (aj @z1i (aj @z2c @z11.eq_1)))))))))))))))))))))
def InHm.axE:=aj @zg (aj @zi (aj @zj (aj @zu (aj @zl (aj ec13 (aj @zw (aj z40 (aj z4t (aj ec28 (aj ec22 (aj @z26 (aj ec30 (aj @Tryz.zInts (aj @zk (aj @z14 (aj @zq (aj @z1i (aj @z2c (aj @z11.eq_1 (aj @z1s (aj @z2g (aj @z47 (aj ec27 (aj @clR_fold (aj ec33 @ilR_fold)))))))))))))))))))))))))
open InGm (gxE)
open InHm (axE exE)
open D0 (oxE sdE)
theorem lists_spec (xs:List Nd)(n:Nat)(hn:xs.length=n)(lv:Int)(hx:n≤19):
  zf Tryz.prog 48 [.slc false 0 0 0 n,.int .i64 lv] ⟨1,[(0,uQ (.row ⟨false,false,62,3,n,nds xs⟩))]⟩
   (fun s H1=>s= .slc true 1 0 0 (lstN xs lv).length∧H1=⟨3,[(1,uQ (.row ⟨true,false,22,1,(lstN xs lv).length,ilR true 2 (lstN xs lv)⟩)),(2,((lstN xs lv).length+1,fam true 3 1 (ilF true (lstN xs lv))))]⟩):=by
 subst hn;have hsl:(z52 xs).length=xs.length:=(z2e xs).length_eq.symm;refine zf.ofC false 54 [.tmp 4] Tryz.func48 rfl rfl Tryz.ntmps48 Tryz.results48 rfl ?_;intro w0 own0 β0 Q hQ hQn;simp only[z16];refine Zrs [0,1] ?_;refine sg [1,5,6] rfl ?_;intro K hK;refine Zo Zl ?_;refine Zo Zl ?_;refine Zc1 (ordered_spec xs xs.length rfl hx) (id) ?_;iterate 5 (refine Zo Zl ?_)
 refine z8 (Zpr (hK _ _ ?_));clear hK K;refine z6 ?_;refine Zrs [1,5,27] ?_;refine z7 _ rfl ?_ ?_
 ·intro h27
  refine Zrs [4] ?_;refine z2f 4 22 1 (ilR true 3 []) rfl ?_;dsimp only;refine z31 3 1 (ilF true []) ?_;dsimp only;refine zd (hQ _ _ ?_)
  have hno:¬(z1r xs=0∧0≤lv∧lv≤16):=by
   rintro⟨g1,g2,g3⟩;rcases(by simpa using h27:(¬z1r xs=0∨lv<0)∨16<lv) with(h|h)|h
   ·exact h g1
   ·omega
   ·omega
  rw[show lstN xs lv=[] by rw[lstN,if_neg hno]];refine zp (fun q=>if q=1 then 2 else if q=2 then 3 else q) (.slc true 1 0 0 ([]:List (List Int)).length) (⟨3,[(1,uQ (.row ⟨true,false,22,1,([]:List (List Int)).length,ilR true 2 []⟩)),(2,(([]:List (List Int)).length+1,fam true 3 1 (ilF true [])))]⟩) (.inl rfl) ?_;refine Zou ?_;refine⟨Zs,Zs,(Zg (fun q=>if q=1 then 2 else if q=2 then 3 else q)),Zs,?_⟩
  all_goals first|trivial|exact⟨rfl,trivial⟩
 ·intro h27
  refine za ?_;refine Zrs [1,5,7] ?_;refine z6 ?_;refine sg [7,30,31,32] rfl ?_;intro K hK;iterate 2 (refine Zo Zl ?_)
  refine Zo Zl ?_;have h27':z1r xs=0∧0≤lv∧lv≤16:=by simpa [and_assoc] using h27
  refine Zc1 (classes_spec (z52 xs) xs.length hsl lv (by omega)) (fun q=>if q=0 then 1 else q) ?_;iterate 2 (refine Zo Zl ?_)
  refine z8 (Zpr (hK _ _ ?_));clear hK K;obtain⟨cl,hcl⟩:∃cl,z4k (z52 xs) lv=cl:=⟨_,rfl⟩;obtain⟨ls,hls⟩:∃ls,lstG (z52 xs) lv=ls:=⟨_,rfl⟩;have hml:cl.length≤xs.length:=by rw[←hcl,←hsl];exact clsN_len _ _
  have hll:ls.length=cl.length:=by rw[←hcl,←hls,lstG_len]
  have hcn:∀i,(cnd cl i).length≤xs.length:=fun i=>by rw[←hcl,←hsl];exact cnd_len _ _ i
  have hil:∀i,i<cl.length→ind ls i=(cnd cl i).map (·.id):=fun i hi=>by rw[←hls,←hcl] at*;exact ind_lstG _ _ hi
  rw[hcl];refine z2f 7 22 1 (ilR true 5 (ls.take 0)) rfl ?_;dsimp only;refine z31 3 1 (ilF true (ls.take 0)) ?_;dsimp only;refine zc fun Q0 hN0 hX0 hR0 hE0=> ?_;refine zr (σ:=Nat) (fun i=>i≤cl.length) (fun i=>cl.length-i) (fun i=>[(7,.slc true 4 0 0 i),(30,.slc true 2 0 0 cl.length),(31,.int .i64 cl.length),(32,.int .i64 i)]) (fun i=>⟨6,[(4,uQ (.row ⟨true,false,22,1,i,ilR true 5 (ls.take i)⟩)),(5,(i+1,fam true 3 1 (ilF true (ls.take i)))),(2,uQ (.row ⟨true,false,23,1,cl.length,clR true 3 cl⟩)),(3,(cl.length+1,fam true 62 3 (clF true cl)))]⟩) 0 (Nat.zero_le _) (ρ:=id) (Zg id) ?_;rintro i hi QL1 hL1 hRL1 hEL1;refine Zrs [7,30,31,32,33] ?_;refine z6 ?_;refine z7 _ rfl ?_ ?_
  ·intro h33;replace h33:=Znb h33;have hlc:=hcn i;refine za (z6 (zc fun Q1 hN1 hX1 hR1 hE1=> ?_));refine Zrs [7,9,30,31,32] ?_;refine Zrs [7,9,10,30,31,32] ?_;refine z6 ?_;refine Zrs [7,10,30,31,32,36,37,38] ?_;refine z2f 10 3 1 (ints (((cnd cl i).take 0).map (·.id))) rfl ?_;dsimp only;refine zc fun Q2 hN2 hX2 hR2 hE2=> ?_;refine zr (σ:=Nat) (fun j=>j≤(cnd cl i).length) (fun j=>(cnd cl i).length-j) (fun j=>[(7,.slc true 4 0 0 i),(10,.slc true 6 0 0 j),(30,.slc true 2 0 0 cl.length),(31,.int .i64 cl.length),(32,.int .i64 i),(36,.slc true 3 (i+1) 0 (cnd cl i).length),(37,.int .i64 (cnd cl i).length),(38,.int .i64 j)]) (fun j=>⟨7,[(6,uQ (.row ⟨true,false,3,1,j,ints (((cnd cl i).take j).map (·.id))⟩)),(4,uQ (.row ⟨true,false,22,1,i,ilR true 5 (ls.take i)⟩)),(5,(i+1,fam true 3 1 (ilF true (ls.take i)))),(2,uQ (.row ⟨true,false,23,1,cl.length,clR true 3 cl⟩)),(3,(cl.length+1,fam true 62 3 (clF true cl)))]⟩) 0 (Nat.zero_le _) (ρ:=id) (Zg id) ?_;rintro j hj QL2 hL2 hRL2 hEL2;refine Zrs [7,10,30,31,32,36,37,38,39] ?_;refine z6 ?_;refine z7 _ rfl ?_ ?_
   ·intro h39;replace h39:=Znb h39;refine za (z6 (zc fun Q3 hN3 hX3 hR3 hE3=> ?_));refine Zrs [7,10,12,30,31,32,36,37,38] ?_;refine Zrg [7,10,30,31,32,36,37,38] ?_;refine ze (hN3 _ _ ?_);refine Zrg [7,10,30,31,32,36,37,38] ?_;refine ze (hL2 _ _ ?_);rw[show(j:Int)+1=((j+1:Nat):Int) from by omega,app_intsN (by simp;omega),←map_take_id (by omega)];exact⟨j+1,⟨by omega,by omega⟩,fun q=>if q=6 then 9 else q,(Zg (fun q=>if q=6 then 9 else q))⟩
   ·intro h39;replace h39:=Znb h39;refine zo (hEL2 _ _ _ (hX2 _ _ ?_));refine Zrg [7,30,31,32] ?_;refine ze (hN1 _ _ ?_);have hjl:j=(cnd cl i).length:=by omega
    subst hjl;have hT:ls.take (i+1)=ls.take i++[(cnd cl i).map (·.id)]:=by rw[take_ind (by omega),hil i (by omega)]
    have hTl:(ls.take i).length=i:=by rw[List.length_take];omega
    rw[List.take_length]
    have hout:∀q,q<i+1→app (ilR true 5 (ls.take i)) i (z4d 1 1 [SV.slc true 6 0 0 (cnd cl i).length]) q=SV.renPL (mvP (fun q=>if q=4 then 8 else q) 5 i 6) (ilR true 5 (ls.take (i+1)) q):=fun q hq=>by
     rw[ilR_renP,hT]
     split
     ·rename_i e;subst e;rw[app,if_neg (by omega),Nat.sub_self,show ind (ls.take q++[(cnd cl q).map (·.id)]) q=(cnd cl q).map (·.id) by have h:=ind_last (ls.take q) ((cnd cl q).map (·.id));rw[hTl] at h;exact h,List.length_map]
      rfl
     ·rw[ind_append (by omega),app,if_pos (by omega)];rfl
    have hlast:ind (ls.take (i+1)) i=(cnd cl i).map (·.id):=by
     have h:=ind_last (ls.take i) ((cnd cl i).map (·.id));rw[hTl] at h;rw[hT];exact h
    refine z4f (fr':=[(7,.slc true 4 0 0 (i+1)),(30,.slc true 2 0 0 cl.length),(31,.int .i64 cl.length),(32,.int .i64 i)]) (H':=⟨6,[(4,uQ (.row ⟨true,false,22,1,i+1,ilR true 5 (ls.take (i+1))⟩)),(5,(i+1+1,fam true 3 1 (ilF true (ls.take (i+1))))),(2,uQ (.row ⟨true,false,23,1,cl.length,clR true 3 cl⟩)),(3,(cl.length+1,fam true 62 3 (clF true cl)))]⟩) _ (Zgp (fun q=>if q=4 then 8 else q) (5) (i) (6) (z1f rfl Nat.zero_lt_one (by decide) (zm.of (fun _=>⟨rfl,rfl⟩) rfl (Nat.le_refl _) hout) (Obj.lt_row.2 fun q _=>(ilR_lt _ _ _ _ q).2 (Nat.le_of_ble_eq_true rfl)) (Nat.le_of_ble_eq_true rfl) (z4g rfl rfl Nat.zero_lt_one ⟨fun _=>⟨rfl,rfl⟩,rfl⟩ (Nat.succ_pos _) (fun q hq hne=>⟨by omega,ilF_givesP _ _ _ _ _ _ id (by rw[hT];exact ind_append (by omega)),ilFm_lt _ _ _ _⟩) (ilF_newP _ _ _ _ _ (by simp) hlast) (ilFm_lt _ _ _ _) (Nat.le_of_ble_eq_true rfl) (z1f rfl Nat.zero_lt_one (by decide) (zm.of (fun _=>⟨rfl,rfl⟩) rfl (Nat.le_refl _) fun q _=>(show clR true 3 cl q=SV.renPL _ (clR true 3 cl q) by rw[clR_renO _ _ 5 i 6 3 (by decide)];rfl)) (Obj.lt_row.2 fun q _=>(clR_lt _ _ _ _ q).2 (Nat.le_of_ble_eq_true rfl)) (Nat.le_of_ble_eq_true rfl) (z1m.consO rfl (by decide) ⟨fun _=>⟨rfl,rfl⟩,rfl⟩ (Nat.le_refl _) (fun q _=>⟨clF_givesP _ _ _ _ _ _ id rfl,clFm_lt _ _ _ _⟩) (Nat.le_of_ble_eq_true rfl) trivial))))) ?_;refine Zrg [7,30,31,32] ?_;refine ze (hL1 _ _ ?_)
    rw[show(i:Int)+1=((i+1:Nat):Int) from by omega];exact⟨i+1,⟨by omega,by omega⟩,id,(Zg id)⟩
  ·intro h33
   refine zo (hEL1 _ _ _ (hX0 _ _ ?_));refine Zrs [4] ?_;refine zd (hQ _ _ ?_)
   have hic:i=cl.length:=by
    have:¬(i:Int)<cl.length:=by simpa using h33
    omega
   subst hic;rw[show lstN xs lv=ls by rw[lstN,if_pos (by simpa [and_assoc] using h27),hls],List.take_of_length_le (by omega:ls.length≤cl.length),←hll];refine zp (fun q=>if q=1 then 4 else if q=2 then 5 else q) (.slc true 1 0 0 ls.length) (⟨3,[(1,uQ (.row ⟨true,false,22,1,ls.length,ilR true 2 ls⟩)),(2,(ls.length+1,fam true 3 1 (ilF true ls)))]⟩) (.inl rfl) ?_;refine Zou ?_;refine⟨Zs,Zs,(Zg (fun q=>if q=1 then 4 else if q=2 then 5 else q)),Zs,?_⟩
   all_goals first|trivial|exact⟨rfl,trivial⟩
end Go.Proofs

namespace Go.Proofs
open Go.Sk
structure Ly where
 lvl:Int
 wd:Int
 ids:List Int
 cs:List Cl
 ps:List Pr
deriving DecidableEq
structure Cb where
 kind:Int
 node:Int
 lvl:Int
deriving DecidableEq
structure Fo where
 ns:List Nd
 ht:Int
 ly:List Ly
 cb:List Cb
deriving DecidableEq
def noLy:Ly:=⟨0,0,[],[],[]⟩
def noCb:Cb:=⟨0,0,0⟩
def noFo:Fo:=⟨[],0,[],[]⟩
def lyA (L:List Ly)(i:Nat):Ly:=L.getD i noLy
def cbA (C:List Cb)(i:Nat):Cb:=C.getD i noCb
theorem lyA_lt {l:List Ly}{i:Nat}(h:i<l.length):lyA l i=l[i]:=by simp[lyA,List.getD,h]
theorem cbA_lt {l:List Cb}{i:Nat}(h:i<l.length):cbA l i=l[i]:=by simp[cbA,List.getD,h]
theorem lyA_set_eq {l:List Ly}{i:Nat}{x:Ly}(h:i<l.length):lyA (l.set i x) i=x:=by simp[lyA,List.getD,h]
theorem lyA_set_ne {l:List Ly}{i j:Nat}{x:Ly}(h:i≠j):lyA (l.set i x) j=lyA l j:=by simp[lyA,List.getD,List.getElem?_set_ne h]
theorem z4i {l:List Cb}{i:Nat}{x:Cb}(h:i<l.length):cbA (l.set i x) i=x:=by simp[cbA,List.getD,h]
theorem cbA_set_ne {l:List Cb}{i j:Nat}{x:Cb}(h:i≠j):cbA (l.set i x) j=cbA l j:=by simp[cbA,List.getD,List.getElem?_set_ne h]
def z3c (ns:List Nd)(h:Nat):List (Int×List Nd):=(List.range (h+1)).flatMap fun(n:Nat)=>(z4k (z52 ns) (n:Int)).map fun c=>((n:Int),c)
def shA (S:List (Int×List Nd))(i:Nat):Int×List Nd:=S.getD i (0,[])
theorem shA_lt {S:List (Int×List Nd)}{i:Nat}(h:i<S.length):shA S i=S[i]:=by simp[shA,List.getD,h]
theorem mem_shpL {ns:List Nd}{h:Nat}{x:Int×List Nd}:x∈z3c ns h↔∃n:Nat,n≤h∧x.1=n∧x.2∈z4k (z52 ns) n:=by
 simp only[z3c,List.mem_flatMap,List.mem_range,List.mem_map]
 constructor
 ·rintro⟨n,hn,c,hc,rfl⟩;exact⟨n,by omega,rfl,hc⟩
 ·rintro⟨n,hn,h1,h2⟩;exact⟨n,by omega,x.2,h2,by rw[←h1]⟩
theorem cls_disj {lv:Int}(h16:lv≤16)(l:List Nd):(z4k l lv).Pairwise fun c d=> ∀x∈c,x∉d:=by
 have h:=(clsN_ok h16 l).1
 have:∀c∈z4k l lv,∀x∈c,z3x x.word (hdN c).word lv=true:=fun c hc x hx=>by
  rw[h.eq c hc,grpW,List.mem_filter] at hx;exact hx.2
 refine List.Pairwise.imp_of_mem ?_ h.pw;intro c d hc hd hs x h1 h2;have:=sameW_trans (sameW_symm (this c hc x h1)) (this d hd x h2);rw[hs] at this;cases this
theorem shpL_pw (ns:List Nd):∀h:Nat,h≤16→(z3c ns h).Pairwise fun a b=>a.1=b.1→∀x∈a.2,x∉b.2:=fun h h16=>by
 unfold z3c;rw[List.pairwise_flatMap];refine⟨fun n hn=> ?_,?_⟩
 ·rw[List.mem_range] at hn;rw[List.pairwise_map];refine(cls_disj (lv:=(n:Int)) (by omega) (z52 ns)).imp ?_;intro a b hh _;exact hh
 ·refine List.Pairwise.imp ?_ List.pairwise_lt_range;intro a b hab x hx y hy e;simp only[List.mem_map] at hx hy;obtain⟨_,_,rfl⟩:=hx;obtain⟨_,_,rfl⟩:=hy;dsimp only at e;omega
structure LyOk (x:Ly) (s:Int×List Nd) (m:Nat):Prop where
 lvl:x.lvl=s.1
 ids:x.ids=s.2.map (·.id)
 len:x.cs.length=s.2.length+2
 key:∀k,k<s.2.length→(cl x.cs (k+2)).key=(nd s.2 k).key
 wd:x.wd=(hdN s.2).word
 pn:x.ps.length=m
structure Fsh (fo:Fo):Prop where
 ck:z1r fo.ns=0
 sm:fo.ns.length≤19
 h0:0≤fo.ht
 h16:fo.ht≤16
 m1:1≤fo.cb.length
 m8:fo.cb.length≤8
 len:fo.ly.length=(z3c fo.ns fo.ht.toNat).length
 at_:∀i,i<fo.ly.length→LyOk (lyA fo.ly i) (shA (z3c fo.ns fo.ht.toNat) i) fo.cb.length
def idI (ids:List Int)(v:Int):Int:=idxB ids.length fun q=>decide (nth ids q=v)
def plP (L:List Ly)(id lv:Int)(i:Nat):Bool:=(lyA L i).lvl==lv && decide (0≤idI (lyA L i).ids id)
def plI (L:List Ly)(id lv:Int):Int:=idxB L.length (plP L id lv)
def plK (L:List Ly)(id lv:Int):Int:=if plI L id lv<0 then 0 else idI (lyA L (plI L id lv).toNat).ids id+2
theorem idI_mem {ids:List Int}{v:Int}(h:0≤idI ids v):∃k,k<ids.length∧idI ids v=k∧nth ids k=v:=by
 rcases z34 ids.length fun q=>decide (nth ids q=v) with⟨h1,_⟩|⟨j,h1,h2,h3,_⟩
 ·unfold idI at h;omega
 ·exact⟨j,h2,h1,of_decide_eq_true h3⟩
theorem idI_of {ids:List Int}{v:Int}{k:Nat}(h:k<ids.length)(e:nth ids k=v):0≤idI ids v:=by
 rcases z34 ids.length fun q=>decide (nth ids q=v) with⟨_,h2⟩|⟨j,h1,_⟩
 ·have:=h2 k h;rw[decide_eq_false_iff_not] at this;exact absurd e this
 ·unfold idI;omega
theorem idI_at {ids:List Int}{v:Int}{k:Nat}(hd:ids.Nodup)(h:k<ids.length)(e:nth ids k=v):idI ids v=k:=by
 obtain⟨j,h1,h2,h3⟩:=idI_mem (idI_of h e);rw[h2];rw[z2w h] at e;rw[z2w h1] at h3;have hp:=List.pairwise_iff_getElem.1 hd;rcases Nat.lt_trichotomy j k with g|g|g
 ·exact absurd (h3.trans e.symm) (hp j k h1 h g)
 ·omega
 ·exact absurd (e.trans h3.symm) (hp k j h h1 g)
section
variable {fo:Fo}
theorem Fsh.cls (h:Fsh fo){i:Nat}(hi:i<fo.ly.length):∃n:Nat,(n:Int)≤fo.ht∧(shA (z3c fo.ns fo.ht.toNat) i).1=n∧(shA (z3c fo.ns fo.ht.toNat) i).2∈z4k (z52 fo.ns) n:=by
 rw[shA_lt (by rw[←h.len];exact hi)];obtain⟨n,h1,h2,h3⟩:=mem_shpL.1 (List.getElem_mem (l:=z3c fo.ns fo.ht.toNat) (n:=i) (by rw[←h.len];exact hi));have:=h.h0;exact⟨n,by omega,h2,h3⟩
theorem cls_sub {lv:Int}(h16:lv≤16){l c:List Nd}(hc:c∈z4k l lv):c.Sublist l:=by
 rw[(clsN_ok h16 l).1.eq c hc];exact List.filter_sublist
theorem ids_inj {ns:List Nd}(hc:z1r ns=0){x y:Nd}(hx:x∈ns)(hy:y∈ns)(e:x.id=y.id):x=y:=by
 obtain⟨i,hi,rfl⟩:=List.getElem_of_mem hx;obtain⟨j,hj,rfl⟩:=List.getElem_of_mem hy;have hp:=((good_iff ns).1 hc).2.2;rcases Nat.lt_trichotomy i j with h|h|h
 ·exact absurd e (twinN_false (List.pairwise_iff_getElem.1 hp i j hi hj h)).1
 ·subst h;rfl
 ·exact absurd e.symm (twinN_false (List.pairwise_iff_getElem.1 hp j i hj hi h)).1
theorem ids_nodup {ns:List Nd}(hc:z1r ns=0):(ns.map (·.id)).Nodup:=by
 rw[List.nodup_iff_pairwise_ne,List.pairwise_map];exact((good_iff ns).1 hc).2.2.imp fun h=>(twinN_false h).1
theorem Fsh.sub (h:Fsh fo){i:Nat}(hi:i<fo.ly.length):(shA (z3c fo.ns fo.ht.toNat) i).2.Sublist (z52 fo.ns):=by
 obtain⟨n,h1,_,h3⟩:=h.cls hi;exact cls_sub (by have:=h.h16;omega) h3
theorem Fsh.mem (h:Fsh fo){i:Nat}(hi:i<fo.ly.length){x:Nd}(hx:x∈(shA (z3c fo.ns fo.ht.toNat) i).2):x∈fo.ns:=
 (z2e fo.ns).mem_iff.2 ((h.sub hi).subset hx)
theorem Fsh.idn (h:Fsh fo){i:Nat}(hi:i<fo.ly.length):(lyA fo.ly i).ids.Nodup:=by
 rw[(h.at_ i hi).ids];exact ids_nodup (good_sub (h.sub hi) (good_perm (z2e _) h.ck))
structure At (fo:Fo) (x:Nd) (lv:Int) (i k:Nat):Prop where
 hi:i<fo.ly.length
 hk:k<(lyA fo.ly i).ids.length
 lvl:(lyA fo.ly i).lvl=lv
 ide:nth (lyA fo.ly i).ids k=x.id
 nde:nd (shA (z3c fo.ns fo.ht.toNat) i).2 k=x
 cel:k+2<(lyA fo.ly i).cs.length
 key:(cl (lyA fo.ly i).cs (k+2)).key=x.key
 pI:plI fo.ly x.id lv=i
 pK:plK fo.ly x.id lv=k+2
 mm:x∈fo.ns
 l0:0≤lv
 lh:lv≤fo.ht
theorem Fsh.uniq (h:Fsh fo){i j:Nat}(hi:i<fo.ly.length)(hj:j<fo.ly.length){x:Nd}(h1:x∈(shA (z3c fo.ns fo.ht.toNat) i).2)(h2:x∈(shA (z3c fo.ns fo.ht.toNat) j).2)
  (he:(shA (z3c fo.ns fo.ht.toNat) i).1=(shA (z3c fo.ns fo.ht.toNat) j).1):i=j:=by
 have hp:=shpL_pw fo.ns fo.ht.toNat (by have:=h.h16;omega);have hi':i<(z3c fo.ns fo.ht.toNat).length:=by rw[←h.len];exact hi
 have hj':j<(z3c fo.ns fo.ht.toNat).length:=by rw[←h.len];exact hj
 rw[shA_lt hi'] at h1 he;rw[shA_lt hj'] at h2 he;rcases Nat.lt_trichotomy i j with g|g|g
 ·exact absurd h2 (List.pairwise_iff_getElem.1 hp i j hi' hj' g he x h1)
 ·exact g
 ·exact absurd h1 (List.pairwise_iff_getElem.1 hp j i hj' hi' g he.symm x h2)
theorem Fsh.mk_at (h:Fsh fo){i k:Nat}(hi:i<fo.ly.length)(hk:k<(lyA fo.ly i).ids.length):At fo (Go.Proofs.nd (shA (z3c fo.ns fo.ht.toNat) i).2 k) (lyA fo.ly i).lvl i k:=by
 have hA:=h.at_ i hi;obtain⟨n,n1,n2,n3⟩:=h.cls hi;have hk':k<(shA (z3c fo.ns fo.ht.toNat) i).2.length:=by rw[hA.ids,List.length_map] at hk;exact hk
 have hx:Go.Proofs.nd (shA (z3c fo.ns fo.ht.toNat) i).2 k∈(shA (z3c fo.ns fo.ht.toNat) i).2:=nd_mem hk'
 have hid:nth (lyA fo.ly i).ids k=(Go.Proofs.nd (shA (z3c fo.ns fo.ht.toNat) i).2 k).id:=by
  rw[z2w hk,z4q hk'];simp only[hA.ids,List.getElem_map]
 have hmem:=h.mem hi hx
 have hI:plI fo.ly (Go.Proofs.nd (shA (z3c fo.ns fo.ht.toNat) i).2 k).id (lyA fo.ly i).lvl=i:=by
  refine idxB_at ?_ hi fun q hq=> ?_
  ·rw[plP,Bool.and_eq_true,beq_iff_eq,decide_eq_true_eq];exact⟨rfl,idI_of hk hid⟩
  ·rw[plP,Bool.and_eq_false_iff]
   by_cases g:(lyA fo.ly q).lvl=(lyA fo.ly i).lvl
   ·right
    rw[decide_eq_false_iff_not];intro g2;obtain⟨j,j1,_,j3⟩:=idI_mem g2;have hqi:q<fo.ly.length:=by omega
    have hB:=h.at_ q hqi;have hj':j<(shA (z3c fo.ns fo.ht.toNat) q).2.length:=by rw[hB.ids,List.length_map] at j1;exact j1
    have hy:Go.Proofs.nd (shA (z3c fo.ns fo.ht.toNat) q).2 j∈(shA (z3c fo.ns fo.ht.toNat) q).2:=nd_mem hj'
    have e1:(Go.Proofs.nd (shA (z3c fo.ns fo.ht.toNat) q).2 j).id=(Go.Proofs.nd (shA (z3c fo.ns fo.ht.toNat) i).2 k).id:=by
     rw[←j3,z2w j1,z4q hj'];simp only[hB.ids,List.getElem_map]
    have e2:=ids_inj h.ck (h.mem hqi hy) hmem e1;rw[e2] at hy;have:=h.uniq hqi hi hy hx (by rw[←hB.lvl,←hA.lvl];exact g);omega
   ·left;simpa using g
 refine⟨hi,hk,rfl,hid,rfl,by have:=hA.len;omega,hA.key k hk',hI,?_,hmem,by rw[hA.lvl,n2];omega,by rw[hA.lvl,n2];exact n1⟩;rw[plK,hI,if_neg (by omega),Int.toNat_natCast,idI_at (h.idn hi) hk hid]
theorem Fsh.place (h:Fsh fo){x:Nd}(hx:x∈fo.ns){lv:Int}(l0:0≤lv)(lh:lv≤fo.ht):∃i k,At fo x lv i k:=by
 have h16:=h.h16;obtain⟨c,hc,hxc⟩:=(clsN_ok (lv:=lv) (by omega) (z52 fo.ns)).2 x ((z2e fo.ns).mem_iff.1 hx);have hm:(lv,c)∈z3c fo.ns fo.ht.toNat:=mem_shpL.2 ⟨lv.toNat,by omega,by dsimp only;omega,by dsimp only;rw[show((lv.toNat:Nat):Int)=lv by omega];exact hc⟩;obtain⟨i,hi,hie⟩:=List.getElem_of_mem hm;have hi':i<fo.ly.length:=by rw[h.len];exact hi
 obtain⟨k,hk,hke⟩:=List.getElem_of_mem hxc;have hs:shA (z3c fo.ns fo.ht.toNat) i=(lv,c):=by rw[shA_lt hi,hie]
 have hA:=h.at_ i hi';have hk':k<(lyA fo.ly i).ids.length:=by rw[hA.ids,hs,List.length_map];exact hk
 have:=h.mk_at hi' hk';rw[hA.lvl,hs] at this;rw[show Go.Proofs.nd c k=x by rw[z4q hk,hke]] at this;exact⟨i,k,this⟩
theorem At.inj (h:Fsh fo){x y:Nd}{lv lw:Int}{i k:Nat}(a:At fo x lv i k)(b:At fo y lw i k):x=y∧lv=lw:=⟨a.nde.symm.trans b.nde,a.lvl.symm.trans b.lvl⟩
end
end Go.Proofs

namespace Go.Sk
open Go.RowKit
def mvM (ρ:Nat→Nat)(f:Nat)(ms:Nat→Option Nat):Pn:=fun id k=>if id=f then(match ms k with|some a=>(a,0)|none=>(ρ id,k)) else(ρ id,k)
def z17 (π:Pn)(m:Nat)(os:List (Nat×Nat×(Nat→Obj))):List (Nat×Nat×(Nat→Obj))→Prop
 |[]=>True
 |(id,c',F')::l=>(∀k,k<c'→F' k≠ .gone→∃o,look os (π id k).1 (π id k).2=some o∧zn π o (F' k)∧(F' k).lt m)∧id<m∧z17 π m os l
theorem z17.get {π:Pn}{m:Nat}{os:List (Nat×Nat×(Nat→Obj))}:∀{os':List (Nat×Nat×(Nat→Obj))},z17 π m os os'→∀id c' F',(id,c',F')∈os'→∀k,k<c'→F' k≠ .gone→
  id<m∧(F' k).lt m∧∃o,look os (π id k).1 (π id k).2=some o∧zn π o (F' k)
 |[],_,_,_,_,hm=>by cases hm
 |(i,c1,F1)::l,h,id,c',F',hm=>by
  obtain⟨h1,h2,h3⟩:=h
  cases hm with
  |head=>
   intro k hk hg;obtain⟨o,q1,q2,q3⟩:=h1 k hk hg;exact⟨h2,q3,o,q1,q2⟩
  |tail _ hm=>exact z17.get h3 id c' F' hm
structure MsOk (X:Cx) (ρ:Nat→Nat) (ms:Nat→Option Nat) (os':List (Nat×Nat×(Nat→Obj))):Prop where
 inj:∀k k' a,ms k=some a→ms k'=some a→k=k'
 out:∀k a,ms k=some a→(os'.all fun x=> !(ρ x.1==a))=true∧X.m0≤a
theorem z54.mkM {X:Cx}{fr:Fr}{H:AH}{fr':Fr}{H':AH}(ρ:Nat→Nat)(f:Nat)(ms:Nat→Option Nat)(hs:MsOk X ρ ms H'.os)(h1:frGivesP (mvM ρ f ms) H'.nxt fr fr')(h2:z17 (mvM ρ f ms) H'.nxt H.os H'.os)(h3:injB ρ H'.os=true)(h3u:ownU H'.os)
  (h4:(List.range X.m0).all (fun id=>ρ id==id)=true)
  (h5:X.m0≤H'.nxt) (h5f:X.m0≤f) (h6:∀x∈H.os,x.1<X.m0→∀k,(x.2.2 k).own=(x.2.2 0).own) (h7:keepB X.m0 H.os H'.os) (h8:bigB X.m0 ρ H'.os=true):z54 X (mvM ρ f ms) fr H fr' H' where
 fr:=frGivesP_ok h1
 os id k o' hl:=by
  have hg:=z38 hl;obtain⟨c,F,hf,hk,rfl⟩:=z1d hl;exact h2.get _ _ _ (z1g hf) k hk hg
 inj id k o id' k' o' hl hl' ho he:=by
  have hna:∀{id k:Nat} {o:Obj} {j a:Nat},look H'.os id k=some o→ms j=some a→ρ id≠a:=fun {id k o j a} h g e=>by
   obtain⟨c,F,hf,hk,rfl⟩:=z1d h;have:=List.all_eq_true.1 (hs.out j a g).1 _ (z1g hf);simp[e] at this
  have hij:InjOn ρ H'.os:= .of h3 h3u
  have hv:∀i j,mvM ρ f ms i j=(ρ i,j)∨∃a,i=f∧ms j=some a∧mvM ρ f ms i j=(a,0):=fun i j=>by
   unfold mvM
   split
   ·rename_i e
    cases g:ms j with
    |none=>exact .inl rfl
    |some a=>exact .inr ⟨a,e,rfl,rfl⟩
   ·exact .inl rfl
  rcases hv id k with e1|⟨a,g1,g2,e1⟩<;>rcases hv id' k' with e2|⟨b,g3,g4,e2⟩<;>rw[e1,e2] at he<;>simp only[Prod.mk.injEq] at he
  ·exact⟨hij _ _ _ _ _ _ hl hl' ho he.1,he.2⟩
  ·exact absurd he.1 (hna hl g4)
  ·exact absurd he.1.symm (hna hl' g2)
  ·have:=he.1;subst this;exact⟨g1.trans g3.symm,hs.inj k k' _ g2 g4⟩
 fix id k hid:=by
  have:=List.all_eq_true.1 h4 id (List.mem_range.2 hid);unfold mvM;rw[if_neg (by omega)];rw[beq_iff_eq] at this;rw[this]
 m0:=h5
 keep id k hid ho:=by
  obtain⟨o,ho1,ho2⟩:=ho;obtain⟨c,F,hf,hk,rfl⟩:=z1d ho1;have:=h7 _ (z1g hf) hid (by have:=h6 _ (z1g hf) hid k;simp only at this;rw[←this];exact ho2);simp only at this
  split at this
  ·rename_i c' F' hf';exact⟨F' k,(zt hf' (by omega)).trans (Obj.opt_of fun e=>by have:=this.2 k;rw[e] at this;cases this),this.2 k⟩
  ·exact this.elim
 big id k o h0 hl ho:=by
  obtain⟨c,F,hf,hk,rfl⟩:=z1d hl;have h9:=List.all_eq_true.1 h8 _ (z1g hf);have h10:=h3u _ (z1g hf) k;simp only[Bool.or_eq_true,decide_eq_true_eq,Bool.not_eq_true'] at h9;simp only at h10;rw[←h10,ho] at h9
  have h11:X.m0≤ρ id:=by
   rcases h9 with(h9|h9)|h9
   ·omega
   ·exact h9
   ·cases h9
  unfold mvM
  split
  ·cases g:ms k with
   |none=>exact h11
   |some a=>exact(hs.out k a g).2
  ·exact h11
theorem zx {ρ:Nat→Nat}{f:Nat}{ms:Nat→Option Nat}{m:Nat}{os l:List (Nat×Nat×(Nat→Obj))}{id c:Nat}{F:Nat→Obj}{o':Obj}(hid:id≠f)(hf:find os (ρ id)=some (c,F))(hc:0<c)(h:zn (mvM ρ f ms) (F 0) o')(hl:o'.lt m)(hm:id<m)(ht:z17 (mvM ρ f ms) m os l):z17 (mvM ρ f ms) m os ((id,uQ o')::l):=by
 refine⟨fun k hk _=> ?_,hm,ht⟩
 have hk0:k=0:=by
  have:k<1:=hk;omega
 subst hk0;have e:mvM ρ f ms id 0=(ρ id,0):=if_neg hid;rw[e];exact⟨F 0,(zt hf hc).trans (Obj.opt_of (z23 h)),h,hl⟩
theorem z17.consF {ρ:Nat→Nat}{f:Nat}{ms:Nat→Option Nat}{m:Nat}{os l:List (Nat×Nat×(Nat→Obj))}{c c':Nat}{o o':Bool}{e e':TypeId}{sz sz':Nat}{G G':Nat→Obj}(hf:find os (ρ f)=some (c,fam o e sz G))(h0:0<c)(h1:(o'=true→o=true∧e'=e)∧sz'=sz)(hz:ms 0=none)
  (h:∀i,i+1<c'→match ms (i+1) with
   |some a=> ∃ca Fa,find os a=some (ca,Fa)∧0<ca∧zn (mvM ρ f ms) (Fa 0) (G' i)∧(G' i).lt m
   |none=>i+1<c∧zn (mvM ρ f ms) (G i) (G' i)∧(G' i).lt m) (hm:f<m) (ht:z17 (mvM ρ f ms) m os l):z17 (mvM ρ f ms) m os ((f,(c',fam o' e' sz' G'))::l):=by
 refine⟨fun k hk _=> ?_,hm,ht⟩
 cases k with
 |zero=>
  have e9:mvM ρ f ms f 0=(ρ f,0):=by unfold mvM;rw[if_pos rfl,hz]
  rw[e9]
  have q:zn (mvM ρ f ms) (fam o e sz G 0) (fam o' e' sz' G' 0):=by
   simp only[fam,zn,zm];exact⟨h1.1,h1.2,Nat.le_refl _,fun i hi=>absurd hi (Nat.not_lt_zero _)⟩
  exact⟨_,(zt hf h0).trans (Obj.opt_of (z23 q)),q,fun i j s hi _=>absurd hi (Nat.not_lt_zero _)⟩
 |succ i=>
  have:=h i hk
  cases g:ms (i+1) with
  |some a=>
   rw[g] at this;obtain⟨ca,Fa,q1,q2,q3,q4⟩:=this;have e:mvM ρ f ms f (i+1)=(a,0):=by unfold mvM;rw[if_pos rfl,g]
   rw[e];exact⟨Fa 0,(zt q1 q2).trans (Obj.opt_of (z23 q3)),q3,q4⟩
  |none=>
   rw[g] at this;obtain⟨q1,q2,q3⟩:=this;have e:mvM ρ f ms f (i+1)=(ρ f,i+1):=by unfold mvM;rw[if_pos rfl,g]
   rw[e];exact⟨G i,(zt hf q1).trans (Obj.opt_of (z23 q2)),q2,q3⟩
theorem z17.consO {ρ:Nat→Nat}{f:Nat}{ms:Nat→Option Nat}{m:Nat}{os l:List (Nat×Nat×(Nat→Obj))}{id c c':Nat}{o o':Bool}{e e':TypeId}{sz sz':Nat}{G G':Nat→Obj}(hid:id≠f)(hf:find os (ρ id)=some (c,fam o e sz G))
  (h1:(o'=true→o=true∧e'=e)∧sz'=sz) (h0:0<c) (hc:c'≤c) (h:∀i,i+1<c'→zn (mvM ρ f ms) (G i) (G' i)∧(G' i).lt m) (hm:id<m) (ht:z17 (mvM ρ f ms) m os l):z17 (mvM ρ f ms) m os ((id,(c',fam o' e' sz' G'))::l):=by
 refine⟨fun k hk _=> ?_,hm,ht⟩;have e0:mvM ρ f ms id k=(ρ id,k):=if_neg hid;rw[e0]
 cases k with
 |zero=>
  have q:zn (mvM ρ f ms) (fam o e sz G 0) (fam o' e' sz' G' 0):=by
   simp only[fam,zn,zm];exact⟨h1.1,h1.2,Nat.le_refl _,fun i hi=>absurd hi (Nat.not_lt_zero _)⟩
  exact⟨_,(zt hf h0).trans (Obj.opt_of (z23 q)),q,fun i j s hi _=>absurd hi (Nat.not_lt_zero _)⟩
 |succ i=>
  obtain⟨q1,q2⟩:=h i hk;exact⟨G i,(zt hf (by omega)).trans (Obj.opt_of (z23 q1)),q1,q2⟩
structure GmR (X:Cx) (ρ:Nat→Nat) (f:Nat) (H1:AH):Prop where
 a3:injB ρ H1.os=true
 a5:(List.range X.m0).all (fun id=>ρ id==id)=true
 a6:X.m0≤H1.nxt
 a6f:X.m0≤f
 a9:bigB X.m0 ρ H1.os=true
theorem gmS {X:Cx}{fr:Fr}{H:AH}{fr1:Fr}{H1:AH}(ρ:Nat→Nat)(f:Nat)(ms:Nat→Option Nat)(hs:MsOk X ρ ms H1.os)(a2:z17 (mvM ρ f ms) H1.nxt H.os H1.os)(q:GpQ X (mvM ρ f ms) fr H fr1 H1)(r:GmR X ρ f H1):z54 X (mvM ρ f ms) fr H fr1 H1:=
 z54.mkM ρ f ms hs q.a1 a2 r.a3 q.a4 r.a5 r.a6 r.a6f q.a7 q.a8 r.a9
def ms3 (j a b c:Nat):Nat→Option Nat:=fun k=>if k=3*j+1 then some a else if k=3*j+2 then some b else if k=3*j+3 then some c else none
def ms2 (j b c:Nat):Nat→Option Nat:=fun k=>if k=3*j+2 then some b else if k=3*j+3 then some c else none
theorem ms3_ok {X:Cx}{ρ:Nat→Nat}{os:List (Nat×Nat×(Nat→Obj))}(j:Nat){a b c:Nat}(h:a≠b∧a≠c∧b≠c)(ho:(os.all fun x=> !(ρ x.1==a))=true∧(os.all fun x=> !(ρ x.1==b))=true∧(os.all fun x=> !(ρ x.1==c))=true)(hm:X.m0≤a∧X.m0≤b∧X.m0≤c):MsOk X ρ (ms3 j a b c) os:=by
 refine⟨fun k k' z h1 h2=> ?_,fun k z h1=> ?_⟩
 ·unfold ms3 at h1 h2
  (repeat' split at h1)<;>(repeat' split at h2)<;>first|omega|(simp only[Option.some.injEq,reduceCtorEq] at h1 h2<;>omega)
 ·unfold ms3 at h1
  (repeat' split at h1)<;>simp only[Option.some.injEq,reduceCtorEq] at h1<;>subst h1
  ·exact⟨ho.1,hm.1⟩
  ·exact⟨ho.2.1,hm.2.1⟩
  ·exact⟨ho.2.2,hm.2.2⟩
theorem ms2_ok {X:Cx}{ρ:Nat→Nat}{os:List (Nat×Nat×(Nat→Obj))}(j:Nat){b c:Nat}(h:b≠c)(ho:(os.all fun x=> !(ρ x.1==b))=true∧(os.all fun x=> !(ρ x.1==c))=true)(hm:X.m0≤b∧X.m0≤c):MsOk X ρ (ms2 j b c) os:=by
 refine⟨fun k k' z h1 h2=> ?_,fun k z h1=> ?_⟩
 ·unfold ms2 at h1 h2
  (repeat' split at h1)<;>(repeat' split at h2)<;>first|omega|(simp only[Option.some.injEq,reduceCtorEq] at h1 h2<;>omega)
 ·unfold ms2 at h1
  (repeat' split at h1)<;>simp only[Option.some.injEq,reduceCtorEq] at h1<;>subst h1
  ·exact⟨ho.1,hm.1⟩
  ·exact⟨ho.2,hm.2⟩
end Go.Sk

namespace Go.Sk
open Go.RowKit
def HGivesJ (π:Pn)(m:Nat)(os:List (Nat×Nat×(Nat→Obj))):List (Nat×Nat×(Nat→Obj))→Prop
 |[]=>True
 |(id,c',F')::l=>(∀k,k<c'→∃c F,find os (π id k).1=some (c,F)∧(π id k).2<c∧zn π (F (π id k).2) (F' k)∧(F' k).lt m)∧id<m∧HGivesJ π m os l
theorem HGivesJ.get {π:Pn}{m:Nat}{os:List (Nat×Nat×(Nat→Obj))}:∀{os':List (Nat×Nat×(Nat→Obj))},HGivesJ π m os os'→∀id c' F',(id,c',F')∈os'→∀k,k<c'→
  id<m∧(F' k).lt m∧∃o,look os (π id k).1 (π id k).2=some o∧zn π o (F' k)
 |[],_,_,_,_,hm=>by cases hm
 |(i,c1,F1)::l,h,id,c',F',hm=>by
  obtain⟨h1,h2,h3⟩:=h
  cases hm with
  |head=>
   intro k hk;obtain⟨c,F,q0,q1,q2,q3⟩:=h1 k hk;exact⟨h2,q3,_,(zt q0 q1).trans (Obj.opt_of (z23 q2)),q2⟩
  |tail _ hm=>exact HGivesJ.get h3 id c' F' hm
end Go.Sk

namespace Go.Sk
open Go.RowKit
def anP (ρ:Nat→Nat)(f:Nat)(μ:Nat→Nat×Nat):Pn:=fun id k=>if id=f∧0<k then μ k else(ρ id,k)
theorem z2q {ρ:Nat→Nat}{f m:Nat}{μ:Nat→Nat×Nat}{os l:List (Nat×Nat×(Nat→Obj))}{id c:Nat}{F:Nat→Obj}{o':Obj}(hf:find os (ρ id)=some (c,F))(hc:0<c)(h:zn (anP ρ f μ) (F 0) o')(hl:o'.lt m)(hm:id<m)(ht:HGivesJ (anP ρ f μ) m os l):HGivesJ (anP ρ f μ) m os ((id,uQ o')::l):=by
 refine⟨fun k hk=> ?_,hm,ht⟩
 have hk0:k=0:=by
  have:k<1:=hk;omega
 subst hk0;have e:anP ρ f μ id 0=(ρ id,0):=by rw[anP,if_neg (by omega)]
 rw[e];exact⟨c,F,hf,hc,h,hl⟩
section
variable {X:Cx} {Q:Exit→Fr→AH→Prop} {fr:Fr} {H:AH} {l:List Code}
theorem wkL_len:∀{a b:List SV},SV.wkL a b→a.length=b.length
 |[],[],_=>rfl
 |_::a,_::b,h=>by simp[wkL_len h.2]
 |[],_::_,h=>h.elim
 |_::_,[],h=>h.elim
theorem wkL_get9:∀{a b:List SV},SV.wkL a b→∀(j:Nat) (s:SV),b[j]? =some s→∃s0,a[j]? =some s0∧SV.wk s0 s
 |[],[],_,j,s,h=>by simp at h
 |x::a,y::b,h,j,s,hj=>by
  cases j with
  |zero=>simp at hj;subst hj;exact⟨x,by simp,h.1⟩
  |succ j=>simp at hj;simpa using wkL_get9 h.2 j s hj
 |[],_::_,h,_,_,_=>h.elim
 |_::_,[],h,_,_,_=>h.elim
end
end Go.Sk

namespace Go.Sk
open Go.RowKit
def rowWk (m:Nat):Obj→Obj→Prop
 |.row a,.row b=>a.own=false∧b.own=false∧b.sz=a.sz∧b.n≤a.n∧∀i,i<b.n→SV.wkL (a.f i) (b.f i)∧(∀s∈b.f i,s.scalar=true)∧SV.ltL m (b.f i)
 |_,_=>False
def oWk (m:Nat)(a b:Obj):Prop:=a=b∨rowWk m a b
theorem rowWk_own {m:Nat}{a b:Obj}(h:rowWk m a b):a.own=false∧b.own=false:=by
 cases a<;>cases b<;>simp only[rowWk] at h
 exact⟨h.1,h.2.1⟩
theorem oWk_own {m:Nat}{a b:Obj}(h:oWk m a b):a.own=b.own∧(b.own=true→a=b):=by
 rcases h with rfl|h
 ·exact⟨rfl,fun _=>rfl⟩
 ·obtain⟨h1,h2⟩:=rowWk_own h;exact⟨h1.trans h2.symm,fun e=>by rw[h2] at e;cases e⟩
theorem oWk_gone {m:Nat}{a b:Obj}(h:oWk m a b):a= .gone↔b= .gone:=by
 rcases h with rfl|h
 ·exact Iff.rfl
 ·cases a<;>cases b<;>simp only[rowWk] at h
  exact⟨fun e=>(by cases e),fun e=>(by cases e)⟩
theorem oWk_holds {m:Nat}{a b:Obj}(h:oWk m a b){β:Env}{w:World}{q:Option Loc}(hh:a.holds β w q):b.holds β w q:=by
 rcases h with rfl|h
 ·exact hh
 ·cases a<;>cases b<;>simp only[rowWk] at h
  rename_i x y;obtain⟨_,h2,h3,h4,h5⟩:=h;rcases hh with⟨g1,g2⟩|⟨L,g0,g1,g2,g3,_⟩
  ·exact .inl ⟨by omega,g2⟩
  ·refine .inr ⟨L,g0,by rw[g1,h3],g2,fun i hi=> ?_,fun e=>by rw[h2] at e;cases e⟩;obtain⟨q1,q2⟩:=g3 i (by omega);obtain⟨e1,e2,_⟩:=h5 i hi;refine⟨by rw[←wkL_len e1,q1,h3],fun j s hs=> ?_⟩;obtain⟨s0,hs0,hw⟩:=wkL_get9 e1 j s hs;obtain⟨_,v,c2,c3⟩:=q2 j s0 hs0;exact⟨e2 s (List.mem_of_getElem? hs),v,c2,SV.wk_den hw c3⟩
theorem ltL_get9 {m:Nat}:∀{l:List SV},SV.ltL m l→∀(j:Nat) (s:SV),l[j]? =some s→s.lt m
 |[],_,j,s,h=>by simp at h
 |a::l,hl,j,s,h=>by
  cases j with
  |zero=>simp at h;subst h;exact hl.1
  |succ j=>simp at h;exact ltL_get9 hl.2 j s h
theorem oWk_lt {m:Nat}{a b:Obj}(h:oWk m a b)(hh:a.lt m):b.lt m:=by
 rcases h with rfl|h
 ·exact hh
 ·cases a<;>cases b<;>simp only[rowWk] at h
  exact fun i j s hi hs=>ltL_get9 (h.2.2.2.2 i hi).2.2 j s hs
def HWk (m:Nat):List (Nat×Nat×(Nat→Obj))→List (Nat×Nat×(Nat→Obj))→Prop
 |[],[]=>True
 |(i1,c1,F1)::l1,(i0,c0,F0)::l0=>(i1=i0∧c1=c0∧∀k,oWk m (F1 k) (F0 k))∧HWk m l1 l0
 |_,_=>False
theorem HWk.find {m:Nat}:∀{os1 os0:List (Nat×Nat×(Nat→Obj))},HWk m os1 os0→∀id,(Sk.find os1 id=none∧Sk.find os0 id=none)∨∃c F1 F0,Sk.find os1 id=some (c,F1)∧Sk.find os0 id=some (c,F0)∧∀k,oWk m (F1 k) (F0 k)
 |[],[],_,_=> .inl ⟨rfl,rfl⟩
 |(i1,c1,F1)::l1,(i0,c0,F0)::l0,hh,id=>by
  obtain⟨⟨rfl,rfl,h2⟩,h3⟩:=hh;simp only[Sk.find]
  by_cases e:i1=id
  ·rw[if_pos e,if_pos e];exact .inr ⟨c1,F1,F0,rfl,rfl,h2⟩
  ·rw[if_neg e,if_neg e];exact HWk.find h3 id
 |[],_::_,hh,_=>hh.elim
 |_::_,[],hh,_=>hh.elim
theorem HWk.look {m:Nat}{os1 os0:List (Nat×Nat×(Nat→Obj))}(h:HWk m os1 os0)(id k:Nat):(Sk.look os1 id k=none∧Sk.look os0 id k=none)∨∃o1 o0,Sk.look os1 id k=some o1∧Sk.look os0 id k=some o0∧oWk m o1 o0:=by
 have no:∀{os:List (Nat×Nat×(Nat→Obj))} {id k:Nat},(∀c F,Sk.find os id=some (c,F)→k<c→F k= .gone)→Sk.look os id k=none:=fun {os id k} g=>by
  cases hl:Sk.look os id k with
  |none=>rfl
  |some o=>
   obtain⟨c,F,hf,hk,rfl⟩:=z1d hl;exact absurd (g c F hf hk) (z38 hl)
 rcases h.find id with⟨h1,h2⟩|⟨c,F1,F0,h1,h2,h3⟩
 ·exact .inl ⟨no fun c F hf=>(by rw[h1] at hf;cases hf),no fun c F hf=>(by rw[h2] at hf;cases hf)⟩
 ·by_cases hk:k<c
  ·by_cases hg:F0 k= .gone
   ·have hg1:=(oWk_gone (h3 k)).2 hg;exact .inl ⟨no fun c' F hf _=>(by rw[h1] at hf;cases hf;exact hg1),no fun c' F hf _=>(by rw[h2] at hf;cases hf;exact hg)⟩
   ·refine .inr ⟨F1 k,F0 k,(zt h1 hk).trans (Obj.opt_of fun e=>hg ((oWk_gone (h3 k)).1 e)),(zt h2 hk).trans (Obj.opt_of hg),h3 k⟩
  ·exact .inl ⟨no fun c' F hf hk'=>(by rw[h1] at hf;cases hf;exact absurd hk' hk),no fun c' F hf hk'=>(by rw[h2] at hf;cases hf;exact absurd hk' hk)⟩
theorem HWk.own {m:Nat}{os1 os0:List (Nat×Nat×(Nat→Obj))}(h:HWk m os1 os0){id k:Nat}{o:Obj}(ho:o.own=true):Sk.look os1 id k=some o↔Sk.look os0 id k=some o:=by
 rcases h.look id k with⟨h1,h2⟩|⟨o1,o0,h1,h2,h3⟩
 ·rw[h1,h2]
 ·rw[h1,h2];obtain⟨g1,g2⟩:=oWk_own h3
  constructor
  ·intro e;cases e;rw[g2 (g1.symm.trans ho)]
  ·intro e;cases e;rw[g2 ho]
theorem HWk.mem {m:Nat}:∀{os1 os0:List (Nat×Nat×(Nat→Obj))},HWk m os1 os0→∀y∈os0,(y.2.2 0).own=true→(∀k,(y.2.2 k).own=(y.2.2 0).own)→y∈os1
 |[],[],_,y,h,_,_=>h
 |(i1,c1,F1)::l1,(i0,c0,F0)::l0,hh,y,h,ho,hu=>by
  obtain⟨⟨rfl,rfl,h2⟩,h3⟩:=hh
  cases h with
  |head=>
   have:F1=F0:=funext fun k=>(oWk_own (h2 k)).2 (by have:=hu k;simp only at this ho;rw[this,ho]);rw[this];exact List.mem_cons_self ..
  |tail _ h=>exact List.mem_cons_of_mem _ (HWk.mem h3 y h ho hu)
 |[],_::_,hh,_,_,_,_=>hh.elim
 |_::_,[],hh,_,_,_,_=>hh.elim
theorem zf.less {P:Program}{f:FuncId}{args:List SV}{H0:AH}{R:SV→AH→Prop}(hF:zf P f args H0 R){os1:List (Nat×Nat×(Nat→Obj))}(hos:HWk H0.nxt os1 H0.os)(hu:ownU H0.os):zf P f args ⟨H0.nxt,os1⟩ R:=by
 intro X β w vs hP hm0 hw hβ ho hS hd hlt
 have hS':St X β H0 w:=by
  refine⟨hS.os,hS.tape,hS.output,hS.size,hS.fix,fun id k o0 h=> ?_,fun id k id' k' o0 o' L L' h h' how hb hb' he=> ?_,fun b hb hn=> ?_,fun id k o0 L h how hb=> ?_,fun id k hb=> ?_,hS.m0,fun id k o0 h=> ?_,hS.tabs,hS.drawn⟩
  ·rcases hos.look id k with⟨_,h2⟩|⟨o1,o0',h1,h2,h3⟩
   ·rw[h2] at h;cases h
   ·rw[h2] at h;cases h
    exact oWk_holds h3 (hS.holds _ _ _ h1)
  ·rcases hos.look id' k' with⟨_,h2⟩|⟨o1,o0',h1,h2,h3⟩
   ·rw[h2] at h';cases h'
   ·exact hS.sep _ _ _ _ _ _ _ _ ((hos.own how).2 h) h1 how hb hb' he
  ·exact hS.old b hb fun id k o0 L h how hbb=>hn id k o0 L ((hos.own how).1 h) how hbb
  ·exact hS.mine _ _ _ _ ((hos.own how).2 h) how hb
  ·obtain⟨h1,o,h2,h3⟩:=hS.keep id k hb;exact⟨h1,o,(hos.own h3).1 h2,h3⟩
  ·rcases hos.look id k with⟨_,h2⟩|⟨o1,o0',h1,h2,h3⟩
   ·rw[h2] at h;cases h
   ·rw[h2] at h;cases h
    obtain⟨g1,g2⟩:=hS.lt _ _ _ h1;exact⟨g1,oWk_lt h3 g2⟩
 have ho':X.own0=fun id k=> ∃o,Sk.look H0.os id k=some o∧o.own=true:=by
  rw[ho]
  funext id k
  apply propext
  constructor
  ·rintro⟨o,h1,h2⟩;exact⟨o,(hos.own h2).1 h1,h2⟩
  ·rintro⟨o,h1,h2⟩;exact⟨o,(hos.own h2).2 h1,h2⟩
 refine(hF X β w vs hP hm0 hw hβ ho' hS' hd hlt).mono ?_;rintro e w' ⟨v,rfl,β',s,H',hR,hown,h2,h3,h4⟩;refine⟨v,rfl,β',s,H',hR,fun x hx=> ?_,h2,h3,h4⟩;obtain⟨h1,h5⟩:=hown x hx;refine⟨h1,?_⟩;rcases h5 with h5|⟨y,hy,e1,e2,e3⟩
 ·exact .inl h5
 ·exact .inr ⟨y,hos.mem y hy e3 (hu y hy),e1,e2,e3⟩
end Go.Sk

namespace Go.Sk
open Go.RowKit
def z2z.renP (π:Pn):z2z→z2z
 |.ints n h g z=> .ints n h (fun a=>(g a).renP π) (z.renP π)
 |.prs n h g z=> .prs n h (fun a b=>(g a b).renP π) (z.renP π)
theorem z2z.renP_n (π:Pn)(M:z2z):(M.renP π).n=M.n:=by cases M<;>rfl
theorem z2z.renP_has (π:Pn)(M:z2z)(v:Value):(M.renP π).has v=M.has v:=by cases M<;>rfl
theorem z2z.renP_z (π:Pn)(M:z2z):(M.renP π).z=M.z.renP π:=by cases M<;>rfl
theorem z2z.renP_val (π:Pn)(M:z2z)(v:Value):(M.renP π).val v=(M.val v).renP π:=by
 cases M<;>simp only[z2z.renP,z2z.val]<;>split<;>rfl
def Obj.renP (π:Pn):Obj→Obj
 |.row r=> .row {r with f:=fun i=>SV.renPL π (r.f i)}
 |.mapo o M=> .mapo o (M.renP π)
 |o=>o
theorem Obj.renP_own (π:Pn)(o:Obj):(o.renP π).own=o.own:=by cases o<;>rfl
theorem Obj.renP_gone {π:Pn}{o:Obj}(h:o.renP π≠ .gone):o≠ .gone:=by
 cases o<;>simp[Obj.renP] at h ⊢
theorem Obj.renP_holds {π:Pn}{o:Obj}{β:Env}{w:World}{q:Option Loc}(h:o.holds (β.viaP π) w q):(o.renP π).holds β w q:=by
 cases o with
 |row r=>
  rcases h with h|⟨L,hq,h1,h2,h3,h4⟩
  ·exact .inl h
  ·refine .inr ⟨L,hq,h1,h2,fun i hi=> ?_,h4⟩;obtain⟨q1,q2⟩:=h3 i hi;refine⟨by show(SV.renPL π (r.f i)).length=_;rw[renPL_eq,List.length_map];exact q1,fun j s hs=> ?_⟩;have hs':(SV.renPL π (r.f i))[j]? =some s:=hs;rw[renPL_eq,List.getElem?_map,Option.map_eq_some_iff] at hs';obtain⟨s0,hs0,rfl⟩:=hs';obtain⟨a,v,b,c⟩:=q2 j s0 hs0;exact⟨by rw[scalar_renP];exact a,v,b,(z3g s0 v).2 c⟩
 |blk _ p=>exact h
 |gone=>trivial
 |mapo _ M=>
  obtain⟨L,b,hq,hb,es,clk,e1,e2,e6,e3,e4,e5⟩:=h;refine⟨L,b,hq,hb,es,clk,e1,e2.trans (M.renP_n π).symm,e6,fun k=>by rw[M.renP_has];exact e3 k,fun e he=>by rw[M.renP_val];exact(z3g _ _).2 (e4 e he),fun k hk v hv=> ?_⟩;rw[M.renP_has] at hk;rw[M.renP_z] at hv;rw[M.renP_val];exact(z3g _ _).2 (e5 k hk v ((z3g _ _).1 hv))
mutual
theorem lt_renP {π:Pn}{m m':Nat}(h:∀id k,id<m→(π id k).1<m'):∀(s:SV),s.lt m→(s.renP π).lt m'
 |.int ..,_=>trivial
 |.bool _,_=>trivial
 |.str _,_=>trivial
 |.nilp,_=>trivial
 |.nils,_=>trivial
 |.nilfn,_=>trivial
 |.raw _,_=>trivial
 |.ptr ..,hl=>h _ _ hl
 |.slc ..,hl=>h _ _ hl
 |.mp ..,hl=>h _ _ hl
 |.fn _ l,hl=>ltL_renP h l hl
 |.agg l,hl=>ltL_renP h l hl
 |.tup l,hl=>ltL_renP h l hl
 |.gd _ s,hl=>fun hg=>lt_renP h s (hl hg)
 |.ifc _ s,hl=>lt_renP h s hl
theorem ltL_renP {π:Pn}{m m':Nat}(h:∀id k,id<m→(π id k).1<m'):∀(l:List SV),SV.ltL m l→SV.ltL m' (SV.renPL π l)
 |[],_=>trivial
 |s::l,hl=>⟨lt_renP h s hl.1,ltL_renP h l hl.2⟩
end
theorem Obj.renP_lt {π:Pn}{m m':Nat}(h:∀id k,id<m→(π id k).1<m'){o:Obj}(hl:o.lt m):(o.renP π).lt m':=by
 cases o with
 |row r=>
  intro i j s hi hs;have hs':(SV.renPL π (r.f i))[j]? =some s:=hs;rw[renPL_eq,List.getElem?_map,Option.map_eq_some_iff] at hs';obtain⟨s0,hs0,rfl⟩:=hs';exact lt_renP h s0 (hl i j s0 hi hs0)
 |blk _ _=>trivial
 |gone=>trivial
 |mapo _ M=>exact⟨by rw[M.renP_z];exact lt_renP h _ hl.1,fun v=>by rw[M.renP_val];exact lt_renP h _ (hl.2 v)⟩
def memP (π:Pn)(m:Nat):Pn:=fun id k=>if id<m then π id k else(id,k)
def renPOs (π:Pn)(os:List (Nat×Nat×(Nat→Obj))):List (Nat×Nat×(Nat→Obj)):=os.map fun x=>(x.1,x.2.1,fun k=>(x.2.2 k).renP π)
theorem find_renPOs {π:Pn}:∀(os:List (Nat×Nat×(Nat→Obj))) (id:Nat),find (renPOs π os) id=(find os id).map fun x=>(x.1,fun k=>(x.2 k).renP π)
 |[],_=>rfl
 |(i,c,F)::os,id=>by
  simp only[renPOs,List.map_cons,find]
  split
  ·rfl
  ·exact find_renPOs os id
theorem look_renPOs {π:Pn}{os:List (Nat×Nat×(Nat→Obj))}{id k:Nat}{o:Obj}(h:look (renPOs π os) id k=some o):∃o0,look os id k=some o0∧o=o0.renP π:=by
 have hg:=z38 h;obtain⟨c,F,hf,hk,rfl⟩:=z1d h;rw[find_renPOs,Option.map_eq_some_iff] at hf;obtain⟨⟨c0,F0⟩,hf0,he⟩:=hf
 cases he
 exact⟨F0 k,(zt hf0 hk).trans (Obj.opt_of (Obj.renP_gone hg)),rfl⟩
theorem look_renPOs' {π:Pn}{os:List (Nat×Nat×(Nat→Obj))}{id k:Nat}{o0:Obj}(h:look os id k=some o0):look (renPOs π os) id k=some (o0.renP π):=by
 have hg:=z38 h;obtain⟨c,F,hf,hk,rfl⟩:=z1d h;refine(zt (F:=fun k=>(F k).renP π) (by rw[find_renPOs,hf];rfl) hk).trans (Obj.opt_of ?_)
 revert hg
 cases F k<;>simp[Obj.renP]
def HMem (π:Pn)(m:Nat)(os1:List (Nat×Nat×(Nat→Obj))):List (Nat×Nat×(Nat→Obj))→Prop
 |[]=>True
 |(id,c',F')::l=>(id<m∧(∀k,(F' k).own=false)∧∀k,k<c'→(F' k).lt m∧match find os1 (π id k).1 with
   |some (c,F)=>(π id k).2<c∧zn π (F (π id k).2) (F' k)
   |none=>False)∧HMem π m os1 l
theorem HMem.get {π:Pn}{m:Nat}{os1:List (Nat×Nat×(Nat→Obj))}:∀{os:List (Nat×Nat×(Nat→Obj))},HMem π m os1 os→∀{id k:Nat} {o:Obj},look os id k=some o→
  id<m∧o.own=false∧o.lt m∧∃o1,look os1 (π id k).1 (π id k).2=some o1∧zn π o1 o
 |[],_,_,_,_,h=>by simp[look,find] at h
 |(i,c',F')::l,hm,id,k,o,h=>by
  obtain⟨⟨h1,h0,h2⟩,h3⟩:=hm;rw[z1a] at h
  split at h
  ·rename_i he;subst he
   split at h
   ·rename_i hk;obtain⟨rfl,_⟩:=Obj.opt_some h;obtain⟨q2,q3⟩:=h2 k hk
    split at q3
    ·rename_i c F hf;exact⟨h1,h0 k,q2,_,(zt hf q3.1).trans (Obj.opt_of (z23 q3.2)),q3.2⟩
    ·exact q3.elim
   ·cases h
  ·exact HMem.get h3 h
theorem zf.mem {P:Program}{f:FuncId}{args0:List SV}{H0:AH}{R:SV→AH→Prop}(hF:zf P f args0 H0 R)(π:Pn){os1:List (Nat×Nat×(Nat→Obj))}
  (hm:HMem π H0.nxt os1 H0.os) (hl0:SV.ltL H0.nxt args0) (hπ:∀id k,id<H0.nxt→(π id k).1<H0.nxt) (hu:∀x∈os1,∀k,(x.2.2 k).own=false):
  zf P f (SV.renPL π args0) ⟨H0.nxt,os1⟩ (fun s H'=> ∃s0 H0',R s0 H0'∧s=s0.renP (memP π H0.nxt)∧H'=⟨H0'.nxt,renPOs (memP π H0.nxt) H0'.os⟩):=by
 intro X β w vs hP hm0 hw hβ ho hS hd hlt
 have hno:∀{id k:Nat} {o:Obj},look H0.os id k=some o→¬o.own=true:=fun h e=>by
  have:=(hm.get h).2.1;rw[this] at e;cases e
 have hno1:∀{id k:Nat} {o:Obj},look os1 id k=some o→¬o.own=true:=fun h e=>by
  obtain⟨c,F,hf,_,rfl⟩:=z1d h;have:=hu _ (z1g hf);rw[this] at e;cases e
 let Y:Cx:=⟨X.P,X.n,w,fun id k=> ∃o,look H0.os id k=some o∧o.own=true,H0.nxt,β.viaP π,X.wrap⟩
 have hY:St Y (β.viaP π) H0 w:=by
  refine⟨rfl,rfl,rfl,Nat.le_refl _,fun _ _ _=>rfl,fun id k o h=> ?_,fun id k id' k' o o' L L' h h' ho hb hb' he=>absurd ho (hno h),fun _ _ _=>rfl,fun id k o L h ho _=>absurd ho (hno h),fun id k ho=> ?_,Nat.le_refl _,fun id k o h=>⟨(hm.get h).1,(hm.get h).2.2.1⟩,⟨fun g hgt=> ?_,fun g hgt=> ?_⟩,Nat.le_refl _⟩
  ·obtain⟨_,_,_,o1,h1,h2⟩:=hm.get h;exact objGivesP_holds h2 (hS.holds _ _ _ h1)
  ·obtain⟨o,h,ho'⟩:=ho;exact absurd ho' (hno h)
  ·obtain⟨_,hlt2,htab⟩:=hS.tab hgt;exact⟨hlt2,htab,fun id k L ho _=>by obtain⟨o,h,ho'⟩:=ho;exact absurd ho' (hno h)⟩
  ·obtain⟨_,hlt2,htab⟩:=hS.tabB hgt;exact⟨hlt2,htab,fun id k L ho _=>by obtain⟨o,h,ho'⟩:=ho;exact absurd ho' (hno h)⟩
 refine(hF Y (β.viaP π) w vs hP rfl rfl rfl rfl hY ((z5d _ _).1 hd) hl0).mono ?_;rintro e w' ⟨v,rfl,β',s0,H',hR,hown,hds,hsl,hS'⟩;have hnx:H0.nxt≤H'.nxt:=hS'.m0
 let τ:=memP π H0.nxt
 let γ:Env:=fun id k=>if id<H0.nxt then β id k else β' id k
 have hγ:γ.viaP τ=β':=by
  funext id k
  show γ (τ id k).1 (τ id k).2=β' id k
  simp only[τ,memP]
  split
  ·rename_i h;simp only[γ];rw[if_pos (hπ id k h)];exact(hS'.fix id k h).symm
  ·rename_i h;simp only[γ];rw[if_neg h]
 have hτ:∀id k,id<H'.nxt→(τ id k).1<H'.nxt:=fun id k h=>by
  simp only[τ,memP]
  split
  ·rename_i h2;exact Nat.lt_of_lt_of_le (hπ id k h2) hnx
  ·exact h
 have hge:∀{x:Nat×Nat×(Nat→Obj)},x∈H'.os→H0.nxt≤x.1:=fun hx=>by
  rcases(hown _ hx).2 with h|⟨y,hy,_,_,hyo⟩
  ·exact h
  ·exfalso
   have:∀{os:List (Nat×Nat×(Nat→Obj))},y∈os→HMem π H0.nxt os1 os→(y.2.2 0).own=false:=by
    intro os
    induction os with
    |nil=>intro h;cases h
    |cons a os ih=>
     intro h g
     cases h with
     |head=>exact g.1.2.1 0
     |tail _ h=>exact ih h g.2
   rw[this hy hm] at hyo;cases hyo
 have hgel:∀{id k:Nat} {o:Obj},look H'.os id k=some o→H0.nxt≤id:=fun h=>by
  obtain⟨c,F,hf,_,_⟩:=z1d h;exact hge (z1g hf)
 have hγn:∀id k,H0.nxt≤id→γ id k=β' id k:=fun id k h=>by simp only[γ];rw[if_neg (by omega)]
 have hw0:X.w0=w:=hw;refine⟨v,rfl,γ,s0.renP τ,⟨H'.nxt,renPOs τ H'.os⟩,⟨s0,H',hR,rfl,rfl⟩,?_,?_,?_,?_⟩
 ·intro x hx;obtain⟨y,hy,rfl⟩:=List.mem_map.1 hx;exact⟨fun k=>by show((y.2.2 k).renP τ).own=true;rw[Obj.renP_own];exact(hown _ hy).1 k,.inl (show H0.nxt≤y.1 from hge hy)⟩
 ·rw[z3g,hγ];exact hds
 ·exact lt_renP hτ s0 hsl
 ·refine⟨hS'.os.trans hS.os,hS'.tape.trans hS.tape,hS'.output.trans hS.output,Nat.le_trans hS.size hS'.size,fun id k h=> ?_,fun id k o h=> ?_,fun id k id' k' o o' L L' h h' ho hb hb' he=> ?_,fun b hb hn=> ?_,fun id k o L h how hb=> ?_,fun id k hb=> ?_,?_,fun id k o h=> ?_,hS.tabs,Nat.le_trans hS.drawn hS'.drawn⟩
  ·rw[hm0] at h
   show γ id k=_
   simp only[γ];rw[if_pos h,hβ]
  ·obtain⟨o0,h0,rfl⟩:=look_renPOs h;rw[hγn _ _ (hgel h0)];exact Obj.renP_holds (by rw[hγ];exact hS'.holds _ _ _ h0)
  ·obtain⟨o0,h0,rfl⟩:=look_renPOs h;obtain⟨o1,h1,rfl⟩:=look_renPOs h';rw[hγn _ _ (hgel h0)] at hb;rw[hγn _ _ (hgel h1)] at hb';exact hS'.sep _ _ _ _ _ _ _ _ h0 h1 (by rw[Obj.renP_own] at ho;exact ho) hb hb' he
  ·rw[hw0] at hb ⊢;refine hS'.old b hb fun id k o L h how hbb he=> ?_;exact hn id k _ L (look_renPOs' h) (by rw[Obj.renP_own];exact how) (by rw[hγn _ _ (hgel h)];exact hbb) he
  ·obtain⟨o0,h0,rfl⟩:=look_renPOs h;rw[hγn _ _ (hgel h0)] at hb;rw[Obj.renP_own] at how;rcases hS'.mine _ _ _ _ h0 how hb with⟨_,q⟩|⟨q1,q2⟩
   ·obtain⟨o2,h2,ho2⟩:=q;exact absurd ho2 (hno h2)
   ·exact .inr ⟨by rw[hm0];exact q1,by rw[hw0];exact q2⟩
  ·rw[ho] at hb;obtain⟨o2,h2,ho2⟩:=hb;exact absurd ho2 (hno1 h2)
  ·rw[hm0];exact hnx
  ·obtain⟨o0,h0,rfl⟩:=look_renPOs h;have:=hS'.lt _ _ _ h0;exact⟨this.1,Obj.renP_lt hτ this.2⟩
theorem zf.imp {P:Program}{f:FuncId}{args:List SV}{H0:AH}{R R':SV→AH→Prop}(hF:zf P f args H0 R)(h:∀s H',R s H'→R' s H'):zf P f args H0 R':=by
 intro X β w vs hP hm hw hβ ho hS hd hlt;refine(hF X β w vs hP hm hw hβ ho hS hd hlt).mono ?_;rintro e w' ⟨v,rfl,β',s,H',hR,h1,h2,h3,h4⟩;exact⟨v,rfl,β',s,H',h s H' hR,h1,h2,h3,h4⟩
end Go.Sk

namespace Go.Sk
open Go.RowKit
end Go.Sk

namespace Go.Proofs
open Go.Sk
theorem Tryz.tyLink:z1l Tryz.prog 98=⟨true,.struct,2,16,[(0,some false,1),(1,some false,1)]⟩:=by kernel_rfl
theorem Tryz.szLink:z29 Tryz.prog 98=2:=by kernel_rfl
theorem Tryz.zLink:z2x Tryz.prog 98=some [.int .i64 0,.int .i64 0]:=by kernel_rfl
theorem Tryz.tyLinks:z1l Tryz.prog 94=⟨true,.slice 98,1,24,[]⟩:=by kernel_rfl
theorem Tryz.szLinks:z29 Tryz.prog 94=1:=by kernel_rfl
theorem Tryz.tyLinked:z1l Tryz.prog 96=⟨true,.struct,2,32,[(0,some false,1),(1,some false,1)]⟩:=by kernel_rfl
theorem Tryz.szLinked:z29 Tryz.prog 96=2:=by kernel_rfl
theorem Tryz.zLinked:z2x Tryz.prog 96=some [.int .i64 0,.nils]:=by kernel_rfl
theorem Tryz.tyLinkeds:z1l Tryz.prog 65=⟨true,.slice 96,1,24,[]⟩:=by kernel_rfl
theorem Tryz.szLinkeds:z29 Tryz.prog 65=1:=by kernel_rfl
def lvs (l:List (Int×Int)):Nat→List SV:=fun i=>[.int .i64 (pI l i).1,.int .i64 (pI l i).2]
theorem lvs_ap (l:List (Int×Int))(i:Nat):lvs l i=[.int .i64 (pI l i).1,.int .i64 (pI l i).2]:=rfl
theorem lvs_ren (ρ:Nat→Nat)(l:List (Int×Int)):(fun i=>SV.renL ρ (lvs l i))=lvs l:=by funext i;simp[lvs,SV.renL,SV.ren]
theorem lvs_ren' (ρ:Nat→Nat)(l:List (Int×Int))(i:Nat):SV.renL ρ (lvs l i)=lvs l i:=congrFun (lvs_ren ρ l) i
theorem lvs_lt (m:Nat)(l:List (Int×Int))(i:Nat):SV.ltL m (lvs l i):=by simp[lvs,SV.ltL,SV.lt]
theorem lvs_renP (π:Pn)(l:List (Int×Int))(i:Nat):SV.renPL π (lvs l i)=lvs l i:=by simp[lvs,SV.renPL,SV.renP]
def lkR (g:Bool)(f:Nat)(l:List Lk):Nat→List SV:=fun i=>[.int .i64 (lk l i).id,.slc g f (i+1) 0 (lk l i).lv.length]
def lkF (o:Bool)(l:List Lk):Nat→Sk.Obj:=fun i=> .row ⟨o,false,98,2,(lk l i).lv.length,lvs (lk l i).lv⟩
theorem lkR_ap (g:Bool)(f:Nat)(l:List Lk)(i:Nat):lkR g f l i=[.int .i64 (lk l i).id,.slc g f (i+1) 0 (lk l i).lv.length]:=rfl
theorem lkR_fold (g:Bool)(f:Nat)(l:List Lk):(fun i=>[SV.int .i64 (lk l i).id,SV.slc g f (i+1) 0 (lk l i).lv.length])=lkR g f l:=rfl
theorem lkF_ap (o:Bool)(l:List Lk)(i:Nat):lkF o l i= .row ⟨o,false,98,2,(lk l i).lv.length,lvs (lk l i).lv⟩:=rfl
theorem lkR_ren (ρ:Nat→Nat)(g:Bool)(f:Nat)(l:List Lk):(fun i=>SV.renL ρ (lkR g f l i))=lkR g (ρ f) l:=by funext i;simp[lkR,SV.renL,SV.ren]
theorem lkR_ren' (ρ:Nat→Nat)(g:Bool)(f:Nat)(l:List Lk)(i:Nat):SV.renL ρ (lkR g f l i)=lkR g (ρ f) l i:=congrFun (lkR_ren ρ g f l) i
theorem lkR_lt (m:Nat)(g:Bool)(f:Nat)(l:List Lk)(i:Nat):SV.ltL m (lkR g f l i)↔f<m:=by simp[lkR,SV.ltL,SV.lt]
theorem lkF_gives (ρ:Nat→Nat)(o o':Bool)(l:List Lk)(i:Nat):z1b ρ (lkF o l i) (lkF o' l i)↔(o'=true→o=true):=by
 simp[lkF,z1b,z3s,lvs_ren']
theorem lkFm_lt (m:Nat)(o:Bool)(l:List Lk)(i:Nat):(lkF o l i).lt m:=Obj.lt_row.2 fun q _=>lvs_lt m _ q
theorem lkF_own (o:Bool)(l:List Lk)(i:Nat):(lkF o l i).own=o:=rfl
theorem lkF_fown (o:Bool)(e:Go.TypeId)(sz:Nat)(l:List Lk)(k:Nat):(fam o e sz (lkF o l) k).own=o:=fam_own1 (lkF_own o l) k
theorem lkF_ren (ρ:Nat→Nat)(o:Bool)(l:List Lk):(fun i=>(lkF o l i).ren ρ)=lkF o l:=by
 funext i;simp[lkF,Obj.ren,Row.ren,lvs_ren]
theorem lkR_renP (ρ:Nat→Nat)(g:Bool)(f j a:Nat)(l:List Lk)(i:Nat):SV.renPL (mvP ρ f j a) (lkR g f l i)=if i=j then [.int .i64 (lk l i).id,.slc g a 0 0 (lk l i).lv.length] else [.int .i64 (lk l i).id,.slc g (ρ f) (i+1) 0 (lk l i).lv.length]:=by
 simp only[lkR,SV.renPL,SV.renP,mvP,true_and,Nat.add_right_cancel_iff]
 split<;>rfl
theorem lkF_givesP (π:Pn)(o o':Bool)(l l':List Lk)(i:Nat)(h:o'=true→o=true)(e:lk l' i=lk l i):zn π (lkF o l i) (lkF o' l' i):=⟨fun h2=>⟨h h2,rfl⟩,rfl,by rw[e];exact Nat.le_refl _,fun q _=>by rw[e];exact(lvs_renP π _ q).symm⟩
theorem lkF_newP (π:Pn)(n:Nat)(F:Nat→List SV)(l:List Lk)(i:Nat)(hn:(lk l i).lv.length=n)(e:∀q,q<n→F q=lvs (lk l i).lv q):zn π (.row ⟨true,false,98,2,n,F⟩) (lkF true l i):=⟨fun _=>⟨rfl,rfl⟩,rfl,by rw[hn];exact Nat.le_refl _,fun q hq=>by rw[lvs_renP];exact e q (by rw[←hn];exact hq)⟩
end Go.Proofs

namespace Go.Proofs
open Go.Sk
theorem Tryz.tyLy:z1l Tryz.prog 89=⟨true,.struct,5,88,[(0,some false,1),(1,some false,1),(2,some false,1),(3,some true,2)]⟩:=by kernel_rfl
theorem Tryz.szLy:z29 Tryz.prog 89=5:=by kernel_rfl
theorem Tryz.zLy:z2x Tryz.prog 89=some [.int .i64 0,.int .u32 0,.nils,.nils,.nils]:=by kernel_rfl
theorem Tryz.tyLys:z1l Tryz.prog 31=⟨true,.slice 89,1,24,[]⟩:=by kernel_rfl
theorem Tryz.szLys:z29 Tryz.prog 31=1:=by kernel_rfl
theorem Tryz.tyCb:z1l Tryz.prog 58=⟨true,.struct,3,24,[(0,some false,1),(1,some false,1),(2,some false,1)]⟩:=by kernel_rfl
theorem Tryz.szCb:z29 Tryz.prog 58=3:=by kernel_rfl
theorem Tryz.zCb:z2x Tryz.prog 58=some [.int .i64 0,.int .i64 0,.int .i64 0]:=by kernel_rfl
theorem Tryz.tyCbs:z1l Tryz.prog 32=⟨true,.slice 58,1,24,[]⟩:=by kernel_rfl
theorem Tryz.szCbs:z29 Tryz.prog 32=1:=by kernel_rfl
theorem Tryz.tyFo:z1l Tryz.prog 34=⟨true,.struct,4,80,[(0,some false,1),(1,some false,1),(2,some false,1),(3,some false,1)]⟩:=by kernel_rfl
theorem Tryz.szFo:z29 Tryz.prog 34=4:=by kernel_rfl
theorem Tryz.zFo:z2x Tryz.prog 34=some [.nils,.int .i64 0,.nils,.nils]:=by kernel_rfl
def Cb.sv (c:Cb):List SV:=[.int .i64 c.kind,.int .i64 c.node,.int .i64 c.lvl]
def cbs (C:List Cb):Nat→List SV:=fun i=>(cbA C i).sv
theorem cbs_ap (C:List Cb)(i:Nat):cbs C i=[.int .i64 (cbA C i).kind,.int .i64 (cbA C i).node,.int .i64 (cbA C i).lvl]:=rfl
theorem cbs_ren (ρ:Nat→Nat)(C:List Cb):(fun i=>SV.renL ρ (cbs C i))=cbs C:=by funext i;simp[cbs,Cb.sv,SV.renL,SV.ren]
theorem cbs_ren' (ρ:Nat→Nat)(C:List Cb)(i:Nat):SV.renL ρ (cbs C i)=cbs C i:=congrFun (cbs_ren ρ C) i
theorem cbs_lt (m:Nat)(C:List Cb)(i:Nat):SV.ltL m (cbs C i):=by simp[cbs,Cb.sv,SV.ltL,SV.lt]
theorem cbs_renP (π:Pn)(C:List Cb)(i:Nat):SV.renPL π (cbs C i)=cbs C i:=by simp[cbs,Cb.sv,SV.renPL,SV.renP]
theorem z3y (π:Pn)(l:List Cl)(i:Nat):SV.renPL π (z2m l i)=z2m l i:=by simp[z2m,Cl.sv,SV.renPL,SV.renP]
theorem prs_renP (π:Pn)(l:List Pr)(i:Nat):SV.renPL π (prs l i)=prs l i:=by simp[prs,Pr.sv,SV.renPL,SV.renP]
theorem cbs_put (C:List Cb)(k:Nat)(a b c:Int)(h:k<C.length):(fun i=>if i=k then [SV.int .i64 a,SV.int .i64 b,SV.int .i64 c] else cbs C i)=cbs (C.set k ⟨a,b,c⟩):=by
 funext i
 simp only[cbs]
 split
 ·rename_i e;subst e;rw[z4i h];rfl
 ·rename_i e;rw[cbA_set_ne (Ne.symm e)]
def lyR (f:Nat)(L:List Ly):Nat→List SV:=fun i=>[.int .i64 (lyA L i).lvl,.int .u32 (lyA L i).wd,.slc true f (3*i+1) 0 (lyA L i).ids.length,.slc true f (3*i+2) 0 (lyA L i).cs.length,.slc true f (3*i+3) 0 (lyA L i).ps.length]
def lyO (o:Bool)(x:Ly)(r:Nat):Sk.Obj:=
 if r=0 then .row ⟨o,false,3,1,x.ids.length,ints x.ids⟩ else if r=1 then .row ⟨o,false,117,5,x.cs.length,z2m x.cs⟩ else .row ⟨o,false,110,7,x.ps.length,prs x.ps⟩
def lyF (o:Bool)(L:List Ly):Nat→Sk.Obj:=fun k=>lyO o (lyA L (k/3)) (k%3)
theorem lyF_0 (o:Bool)(L:List Ly)(i:Nat):lyF o L (3*i)= .row ⟨o,false,3,1,(lyA L i).ids.length,ints (lyA L i).ids⟩:=by
 rw[lyF,Nat.mul_div_cancel_left _ (by decide),Nat.mul_mod_right];rfl
theorem lyF_1 (o:Bool)(L:List Ly)(i:Nat):lyF o L (3*i+1)= .row ⟨o,false,117,5,(lyA L i).cs.length,z2m (lyA L i).cs⟩:=by
 rw[lyF,show(3*i+1)/3=i by omega,show(3*i+1)%3=1 by omega];rfl
theorem lyF_2 (o:Bool)(L:List Ly)(i:Nat):lyF o L (3*i+2)= .row ⟨o,false,110,7,(lyA L i).ps.length,prs (lyA L i).ps⟩:=by
 rw[lyF,show(3*i+2)/3=i by omega,show(3*i+2)%3=2 by omega];rfl
theorem lyR_ap (f:Nat)(L:List Ly)(i:Nat):lyR f L i=[.int .i64 (lyA L i).lvl,.int .u32 (lyA L i).wd,.slc true f (3*i+1) 0 (lyA L i).ids.length,.slc true f (3*i+2) 0 (lyA L i).cs.length,.slc true f (3*i+3) 0 (lyA L i).ps.length]:=rfl
theorem lyR_ren (ρ:Nat→Nat)(f:Nat)(L:List Ly):(fun i=>SV.renL ρ (lyR f L i))=lyR (ρ f) L:=by funext i;simp[lyR,SV.renL,SV.ren]
theorem lyR_ren' (ρ:Nat→Nat)(f:Nat)(L:List Ly)(i:Nat):SV.renL ρ (lyR f L i)=lyR (ρ f) L i:=congrFun (lyR_ren ρ f L) i
theorem lyR_lt (m:Nat)(f:Nat)(L:List Ly)(i:Nat):SV.ltL m (lyR f L i)↔f<m:=by simp[lyR,SV.ltL,SV.lt]
theorem lyO_3 (o:Bool)(x:Ly)(r:Nat):lyO o x r= .row ⟨o,false,3,1,x.ids.length,ints x.ids⟩∨lyO o x r= .row ⟨o,false,117,5,x.cs.length,z2m x.cs⟩∨lyO o x r= .row ⟨o,false,110,7,x.ps.length,prs x.ps⟩:=by
 unfold lyO
 split
 ·exact .inl rfl
 ·split
  ·exact .inr (.inl rfl)
  ·exact .inr (.inr rfl)
theorem lyO_givesP (π:Pn)(o o':Bool)(x:Ly)(r:Nat)(h:o'=true→o=true):zn π (lyO o x r) (lyO o' x r):=by
 unfold lyO
 split
 ·exact⟨fun h2=>⟨h h2,rfl⟩,rfl,Nat.le_refl _,fun q _=>(z2j π _ q).symm⟩
 ·split
  ·exact⟨fun h2=>⟨h h2,rfl⟩,rfl,Nat.le_refl _,fun q _=>(z3y π _ q).symm⟩
  ·exact⟨fun h2=>⟨h h2,rfl⟩,rfl,Nat.le_refl _,fun q _=>(prs_renP π _ q).symm⟩
theorem lyO_gives (ρ:Nat→Nat)(o o':Bool)(x:Ly)(r:Nat):z1b ρ (lyO o x r) (lyO o' x r)↔(o'=true→o=true):=by
 unfold lyO
 split
 ·simp[z1b,z3s,z2d]
 ·split
  ·simp[z1b,z3s,cls_ren']
  ·simp[z1b,z3s,prs_ren']
theorem lyO_lt (m:Nat)(o:Bool)(x:Ly)(r:Nat):(lyO o x r).lt m:=by
 unfold lyO
 split
 ·exact Obj.lt_row.2 fun q _=>z20 m _ q
 ·split
  ·exact Obj.lt_row.2 fun q _=>cls_lt m _ q
  ·exact Obj.lt_row.2 fun q _=>prs_lt m _ q
theorem lyF_gives (ρ:Nat→Nat)(o o':Bool)(L:List Ly)(k:Nat):z1b ρ (lyF o L k) (lyF o' L k)↔(o'=true→o=true):=lyO_gives ..
theorem z4p (m:Nat)(o:Bool)(L:List Ly)(k:Nat):(lyF o L k).lt m:=lyO_lt ..
theorem lyF_own (o:Bool)(L:List Ly)(k:Nat):(lyF o L k).own=o:=by
 rcases lyO_3 o (lyA L (k/3)) (k%3) with e|e|e<;>exact(congrArg Obj.own e)
theorem lyF_fown (o:Bool)(e:Go.TypeId)(sz:Nat)(L:List Ly)(k:Nat):(fam o e sz (lyF o L) k).own=o:=fam_own1 (lyF_own o L) k
theorem lyF_ren (ρ:Nat→Nat)(o:Bool)(L:List Ly):(fun k=>(lyF o L k).ren ρ)=lyF o L:=by
 funext k
 show(lyO o (lyA L (k/3)) (k%3)).ren ρ=lyO o (lyA L (k/3)) (k%3)
 rcases lyO_3 o (lyA L (k/3)) (k%3) with e|e|e<;>rw[e]<;>simp[Obj.ren,Row.ren,z1s,z2s,z3d]
theorem lyF_givesP (π:Pn)(o o':Bool)(L L':List Ly)(k:Nat)(h:o'=true→o=true)(e:lyA L' (k/3)=lyA L (k/3)):zn π (lyF o L k) (lyF o' L' k):=by
 rw[lyF,lyF,e];exact lyO_givesP π o o' _ _ h
theorem lyR_renO (ρ:Nat→Nat)(f j a g:Nat)(L:List Ly)(i:Nat)(h:g≠f):SV.renPL (mvP ρ f j a) (lyR g L i)=lyR (ρ g) L i:=by
 simp[lyR,SV.renPL,SV.renP,mvP,h]
theorem lyR_renMO (ρ:Nat→Nat)(f g:Nat)(ms:Nat→Option Nat)(L:List Ly)(i:Nat)(h:g≠f):SV.renPL (mvM ρ f ms) (lyR g L i)=lyR (ρ g) L i:=by
 simp[lyR,SV.renPL,SV.renP,mvM,h]
theorem ms3_at (j a b c i:Nat):ms3 j a b c (3*i+1)=(if i=j then some a else none)∧ms3 j a b c (3*i+2)=(if i=j then some b else none)∧ms3 j a b c (3*i+3)=if i=j then some c else none:=by
 unfold ms3
 by_cases h:i=j
 ·subst h;refine⟨by rw[if_pos rfl,if_pos rfl],by rw[if_neg (by omega),if_pos rfl,if_pos rfl],by rw[if_neg (by omega),if_neg (by omega),if_pos rfl,if_pos rfl]⟩
 ·refine⟨by rw[if_neg (by omega),if_neg (by omega),if_neg (by omega),if_neg h],by rw[if_neg (by omega),if_neg (by omega),if_neg (by omega),if_neg h],by rw[if_neg (by omega),if_neg (by omega),if_neg (by omega),if_neg h]⟩
theorem ms2_at (j b c i:Nat):ms2 j b c (3*i+1)=none∧ms2 j b c (3*i+2)=(if i=j then some b else none)∧ms2 j b c (3*i+3)=if i=j then some c else none:=by
 unfold ms2
 by_cases h:i=j
 ·subst h;refine⟨by rw[if_neg (by omega),if_neg (by omega)],by rw[if_pos rfl,if_pos rfl],by rw[if_neg (by omega),if_pos rfl,if_pos rfl]⟩
 ·refine⟨by rw[if_neg (by omega),if_neg (by omega)],by rw[if_neg (by omega),if_neg (by omega),if_neg h],by rw[if_neg (by omega),if_neg (by omega),if_neg h]⟩
theorem lyR_renM3 (ρ:Nat→Nat)(f j a b c:Nat)(L:List Ly)(i:Nat):SV.renPL (mvM ρ f (ms3 j a b c)) (lyR f L i)=
  if i=j then [.int .i64 (lyA L i).lvl,.int .u32 (lyA L i).wd,.slc true a 0 0 (lyA L i).ids.length,.slc true b 0 0 (lyA L i).cs.length,.slc true c 0 0 (lyA L i).ps.length] else lyR (ρ f) L i:=by
 obtain⟨h1,h2,h3⟩:=ms3_at j a b c i
 by_cases h:i=j
 ·subst h;rw[if_pos rfl] at h1 h2 h3;simp only[lyR,SV.renPL,SV.renP,mvM,if_true,h1,h2,h3]
 ·simp only[lyR,SV.renPL,SV.renP,mvM,if_true,h1,h2,h3,if_neg h]
theorem lyR_renM2 (ρ:Nat→Nat)(f j b c:Nat)(L:List Ly)(i:Nat):SV.renPL (mvM ρ f (ms2 j b c)) (lyR f L i)=
  if i=j then [.int .i64 (lyA L i).lvl,.int .u32 (lyA L i).wd,.slc true (ρ f) (3*i+1) 0 (lyA L i).ids.length,.slc true b 0 0 (lyA L i).cs.length,.slc true c 0 0 (lyA L i).ps.length] else lyR (ρ f) L i:=by
 obtain⟨h1,h2,h3⟩:=ms2_at j b c i
 by_cases h:i=j
 ·subst h;rw[if_pos rfl] at h2 h3;simp only[lyR,SV.renPL,SV.renP,mvM,if_true,h1,h2,h3]
 ·simp only[lyR,SV.renPL,SV.renP,mvM,if_true,h1,h2,h3,if_neg h]
theorem lyF_cons3 {ρ:Nat→Nat}{f j a b c m n n':Nat}{os l:List (Nat×Nat×(Nat→Sk.Obj))}{L L':List Ly}{x:Ly}(hf:Sk.find os (ρ f)=some (3*n+1,fam true 3 1 (lyF true L)))
  (ha:Sk.find os a=some (uQ (.row ⟨true,false,3,1,x.ids.length,ints x.ids⟩))) (hb:Sk.find os b=some (uQ (.row ⟨true,false,117,5,x.cs.length,z2m x.cs⟩))) (hc:Sk.find os c=some (uQ (.row ⟨true,false,110,7,x.ps.length,prs x.ps⟩)))
  (hx:lyA L' j=x) (h:∀i,i<n'→i≠j→i<n∧lyA L' i=lyA L i) (hm:f<m) (ht:z17 (mvM ρ f (ms3 j a b c)) m os l):z17 (mvM ρ f (ms3 j a b c)) m os ((f,(3*n'+1,fam true 3 1 (lyF true L')))::l):=by
 refine z17.consF hf (by omega) ⟨fun _=>⟨rfl,rfl⟩,rfl⟩ (by unfold ms3;rw[if_neg (by omega),if_neg (by omega),if_neg (by omega)]) (fun i hi=> ?_) hm ht;obtain⟨q,r,hr,e⟩:∃q r,r<3∧i=3*q+r:=⟨i/3,i%3,by omega,by omega⟩;obtain⟨h1,h2,h3⟩:=ms3_at j a b c q
 have old:q≠j→i+1<3*n+1∧zn (mvM ρ f (ms3 j a b c)) (lyF true L i) (lyF true L' i)∧(lyF true L' i).lt m:=fun hne=>by
  have:=h q (by omega) hne;exact⟨by omega,lyF_givesP _ _ _ _ _ _ id (by rw[show i/3=q by omega];exact this.2),z4p ..⟩
 have h012:r=0∨r=1∨r=2:=by omega
 rcases h012 with g|g|g<;>subst g<;>subst e
 ·rw[h1]
  by_cases hq:q=j
  ·subst hq;rw[if_pos rfl];refine⟨1,_,ha,Nat.zero_lt_one,?_,z4p ..⟩;rw[Nat.add_zero,lyF_0,hx];exact⟨fun _=>⟨rfl,rfl⟩,rfl,Nat.le_refl _,fun q _=>(z2j _ _ q).symm⟩
  ·rw[if_neg hq];exact old hq
 ·rw[show 3*q+1+1=3*q+2 from rfl,h2]
  by_cases hq:q=j
  ·subst hq;rw[if_pos rfl];refine⟨1,_,hb,Nat.zero_lt_one,?_,z4p ..⟩;rw[lyF_1,hx];exact⟨fun _=>⟨rfl,rfl⟩,rfl,Nat.le_refl _,fun q _=>(z3y _ _ q).symm⟩
  ·rw[if_neg hq];exact old hq
 ·rw[show 3*q+2+1=3*q+3 from rfl,h3]
  by_cases hq:q=j
  ·subst hq;rw[if_pos rfl];refine⟨1,_,hc,Nat.zero_lt_one,?_,z4p ..⟩;rw[lyF_2,hx];exact⟨fun _=>⟨rfl,rfl⟩,rfl,Nat.le_refl _,fun q _=>(prs_renP _ _ q).symm⟩
  ·rw[if_neg hq];exact old hq
theorem lyF_cons2 {ρ:Nat→Nat}{f j b c m n:Nat}{os l:List (Nat×Nat×(Nat→Sk.Obj))}{L L':List Ly}{x:Ly}(hf:Sk.find os (ρ f)=some (3*n+1,fam true 3 1 (lyF true L)))
  (hb:Sk.find os b=some (uQ (.row ⟨true,false,117,5,x.cs.length,z2m x.cs⟩))) (hc:Sk.find os c=some (uQ (.row ⟨true,false,110,7,x.ps.length,prs x.ps⟩)))
  (hx:lyA L' j=x) (hi:x.ids=(lyA L j).ids) (h:∀i,i≠j→lyA L' i=lyA L i) (hm:f<m) (ht:z17 (mvM ρ f (ms2 j b c)) m os l):z17 (mvM ρ f (ms2 j b c)) m os ((f,(3*n+1,fam true 3 1 (lyF true L')))::l):=by
 refine z17.consF hf (by omega) ⟨fun _=>⟨rfl,rfl⟩,rfl⟩ (by unfold ms2;rw[if_neg (by omega),if_neg (by omega)]) (fun i hi'=> ?_) hm ht;obtain⟨q,r,hr,e⟩:∃q r,r<3∧i=3*q+r:=⟨i/3,i%3,by omega,by omega⟩;obtain⟨h1,h2,h3⟩:=ms2_at j b c q
 have old:q≠j→i+1<3*n+1∧zn (mvM ρ f (ms2 j b c)) (lyF true L i) (lyF true L' i)∧(lyF true L' i).lt m:=fun hne=>
  ⟨by omega,lyF_givesP _ _ _ _ _ _ id (by rw[show i/3=q by omega];exact h q hne),z4p ..⟩
 have h012:r=0∨r=1∨r=2:=by omega
 rcases h012 with g|g|g<;>subst g<;>subst e
 ·rw[h1];refine⟨by omega,?_,z4p ..⟩;rw[Nat.add_zero,lyF_0,lyF_0]
  by_cases hq:q=j
  ·subst hq;rw[hx,hi];exact⟨fun _=>⟨rfl,rfl⟩,rfl,Nat.le_refl _,fun q _=>(z2j _ _ q).symm⟩
  ·rw[h q hq];exact⟨fun _=>⟨rfl,rfl⟩,rfl,Nat.le_refl _,fun q _=>(z2j _ _ q).symm⟩
 ·rw[show 3*q+1+1=3*q+2 from rfl,h2]
  by_cases hq:q=j
  ·subst hq;rw[if_pos rfl];refine⟨1,_,hb,Nat.zero_lt_one,?_,z4p ..⟩;rw[lyF_1,hx];exact⟨fun _=>⟨rfl,rfl⟩,rfl,Nat.le_refl _,fun q _=>(z3y _ _ q).symm⟩
  ·rw[if_neg hq];exact old hq
 ·rw[show 3*q+2+1=3*q+3 from rfl,h3]
  by_cases hq:q=j
  ·subst hq;rw[if_pos rfl];refine⟨1,_,hc,Nat.zero_lt_one,?_,z4p ..⟩;rw[lyF_2,hx];exact⟨fun _=>⟨rfl,rfl⟩,rfl,Nat.le_refl _,fun q _=>(prs_renP _ _ q).symm⟩
  ·rw[if_neg hq];exact old hq
def lyPi (i:Nat):Pn:=fun id k=>if id=0 then(0,3*i+2) else if id=1 then(0,3*i+3) else(id,k)
def lyPd (i:Nat):Pn:=fun id k=>if id=0 then(0,3*i+1) else(id,k)
theorem lyLs {f : Go.FuncId} {ar : List SV} {R : SV → AH → Prop} (L : List Ly) (i k : Nat) (hi : i < k)
    (h:zf Tryz.prog f (.agg [.slc false 0 0 0 (lyA L i).cs.length,.slc false 1 0 0 (lyA L i).ps.length]::ar) ⟨2,[(0,inCl (lyA L i).cs),(1,inPr (lyA L i).ps)]⟩ R)
    (h2:SV.ltL 2 ar) (h3:∀π:Pn,SV.renPL π ar=ar):
    zf Tryz.prog f (.agg [.slc false 0 (3*i+2) 0 (lyA L i).cs.length,.slc false 0 (3*i+3) 0 (lyA L i).ps.length]::ar) ⟨2,[(0,(3*k+1,fam false 3 1 (lyF false L)))]⟩
      (fun s H'=> ∃s0 H0',R s0 H0'∧s=s0.renP (memP (lyPi i) 2)∧H'=⟨H0'.nxt,renPOs (memP (lyPi i) 2) H0'.os⟩):=by
  have g:=h.mem (lyPi i) (os1:=[(0,(3*k+1,fam false 3 1 (lyF false L)))])
    (by
      refine⟨⟨by show 0<2;decide,fun k=>rfl,fun k' hk=>⟨Obj.lt_row.2 fun q _=>cls_lt _ _ q,?_⟩⟩,⟨by show 1<2;decide,fun k=>rfl,fun k' hk=>⟨Obj.lt_row.2 fun q _=>prs_lt _ _ q,?_⟩⟩,trivial⟩
      · simp only[lyPi,if_true,Sk.find];refine⟨by omega,?_⟩;rw[show 3*i+2=(3*i+1)+1 from rfl,z2k,lyF_1];exact⟨fun h=>(by cases h),rfl,Nat.le_refl _,fun q _=>(z3y _ _ q).symm⟩
      · simp only[lyPi,if_true,Sk.find,Nat.one_ne_zero,if_false];refine⟨by omega,?_⟩;rw[show 3*i+3=(3*i+2)+1 from rfl,z2k,lyF_2]
        exact⟨fun h=>(by cases h),rfl,Nat.le_refl _,fun q _=>(prs_renP _ _ q).symm⟩)
    ⟨by simp [SV.lt, SV.ltL], h2⟩ (by intro id k hid; simp only [lyPi]; split; · exact Nat.zero_lt_two
                                      · split
                                        · exact Nat.zero_lt_two
                                        · exact hid) (by
      intro x hx k;simp only[List.mem_singleton] at hx;subst hx
      exact lyF_fown false _ _ L k)
  have e:SV.renPL (lyPi i) (.agg [.slc false 0 0 0 (lyA L i).cs.length,.slc false 1 0 0 (lyA L i).ps.length]::ar)= .agg [.slc false 0 (3*i+2) 0 (lyA L i).cs.length,.slc false 0 (3*i+3) 0 (lyA L i).ps.length]::ar:=by
    rw[SV.renPL,h3];simp[SV.renP,SV.renPL,lyPi]
  rw[e] at g;exact g
theorem lyLsB {f:Go.FuncId}{B:Bool}(L:List Ly)(i k:Nat)(hi:i<k)
  (h:zf Tryz.prog f [.agg [.slc false 0 0 0 (lyA L i).cs.length,.slc false 1 0 0 (lyA L i).ps.length]] ⟨2,[(0,inCl (lyA L i).cs),(1,inPr (lyA L i).ps)]⟩ (fun s H1=>s= .bool B∧H1=⟨2,[]⟩)):
  zf Tryz.prog f [.agg [.slc false 0 (3*i+2) 0 (lyA L i).cs.length,.slc false 0 (3*i+3) 0 (lyA L i).ps.length]] ⟨2,[(0,(3*k+1,fam false 3 1 (lyF false L)))]⟩ (fun s H1=>s= .bool B∧H1=⟨2,[]⟩):=by
 refine(lyLs L i k hi h trivial fun _=>rfl).imp ?_;rintro s H' ⟨s0,H0',⟨rfl,rfl⟩,rfl,rfl⟩;exact⟨rfl,rfl⟩
theorem lyId {f : Go.FuncId} {ar : List SV} {R : SV → AH → Prop} (L : List Ly) (i k : Nat) (hi : i < k)
    (h:zf Tryz.prog f (.slc false 0 0 0 (lyA L i).ids.length::ar) ⟨1,[(0,uQ (.row ⟨false,false,3,1,(lyA L i).ids.length,ints (lyA L i).ids⟩))]⟩ R)
    (h2:SV.ltL 1 ar) (h3:∀π:Pn,SV.renPL π ar=ar):
    zf Tryz.prog f (.slc false 0 (3*i+1) 0 (lyA L i).ids.length::ar) ⟨1,[(0,(3*k+1,fam false 3 1 (lyF false L)))]⟩
      (fun s H'=> ∃s0 H0',R s0 H0'∧s=s0.renP (memP (lyPd i) 1)∧H'=⟨H0'.nxt,renPOs (memP (lyPd i) 1) H0'.os⟩):=by
  have g:=h.mem (lyPd i) (os1:=[(0,(3*k+1,fam false 3 1 (lyF false L)))])
    (by
      refine⟨⟨Nat.zero_lt_one,fun k=>rfl,fun k' hk=>⟨Obj.lt_row.2 fun q _=>z20 _ _ q,?_⟩⟩,trivial⟩;simp only[lyPd,if_true,Sk.find];refine⟨by omega,?_⟩;rw[z2k,lyF_0]
      exact⟨fun h=>(by cases h),rfl,Nat.le_refl _,fun q _=>(z2j _ _ q).symm⟩)
    ⟨by simp [SV.lt], h2⟩ (by intro id k hid; simp only [lyPd]; split; · exact Nat.zero_lt_one
                              · exact hid) (by
      intro x hx k;simp only[List.mem_singleton] at hx;subst hx
      exact lyF_fown false _ _ L k)
  have e:SV.renPL (lyPd i) (.slc false 0 0 0 (lyA L i).ids.length::ar)= .slc false 0 (3*i+1) 0 (lyA L i).ids.length::ar:=by
    rw[SV.renPL,h3];simp[SV.renP,lyPd]
  rw[e] at g;exact g
end Go.Proofs

namespace Go.Proofs
open Go.Sk
def goneF (L:List Ly)(id lv:Int):Bool:=gn (lyA L (plI L id lv).toNat).cs (plK L id lv)
def memF (L:List Ly)(id lv:Int):Bool:=decide (0≤plI L id lv) && !goneF L id lv
def cbOk (ns:List Nd)(ht:Int)(c:Cb):Bool:=decide (c=noCb)||((c.kind==1||c.kind==2) && decide (0≤findI ns c.node) && decide (0≤c.lvl) && decide (c.lvl≤ht))
def busyF (C:List Cb)(id:Int):Bool:=anyB C.length fun i=>(cbA C i).kind !=0 && (cbA C i).node==id
def upL (L:List Ly)(i:Nat)(cs:List Cl)(ps:List Pr):List Ly:=L.set i {lyA L i with cs:=cs,ps:=ps}
def beginE (L:List Ly)(p:Int)(c:Cb):Int:=z4m (lyA L (plI L c.node c.lvl).toNat).cs (lyA L (plI L c.node c.lvl).toNat).ps p c.kind (plK L c.node c.lvl)
def beginL (L:List Ly)(p:Int)(c:Cb):List Ly:=
 upL L (plI L c.node c.lvl).toNat (lyA L (plI L c.node c.lvl).toNat).cs (startP (lyA L (plI L c.node c.lvl).toNat).cs (lyA L (plI L c.node c.lvl).toNat).ps p c.kind (plK L c.node c.lvl))
def nxC (c:Cb):Cb:=if c.kind=1 then {c with lvl:=c.lvl+1} else {c with lvl:=c.lvl-1}
structure SkEq (L L':List Ly):Prop where
 len:L'.length=L.length
 lvl:∀i,(lyA L' i).lvl=(lyA L i).lvl
 ids:∀i,(lyA L' i).ids=(lyA L i).ids
theorem SkEq.plI {L L':List Ly}(h:SkEq L L')(id lv:Int):plI L' id lv=plI L id lv:=by
 unfold Go.Proofs.plI;rw[h.len]
 congr 1
 funext i
 rw[plP,plP,h.lvl,h.ids]
theorem SkEq.plK {L L':List Ly}(h:SkEq L L')(id lv:Int):plK L' id lv=plK L id lv:=by
 unfold Go.Proofs.plK;rw[h.plI,h.ids]
theorem z4r (L:List Ly)(i:Nat)(cs:List Cl)(ps:List Pr):(upL L i cs ps).length=L.length:=by simp[upL]
theorem upL_eq {L:List Ly}{i:Nat}(h:i<L.length)(cs:List Cl)(ps:List Pr):lyA (upL L i cs ps) i={lyA L i with cs:=cs,ps:=ps}:=lyA_set_eq h
theorem upL_ne {L:List Ly}{i j:Nat}(h:i≠j)(cs:List Cl)(ps:List Pr):lyA (upL L i cs ps) j=lyA L j:=lyA_set_ne h
theorem skEq_up {L:List Ly}{i:Nat}(h:i<L.length)(cs:List Cl)(ps:List Pr):SkEq L (upL L i cs ps):=by
 refine⟨z4r ..,fun j=> ?_,fun j=> ?_⟩
 ·by_cases e:i=j
  ·subst e;rw[upL_eq h]
  ·rw[upL_ne e]
 ·by_cases e:i=j
  ·subst e;rw[upL_eq h]
  ·rw[upL_ne e]
theorem Fsh.up {fo:Fo}(h:Fsh fo){i:Nat}(hi:i<fo.ly.length){cs:List Cl}{ps:List Pr}{C:List Cb}(hk:z3m (lyA fo.ly i).cs cs)(hp:ps.length=(lyA fo.ly i).ps.length)(hC:C.length=fo.cb.length):Fsh {fo with ly:=upL fo.ly i cs ps,cb:=C}:=by
 refine⟨h.ck,h.sm,h.h0,h.h16,by dsimp only;rw[hC];exact h.m1,by dsimp only;rw[hC];exact h.m8,by dsimp only;rw[z4r];exact h.len,fun j hj=> ?_⟩;dsimp only at hj ⊢;rw[z4r] at hj;rw[hC];have hA:=h.at_ j hj
 by_cases e:i=j
 ·subst e;rw[upL_eq hi];exact⟨hA.lvl,hA.ids,hk.len.trans hA.len,fun k hk'=>(hk.key _).trans (hA.key k hk'),hA.wd,hp.trans hA.pn⟩
 ·rw[upL_ne e];exact hA
theorem Fsh.cbs {fo:Fo}(h:Fsh fo){C:List Cb}(hC:C.length=fo.cb.length):Fsh {fo with cb:=C}:=
 ⟨h.ck,h.sm,h.h0,h.h16,by dsimp only;rw[hC];exact h.m1,by dsimp only;rw[hC];exact h.m8,h.len,fun j hj=>by dsimp only;rw[hC];exact h.at_ j hj⟩
theorem goneF_up {L:List Ly}{i:Nat}(hi:i<L.length)(cs:List Cl)(ps:List Pr)(id lv:Int):goneF (upL L i cs ps) id lv=if(plI L id lv).toNat=i then gn cs (plK L id lv) else goneF L id lv:=by
 unfold goneF;rw[(skEq_up hi cs ps).plI,(skEq_up hi cs ps).plK]
 split
 ·rename_i e;rw[e,upL_eq hi]
 ·rename_i e;rw[upL_ne (Ne.symm e)]
structure FI (fo:Fo) (ls:Nat→List Int):Prop where
 sh:Fsh fo
 inv:∀i,i<fo.ly.length→Inv (lyA fo.ly i).cs (lyA fo.ly i).ps (ls i)
 clm:∀p,p<fo.cb.length→cbOk fo.ns fo.ht (cbA fo.cb p)=true
 idl:∀p i,p<fo.cb.length→i<fo.ly.length→((cbA fo.cb p).kind=0∨plI fo.ly (cbA fo.cb p).node (cbA fo.cb p).lvl≠i)→z3v (pr (lyA fo.ly i).ps p)=false
 cur:∀p i:Nat,p<fo.cb.length→i<fo.ly.length→(cbA fo.cb p).kind≠0→plI fo.ly (cbA fo.cb p).node (cbA fo.cb p).lvl=i→
  (pr (lyA fo.ly i).ps p).cell=plK fo.ly (cbA fo.cb p).node (cbA fo.cb p).lvl∧(pr (lyA fo.ly i).ps p).kind=(cbA fo.cb p).kind∧(pr (lyA fo.ly i).ps p).phase≠0∧Own (lyA fo.ly i).cs (pr (lyA fo.ly i).ps p)
 dis:∀p q,p<fo.cb.length→q<fo.cb.length→(cbA fo.cb p).kind≠0→(cbA fo.cb q).kind≠0→(cbA fo.cb p).node=(cbA fo.cb q).node→p=q
 lev:∀x∈fo.ns,busyF fo.cb x.id=false→∀lv,0≤lv→lv≤fo.ht→goneF fo.ly x.id lv=goneF fo.ly x.id 0
 low:∀p,p<fo.cb.length→(cbA fo.cb p).kind≠0→∀lv,0≤lv→lv≤fo.ht→(lv<(cbA fo.cb p).lvl→goneF fo.ly (cbA fo.cb p).node lv=false)∧((cbA fo.cb p).lvl<lv→goneF fo.ly (cbA fo.cb p).node lv=true)
theorem findI_mem {xs:List Nd}{v:Int}(h:0≤findI xs v):∃x∈xs,x.id=v:=by
 rcases z34 xs.length fun i=>decide ((nd xs i).id=v) with⟨h1,_⟩|⟨j,h1,h2,h3,_⟩
 ·unfold findI at h;omega
 ·exact⟨nd xs j,nd_mem h2,of_decide_eq_true h3⟩
theorem findI_of {xs:List Nd}{x:Nd}(h:x∈xs):0≤findI xs x.id:=by
 obtain⟨i,hi,rfl⟩:=List.getElem_of_mem h;rcases z34 xs.length fun q=>decide ((nd xs q).id=(xs[i]).id) with⟨_,h2⟩|⟨j,h1,_⟩
 ·have:=h2 i hi;rw[decide_eq_false_iff_not,z4q hi] at this;exact absurd rfl this
 ·unfold findI;omega
structure Works (fo:Fo) (c:Cb) (x:Nd):Prop where
 k:c.kind=1∨c.kind=2
 mm:x∈fo.ns
 id:x.id=c.node
 l0:0≤c.lvl
 lh:c.lvl≤fo.ht
theorem cbOk_works {fo:Fo}{c:Cb}(h:cbOk fo.ns fo.ht c=true)(hk:c.kind≠0):∃x,Works fo c x:=by
 rw[cbOk,Bool.or_eq_true,decide_eq_true_eq] at h;rcases h with h|h
 ·subst h;exact absurd rfl hk
 ·simp only[Bool.and_eq_true,Bool.or_eq_true,beq_iff_eq,decide_eq_true_eq] at h;obtain⟨x,h1,h2⟩:=findI_mem h.1.1.2;exact⟨x,h.1.1.1,h1,h2,h.1.2,h.2⟩
theorem Works.ok {fo:Fo}{c:Cb}{x:Nd}(h:Works fo c x):cbOk fo.ns fo.ht c=true:=by
 simp only[cbOk,Bool.or_eq_true,Bool.and_eq_true,beq_iff_eq,decide_eq_true_eq];exact .inr ⟨⟨⟨h.k,by rw[←h.id];exact findI_of h.mm⟩,h.l0⟩,h.lh⟩
theorem z4z {C:List Cb}{id:Int}:busyF C id=false↔∀p,p<C.length→(cbA C p).kind≠0→(cbA C p).node≠id:=by
 rw[busyF,anyB_iff];refine forall_congr' fun p=>forall_congr' fun hp=> ?_;simp[bne_iff_ne]
section
variable {fo:Fo} {ls:Nat→List Int}
theorem FI.works (h:FI fo ls){p:Nat}(hp:p<fo.cb.length)(hk:(cbA fo.cb p).kind≠0):∃x,Works fo (cbA fo.cb p) x:=cbOk_works (h.clm p hp) hk
theorem FI.stands (h:FI fo ls){p:Nat}(hp:p<fo.cb.length)(hk:(cbA fo.cb p).kind≠0):∃x i k,Works fo (cbA fo.cb p) x∧At fo x (cbA fo.cb p).lvl i k∧
  (pr (lyA fo.ly i).ps p).cell=k+2∧(pr (lyA fo.ly i).ps p).kind=(cbA fo.cb p).kind∧(pr (lyA fo.ly i).ps p).phase≠0∧Own (lyA fo.ly i).cs (pr (lyA fo.ly i).ps p):=by
 obtain⟨x,hw⟩:=h.works hp hk;obtain⟨i,k,ha⟩:=h.sh.place hw.mm hw.l0 hw.lh;have h1:=ha.pI;have h2:=ha.pK;rw[hw.id] at h1 h2;have:=h.cur p i hp ha.hi hk h1;rw[h2] at this;exact⟨x,i,k,hw,ha,this⟩
theorem At.gone {x:Nd}{lv:Int}{i k:Nat}(a:At fo x lv i k):goneF fo.ly x.id lv=gn (lyA fo.ly i).cs (k+2):=by
 rw[goneF,a.pI,a.pK,Int.toNat_natCast]
theorem FI.rest (h:FI fo ls){p:Nat}(hp:p<fo.cb.length)(hd:∀i:Nat,(cbA fo.cb p).kind≠0→plI fo.ly (cbA fo.cb p).node (cbA fo.cb p).lvl=i→(pr (lyA fo.ly i).ps p).phase=18)(i:Nat)(hi:i<fo.ly.length):z3v (pr (lyA fo.ly i).ps p)=false:=by
 by_cases hk:(cbA fo.cb p).kind=0
 ·exact h.idl p i hp hi (.inl hk)
 ·by_cases he:plI fo.ly (cbA fo.cb p).node (cbA fo.cb p).lvl=i
  ·have:=hd i hk he;simp[z3v,this]
  ·exact h.idl p i hp hi (.inr he)
theorem Fsh.same (h:Fsh fo){x y:Nd}(hx:x∈fo.ns)(hy:y∈fo.ns){lv lw:Int}(l0:0≤lv)(lh:lv≤fo.ht)(m0:0≤lw)(mh:lw≤fo.ht)(hI:plI fo.ly x.id lv=plI fo.ly y.id lw)(hK:plK fo.ly x.id lv=plK fo.ly y.id lw):x=y∧lv=lw:=by
 obtain⟨i,k,a⟩:=h.place hx l0 lh;obtain⟨j,m,b⟩:=h.place hy m0 mh;have h1:=a.pI;have h2:=a.pK;have h3:=b.pI;have h4:=b.pK;have e1:i=j:=by omega
 have e2:k=m:=by omega
 subst e1 e2;exact a.inj h b
theorem FI.layer (h:FI fo ls){p:Nat}(hp:p<fo.cb.length)(hk:(cbA fo.cb p).kind≠0){i:Nat}(hI:plI fo.ly (cbA fo.cb p).node (cbA fo.cb p).lvl=i)(ha:z3v (pr (lyA fo.ly i).ps p)=true){ds:List Cl}{y:Pr}(t:Tr (lyA fo.ly i).cs p (pr (lyA fo.ly i).ps p) ds y):
  ∃l',i<fo.ly.length∧Inv ds ((lyA fo.ly i).ps.set p y) l'∧FI {fo with ly:=upL fo.ly i ds ((lyA fo.ly i).ps.set p y)} (fun j=>if j=i then l' else ls j)∧
   ∀x∈fo.ns,∀lv,0≤lv→lv≤fo.ht→x.id≠(cbA fo.cb p).node∨lv≠(cbA fo.cb p).lvl→goneF (upL fo.ly i ds ((lyA fo.ly i).ps.set p y)) x.id lv=goneF fo.ly x.id lv:=by
 obtain⟨x0,i0,k0,hw,hat,hc1,hc2,hc3,hc4⟩:=h.stands hp hk;have e0:i0=i:=by have:=hat.pI;rw[hw.id] at this;omega
 subst e0;have hi:=hat.hi;have hpl:p<(lyA fo.ly i0).ps.length:=by rw[(h.sh.at_ i0 hi).pn];exact hp
 have hinv:=h.inv i0 hi;obtain⟨l',hl'⟩:=hinv.step hpl ha t;have hke:=(hinv.marks hpl ha t).1;have hsk:=skEq_up hi ds ((lyA fo.ly i0).ps.set p y)
 have off:∀x∈fo.ns,∀lv,0≤lv→lv≤fo.ht→x.id≠(cbA fo.cb p).node∨lv≠(cbA fo.cb p).lvl→goneF (upL fo.ly i0 ds ((lyA fo.ly i0).ps.set p y)) x.id lv=goneF fo.ly x.id lv:=fun x hx lv l0 lh hne=>by
  obtain⟨j,m,b⟩:=h.sh.place hx l0 lh;rw[goneF_up hi,b.pI,b.pK,Int.toNat_natCast]
  split
  ·rename_i e;subst e;rw[hinv.off hpl ha t (by omega) (fun g=> ?_),b.gone];rw[hc1] at g;have e2:m=k0:=by omega
   subst e2;obtain⟨g1,g2⟩:=b.inj h.sh hat;subst g1;rcases hne with hne|hne
   ·exact hne hw.id
   ·exact hne g2
  ·rfl
 have kd:=t.kind';refine⟨l',hi,hl',⟨h.sh.up hi hke List.length_set rfl,fun j hj=> ?_,h.clm,fun q j hq hj hz=> ?_,fun q j hq hj hz hzz=> ?_,h.dis,fun x hx hb lv l0 lh=> ?_,fun q hq hz lv l0 lh=> ?_⟩,off⟩
 ·dsimp only at hj ⊢;rw[z4r] at hj
  by_cases e:i0=j
  ·subst e;rw[upL_eq hi,if_pos rfl];exact hl'
  ·rw[upL_ne e,if_neg (Ne.symm e)];exact h.inv j hj
 ·dsimp only at hq hj hz ⊢;rw[z4r] at hj;rw[hsk.plI] at hz
  by_cases e:i0=j
  ·subst e;rw[upL_eq hi];dsimp only
   by_cases e2:p=q
   ·subst e2;rcases hz with hz|hz
    ·exact absurd hz hk
    ·exact absurd hI hz
   ·rw[z28 e2];exact h.idl q i0 hq hj hz
  ·rw[upL_ne e];exact h.idl q j hq hj hz
 ·dsimp only at hq hj hz hzz ⊢;rw[z4r] at hj;rw[hsk.plI] at hzz;rw[hsk.plK]
  by_cases e:i0=j
  ·subst e;rw[upL_eq hi];dsimp only
   by_cases e2:p=q
   ·subst e2;rw[z3b hpl,kd.1,kd.2.1];have:=h.cur p i0 hq hj hz hzz;exact⟨this.1,this.2.1,kd.2.2,hc4.step hinv hpl ha t⟩
   ·rw[z28 e2];obtain⟨g1,g2,g3,g4⟩:=h.cur q i0 hq hj hz hzz;refine⟨g1,g2,g3,g4.off (hinv.off hpl ha t ?_ ?_)⟩
    ·rw[g1];obtain⟨xq,iq,kq,wq,aq,_⟩:=h.stands hq hz;have:=aq.pK;rw[wq.id] at this;omega
    ·intro g;obtain⟨xq,wq⟩:=h.works hq hz;have e3:=h.sh.same wq.mm hw.mm wq.l0 wq.lh hw.l0 hw.lh (by rw[wq.id,hw.id,hzz,hI]) (by rw[wq.id,←g1,g,hc1,hat.pK]);exact e2 (h.dis p q hp hq hk hz (by rw[←wq.id,←hw.id,e3.1]))
  ·rw[upL_ne e];exact h.cur q j hq hj hz hzz
 ·dsimp only at hx hb l0 lh ⊢;have hne:=z4z.1 hb p hp hk;rw[off x hx lv l0 lh (.inl (Ne.symm hne)),off x hx 0 (by omega) (by have:=h.sh.h0;omega) (.inl (Ne.symm hne))];exact h.lev x hx hb lv l0 lh
 ·dsimp only at hq hz l0 lh ⊢;obtain⟨xq,wq⟩:=h.works hq hz;have:=h.low q hq hz lv l0 lh
  by_cases e:lv=(cbA fo.cb q).lvl
  ·exact⟨fun g=>by omega,fun g=>by omega⟩
  ·have hg:=off xq wq.mm lv l0 lh (by
    by_cases e2:p=q
    ·subst e2;exact .inr e
    ·left;intro g;exact e2 (h.dis p q hp hq hk hz (by rw[←wq.id,g])))
   rw[wq.id] at hg;rw[hg];exact this
theorem FI.begin (h:FI fo ls){p:Nat}(hp:p<fo.cb.length)(hr:∀i,i<fo.ly.length→z3v (pr (lyA fo.ly i).ps p)=false){c:Cb}{x:Nd}(hw:Works fo c x)
  (hn:∀q,q<fo.cb.length→q≠p→(cbA fo.cb q).kind≠0→(cbA fo.cb q).node≠c.node) (ho:(cbA fo.cb p).kind≠0→(cbA fo.cb p).node=c.node)
  (hg:goneF fo.ly c.node c.lvl=(c.kind==1)) (hl:∀lv,0≤lv→lv≤fo.ht→(lv<c.lvl→goneF fo.ly c.node lv=false)∧(c.lvl<lv→goneF fo.ly c.node lv=true)):
  beginE fo.ly p c=0∧FI {fo with ly:=beginL fo.ly p c,cb:=fo.cb.set p c} ls:=by
 obtain⟨i,k,a⟩:=h.sh.place hw.mm hw.l0 hw.lh;have hI:=a.pI;have hK:=a.pK;rw[hw.id] at hI hK;have hi:=a.hi;have hinv:=h.inv i hi;have hpl:p<(lyA fo.ly i).ps.length:=by rw[(h.sh.at_ i hi).pn];exact hp
 have hcel:=a.cel
 have he:z4m (lyA fo.ly i).cs (lyA fo.ly i).ps (p:Int) c.kind ((k:Int)+2)=0:=by
  unfold z4m;rw[hinv.vb]
  have h1:(decide ((p:Int)<0)||decide (((lyA fo.ly i).ps.length:Int)≤p))=false:=by
   rw[Bool.or_eq_false_iff,decide_eq_false_iff_not,decide_eq_false_iff_not];omega
  have h2:(decide ((k:Int)+2<2)||decide (((lyA fo.ly i).cs.length:Int)≤k+2))=false:=by
   rw[Bool.or_eq_false_iff,decide_eq_false_iff_not,decide_eq_false_iff_not];omega
  have h3:kindBad c.kind=false:=by
   rw[kindBad,Bool.or_eq_false_iff,decide_eq_false_iff_not,decide_eq_false_iff_not];have:=hw.k;omega
  rw[h1,h2,h3,Int.toNat_natCast,hr i hi]
  rfl
 refine⟨by rw[beginE,hI,hK,Int.toNat_natCast];exact he,?_⟩;unfold beginL;rw[hI,hK,Int.toNat_natCast];have hinv':=hinv.start he;have hs:=startP_length (lyA fo.ly i).cs (lyA fo.ly i).ps (p:Int) c.kind ((k:Int)+2);have hst:startP (lyA fo.ly i).cs (lyA fo.ly i).ps (p:Int) c.kind ((k:Int)+2)=(lyA fo.ly i).ps.set p ⟨c.kind,(k:Int)+2,1,0,(cl (lyA fo.ly i).cs 0).right,0,false⟩:=by rw[startP,Int.toNat_natCast]
 have hsk:=skEq_up hi (lyA fo.ly i).cs (startP (lyA fo.ly i).cs (lyA fo.ly i).ps (p:Int) c.kind ((k:Int)+2))
 have gsame:∀id lv,goneF (upL fo.ly i (lyA fo.ly i).cs (startP (lyA fo.ly i).cs (lyA fo.ly i).ps (p:Int) c.kind ((k:Int)+2))) id lv=goneF fo.ly id lv:=fun id lv=>by
  rw[goneF_up hi]
  split
  ·rename_i e;rw[goneF,e]
  ·rfl
 have cset:∀q,cbA (fo.cb.set p c) q=if q=p then c else cbA fo.cb q:=fun q=>by
  split
  ·rename_i e;subst e;exact z4i hp
  ·rename_i e;exact cbA_set_ne (Ne.symm e)
 have hck:c.kind≠0:=by have:=hw.k;omega
 refine⟨h.sh.up hi (.refl _) hs List.length_set,fun j hj=> ?_,fun q hq=> ?_,fun q j hq hj hz=> ?_,fun q j hq hj hz hzz=> ?_,fun q r hq hr1 hz1 hz2 hz3=> ?_,fun y hy hb lv l0 lh=> ?_,fun q hq hz lv l0 lh=> ?_⟩
 ·dsimp only at hj ⊢;rw[z4r] at hj
  by_cases e:i=j
  ·subst e;rw[upL_eq hi];exact hinv'
  ·rw[upL_ne e];exact h.inv j hj
 ·dsimp only at hq ⊢;rw[List.length_set] at hq;rw[cset]
  split
  ·exact hw.ok
  ·exact h.clm q hq
 ·dsimp only at hq hj hz ⊢;rw[List.length_set] at hq;rw[z4r] at hj;rw[hsk.plI,cset] at hz
  by_cases e2:q=p
  ·subst e2;rw[if_pos rfl] at hz;rcases hz with hz|hz
   ·exact absurd hz hck
   ·rw[hI] at hz;rw[upL_ne (fun e=>hz (by rw[e]))];exact hr j hj
  ·rw[if_neg e2] at hz
   by_cases e:i=j
   ·subst e;rw[upL_eq hi];dsimp only;rw[hst,z28 (Ne.symm e2)];exact h.idl q i hq hj hz
   ·rw[upL_ne e];exact h.idl q j hq hj hz
 ·dsimp only at hq hj hz hzz ⊢;rw[List.length_set] at hq;rw[z4r] at hj;rw[hsk.plI,cset] at hzz;rw[hsk.plK];rw[cset] at hz ⊢
  by_cases e2:q=p
  ·subst e2;rw[if_pos rfl] at hz hzz ⊢;have e:i=j:=by omega
   subst e;rw[upL_eq hi];dsimp only;rw[hst,z3b hpl,hK];refine⟨rfl,rfl,by dsimp only;decide,Own.start hw.k ?_⟩;rw[←hg,←hw.id,a.gone]
  ·rw[if_neg e2] at hz hzz ⊢
   by_cases e:i=j
   ·subst e;rw[upL_eq hi];dsimp only;rw[hst,z28 (Ne.symm e2)];exact h.cur q i hq hj hz hzz
   ·rw[upL_ne e];exact h.cur q j hq hj hz hzz
 ·dsimp only at hq hr1 hz1 hz2 hz3;rw[List.length_set] at hq hr1;rw[cset] at hz1 hz3;rw[cset] at hz2 hz3
  by_cases e1:q=p
  ·by_cases e2:r=p
   ·rw[e1,e2]
   ·rw[if_pos e1,if_neg e2] at hz3;rw[if_neg e2] at hz2;exact absurd hz3.symm (hn r hr1 e2 hz2)
  ·rw[if_neg e1] at hz1
   by_cases e2:r=p
   ·rw[if_neg e1,if_pos e2] at hz3;exact absurd hz3 (hn q hq e1 hz1)
   ·rw[if_neg e1,if_neg e2] at hz3;rw[if_neg e2] at hz2;exact h.dis q r hq hr1 hz1 hz2 hz3
 ·dsimp only at hy hb l0 lh ⊢;rw[gsame,gsame];refine h.lev y hy (z4z.2 fun q hq hz=> ?_) lv l0 lh;have hb1:=z4z.1 hb;rw[List.length_set] at hb1
  by_cases e:q=p
  ·subst e;have:=hb1 q hq;rw[cset,if_pos rfl] at this;rw[ho hz];exact this hck
  ·have:=hb1 q hq;rw[cset,if_neg e] at this;exact this hz
 ·dsimp only at hq hz l0 lh ⊢;rw[List.length_set] at hq;rw[gsame];rw[cset] at hz ⊢
  split
  ·exact hl lv l0 lh
  ·rename_i e;rw[if_neg e] at hz;exact h.low q hq hz lv l0 lh
theorem FI.finish (h:FI fo ls){p:Nat}(hp:p<fo.cb.length)(hk:(cbA fo.cb p).kind≠0)(hr:∀i,i<fo.ly.length→z3v (pr (lyA fo.ly i).ps p)=false)
  (hg:∀lv,0≤lv→lv≤fo.ht→goneF fo.ly (cbA fo.cb p).node lv=((cbA fo.cb p).kind==2)):FI {fo with cb:=fo.cb.set p noCb} ls:=by
 have cset:∀q,cbA (fo.cb.set p noCb) q=if q=p then noCb else cbA fo.cb q:=fun q=>by
  split
  ·rename_i e;subst e;exact z4i hp
  ·rename_i e;exact cbA_set_ne (Ne.symm e)
 refine⟨h.sh.cbs List.length_set,h.inv,fun q hq=> ?_,fun q j hq hj hz=> ?_,fun q j hq hj hz hzz=> ?_,fun q r hq hr1 hz1 hz2 hz3=> ?_,fun y hy hb lv l0 lh=> ?_,fun q hq hz lv l0 lh=> ?_⟩
 ·dsimp only at hq ⊢;rw[List.length_set] at hq;rw[cset]
  split
  ·rfl
  ·exact h.clm q hq
 ·dsimp only at hq hj hz ⊢;rw[List.length_set] at hq
  by_cases e:q=p
  ·subst e;exact hr j hj
  ·rw[cset,if_neg e] at hz;exact h.idl q j hq hj hz
 ·dsimp only at hq hj hz hzz ⊢;rw[List.length_set] at hq;rw[cset] at hz hzz ⊢
  by_cases e:q=p
  ·rw[if_pos e] at hz;exact absurd rfl hz
  ·rw[if_neg e] at hz hzz ⊢;exact h.cur q j hq hj hz hzz
 ·dsimp only at hq hr1 hz1 hz2 hz3;rw[List.length_set] at hq hr1;rw[cset] at hz1 hz2;have e1:q≠p:=fun e=>by rw[if_pos e] at hz1;exact hz1 rfl
  have e2:r≠p:=fun e=>by rw[if_pos e] at hz2;exact hz2 rfl
  rw[cset,cset,if_neg e1,if_neg e2] at hz3;rw[if_neg e1] at hz1;rw[if_neg e2] at hz2;exact h.dis q r hq hr1 hz1 hz2 hz3
 ·dsimp only at hy hb l0 lh ⊢
  by_cases e:y.id=(cbA fo.cb p).node
  ·rw[e,hg lv l0 lh,hg 0 (Int.le_refl _) h.sh.h0]
  ·refine h.lev y hy (z4z.2 fun q hq hz=> ?_) lv l0 lh;have hb1:=z4z.1 hb;rw[List.length_set] at hb1
   by_cases e2:q=p
   ·subst e2;exact fun g=>e g.symm
   ·have:=hb1 q hq;rw[cset,if_neg e2] at this;exact this hz
 ·dsimp only at hq hz l0 lh ⊢;rw[List.length_set] at hq;rw[cset] at hz ⊢;have e1:q≠p:=fun e=>by rw[if_pos e] at hz;exact hz rfl
  rw[if_neg e1] at hz ⊢;exact h.low q hq hz lv l0 lh
end
end Go.Proofs

namespace Go.Proofs
open Go.Sk
def sumR (f:Nat→Nat):Nat→Nat
 |0=>0
 |n+1=>sumR f n+f n
theorem sumR_congr {f g:Nat→Nat}:∀{n:Nat},(∀i,i<n→g i=f i)→sumR g n=sumR f n
 |0,_=>rfl
 |n+1,h=>by rw[sumR,sumR,sumR_congr fun i hi=>h i (by omega),h n (by omega)]
theorem sumR_le {f g:Nat→Nat}:∀{n:Nat},(∀i,i<n→g i≤f i)→sumR g n≤sumR f n
 |0,_=>Nat.le_refl _
 |n+1,h=>by have:=sumR_le (f:=f) (g:=g) (n:=n) fun i hi=>h i (by omega);have:=h n (by omega);simp only[sumR];omega
theorem sumR_one {f g:Nat→Nat}{i:Nat}:∀{n:Nat},i<n→(∀j,j<n→j≠i→g j=f j)→sumR g n+f i=sumR f n+g i
 |n+1,hi,h=>by
  simp only[sumR]
  by_cases e:i=n
  ·subst e;rw[sumR_congr (f:=f) (g:=g) fun j hj=>h j (by omega) (by omega)];omega
  ·have:=sumR_one (n:=n) (by omega) fun j hj hne=>h j (by omega) hne;rw[h n (by omega) (Ne.symm e)];omega
theorem sumR_add (f g:Nat→Nat):∀n,sumR (fun i=>f i+g i) n=sumR f n+sumR g n
 |0=>rfl
 |n+1=>by simp only[sumR];rw[sumR_add f g n];omega
theorem actN_sum (ps:List Pr):∀n,actN ps n=sumR (fun i=>(z3v (pr ps i)).toNat) n
 |0=>rfl
 |n+1=>by
  simp only[actN,sumR];rw[actN_sum ps n]
  cases z3v (pr ps n)<;>rfl
def futB (L:List Ly)(c:Cb)(i:Nat):Bool:=decide (plI L c.node (lyA L i).lvl=i) && ((c.kind==1 && decide (c.lvl<(lyA L i).lvl))||(c.kind==2 && decide ((lyA L i).lvl<c.lvl)))
def futN (L:List Ly)(C:List Cb)(i:Nat):Nat:=sumR (fun p=>(futB L (cbA C p) i).toNat) C.length
def rem (ht:Int)(c:Cb):Nat:=(if c.kind=1 then ht-c.lvl else c.lvl).toNat
def wC (ht:Int)(k:Nat)(c:Cb):Nat:=if c.kind=0 then 0 else rem ht c*k+1
def Phi (fo:Fo)(ls:Nat→List Int)(k:Nat):Nat:=sumR (fun i=>phiE (lyA fo.ly i).cs (lyA fo.ly i).ps (ls i) (futN fo.ly fo.cb i)) fo.ly.length+sumR (fun p=>wC fo.ht k (cbA fo.cb p)) fo.cb.length
def busyN (C:List Cb):Nat:=sumR (fun p=>((cbA C p).kind !=0).toNat) C.length
theorem futB_sk {L L':List Ly}(h:SkEq L L')(c:Cb)(i:Nat):futB L' c i=futB L c i:=by rw[futB,futB,h.plI,h.lvl]
theorem futN_sk {L L':List Ly}(h:SkEq L L')(C:List Cb)(i:Nat):futN L' C i=futN L C i:=by simp only[futN,futB_sk h]
theorem futB_kind {L:List Ly}{c:Cb}{i:Nat}(h:futB L c i=true):c.kind≠0:=by
 intro e;simp[futB,e] at h
section
variable {fo:Fo} {ls:Nat→List Int}
theorem FI.crowd (h:FI fo ls){i:Nat}(hi:i<fo.ly.length):actN (lyA fo.ly i).ps (lyA fo.ly i).ps.length+futN fo.ly fo.cb i≤busyN fo.cb:=by
 rw[(h.sh.at_ i hi).pn,actN_sum,futN,←sumR_add,busyN];refine sumR_le fun p hp=> ?_
 by_cases hk:(cbA fo.cb p).kind=0
 ·rw[h.idl p i hp hi (.inl hk)]
  cases g:futB fo.ly (cbA fo.cb p) i with
  |false=>simp
  |true=>exact absurd hk (futB_kind g)
 ·have e:((cbA fo.cb p).kind !=0)=true:=by simpa using hk
  rw[e]
  by_cases hI:plI fo.ly (cbA fo.cb p).node (cbA fo.cb p).lvl=i
  ·obtain⟨x,j,k,hw,ha,_⟩:=h.stands hp hk;have hj:j=i:=by have:=ha.pI;rw[hw.id] at this;omega
   subst hj
   have g:futB fo.ly (cbA fo.cb p) j=false:=by
    unfold futB;rw[ha.lvl];simp
   rw[g]
   cases z3v (pr (lyA fo.ly j).ps p)<;>decide
  ·rw[h.idl p i hp hi (.inr hI)]
   cases futB fo.ly (cbA fo.cb p) i<;>decide
theorem Fsh.small (h:Fsh fo){i:Nat}(hi:i<fo.ly.length):(lyA fo.ly i).cs.length≤fo.ns.length+2:=by
 rw[(h.at_ i hi).len];have:=(h.sub hi).length_le;rw[←(z2e fo.ns).length_eq] at this;omega
def stepsN (fo:Fo)(M:Nat):Nat:=(M+1)*(fo.ns.length+7)+7
theorem FI.layer_phi (h:FI fo ls){p:Nat}(hp:p<fo.cb.length){i:Nat}(hi:i<fo.ly.length)(ha:z3v (pr (lyA fo.ly i).ps p)=true){ds:List Cl}{y:Pr}(t:Tr (lyA fo.ly i).cs p (pr (lyA fo.ly i).ps p) ds y){l':List Int}(hl:Inv ds ((lyA fo.ly i).ps.set p y) l')(k:Nat):
  Phi {fo with ly:=upL fo.ly i ds ((lyA fo.ly i).ps.set p y)} (fun j=>if j=i then l' else ls j) k+1≤Phi fo ls k:=by
 have hpl:p<(lyA fo.ly i).ps.length:=by rw[(h.sh.at_ i hi).pn];exact hp
 have hsk:=skEq_up hi ds ((lyA fo.ly i).ps.set p y);have h1:=phiE_step (h.inv i hi) hpl ha t hl (futN fo.ly fo.cb i);unfold Phi
 try dsimp only
 rw[z4r]
 have h2:=sumR_one (f:=fun j=>phiE (lyA fo.ly j).cs (lyA fo.ly j).ps (ls j) (futN fo.ly fo.cb j)) (g:=fun j=>phiE (lyA (upL fo.ly i ds ((lyA fo.ly i).ps.set p y)) j).cs (lyA (upL fo.ly i ds ((lyA fo.ly i).ps.set p y)) j).ps (if j=i then l' else ls j) (futN (upL fo.ly i ds ((lyA fo.ly i).ps.set p y)) fo.cb j)) hi fun j hj hne=>by
  try dsimp only
  rw[futN_sk hsk,upL_ne (Ne.symm hne),if_neg hne]
 try dsimp only at h2
 rw[futN_sk hsk,upL_eq hi,if_pos rfl] at h2
 try dsimp only at h2
 omega
theorem phiE_mono {cs:List Cl}{ps:List Pr}{l:List Int}{e e':Nat}(h:e≤e'):phiE cs ps l e≤phiE cs ps l e':=by
 unfold phiE;have:=Nat.mul_le_mul_right (cs.length+5) (Nat.mul_le_mul_right (actN ps ps.length) h);omega
theorem FI.finish_phi {p:Nat}(hp:p<fo.cb.length)(hk:(cbA fo.cb p).kind≠0)(k:Nat):Phi {fo with cb:=fo.cb.set p noCb} ls k+1≤Phi fo ls k:=by
 have cset:∀q,cbA (fo.cb.set p noCb) q=if q=p then noCb else cbA fo.cb q:=fun q=>by
  split
  ·rename_i e;subst e;exact z4i hp
  ·rename_i e;exact cbA_set_ne (Ne.symm e)
 unfold Phi
 try dsimp only
 rw[List.length_set]
 have h1:sumR (fun i=>phiE (lyA fo.ly i).cs (lyA fo.ly i).ps (ls i) (futN fo.ly (fo.cb.set p noCb) i)) fo.ly.length≤sumR (fun i=>phiE (lyA fo.ly i).cs (lyA fo.ly i).ps (ls i) (futN fo.ly fo.cb i)) fo.ly.length:=
  sumR_le fun i _=>phiE_mono (by
   unfold futN;rw[List.length_set];refine sumR_le fun q _=> ?_;rw[cset]
   split
   ·rw[show futB fo.ly noCb i=false by simp[futB,noCb]];exact Nat.zero_le _
   ·exact Nat.le_refl _)
 have h2:=sumR_one (f:=fun q=>wC fo.ht k (cbA fo.cb q)) (g:=fun q=>wC fo.ht k (cbA (fo.cb.set p noCb) q)) hp fun j _ hne=>by(try dsimp only);rw[cset,if_neg hne]
 try dsimp only at h2
 rw[cset,if_pos rfl,show wC fo.ht k noCb=0 from rfl] at h2;have h3:1≤wC fo.ht k (cbA fo.cb p):=by unfold wC;rw[if_neg hk];omega
 omega
theorem FI.climb_phi (h:FI fo ls){p:Nat}(hp:p<fo.cb.length)(hk:(cbA fo.cb p).kind≠0)(hr:∀i,i<fo.ly.length→z3v (pr (lyA fo.ly i).ps p)=false){x:Nd}(hw:Works fo (nxC (cbA fo.cb p)) x){M:Nat}(hM:busyN fo.cb≤M):
  Phi {fo with ly:=beginL fo.ly p (nxC (cbA fo.cb p)),cb:=fo.cb.set p (nxC (cbA fo.cb p))} ls (stepsN fo M)+1≤Phi fo ls (stepsN fo M):=by
 obtain⟨c0,hc0⟩:∃c0,cbA fo.cb p=c0:=⟨_,rfl⟩;obtain⟨x0,hw0⟩:=h.works hp hk;rw[hc0] at hw hw0 hk ⊢;obtain⟨c,hc⟩:∃c,nxC c0=c:=⟨_,rfl⟩;have hcn:c.node=c0.node:=by subst hc;unfold nxC;split<;>rfl
 have hck:c.kind=c0.kind:=by subst hc;unfold nxC;split<;>rfl
 have hcl:c.lvl=if c0.kind=1 then c0.lvl+1 else c0.lvl-1:=by subst hc;unfold nxC;split<;>rfl
 rw[hc] at hw ⊢;obtain⟨i,k,a⟩:=h.sh.place hw.mm hw.l0 hw.lh;have hI:=a.pI;have hK:=a.pK;rw[hw.id] at hI hK;have hi:=a.hi;have hpl:p<(lyA fo.ly i).ps.length:=by rw[(h.sh.at_ i hi).pn];exact hp
 unfold beginL;rw[hI,hK,Int.toNat_natCast];have hst:startP (lyA fo.ly i).cs (lyA fo.ly i).ps (p:Int) c.kind ((k:Int)+2)=(lyA fo.ly i).ps.set p ⟨c.kind,(k:Int)+2,1,0,(cl (lyA fo.ly i).cs 0).right,0,false⟩:=by rw[startP,Int.toNat_natCast]
 rw[hst];obtain⟨qs,hqs⟩:∃qs,(lyA fo.ly i).ps.set p ⟨c.kind,(k:Int)+2,1,0,(cl (lyA fo.ly i).cs 0).right,0,false⟩=qs:=⟨_,rfl⟩;rw[hqs];have hsk:=skEq_up hi (lyA fo.ly i).cs qs
 have cset:∀q,cbA (fo.cb.set p c) q=if q=p then c else cbA fo.cb q:=fun q=>by
  split
  ·rename_i e;subst e;exact z4i hp
  ·rename_i e;exact cbA_set_ne (Ne.symm e)
 have fut1:futB fo.ly c0 i=true:=by
  unfold futB;rw[a.lvl,←hcn,hI,hcl];have:=hw0.k;rcases this with g|g<;>simp[g]<;>omega
 have fut2:futB fo.ly c i=false:=by
  unfold futB;rw[a.lvl];simp
 have fut3:∀j,j<fo.ly.length→j≠i→futB fo.ly c j=futB fo.ly c0 j:=fun j hj hne=>by
  unfold futB;rw[hcn,hck]
  by_cases g:plI fo.ly c0.node (lyA fo.ly j).lvl=j
  ·have g2:(lyA fo.ly j).lvl≠c.lvl:=fun e=>by rw[e,←hcn,hI] at g;omega
   rw[hcl] at g2 ⊢;rcases hw0.k with e|e
   ·rw[if_pos e] at g2 ⊢;rw[e];simp only[beq_self_eq_true,Bool.true_and];rw[show decide (c0.lvl+1<(lyA fo.ly j).lvl)=decide (c0.lvl<(lyA fo.ly j).lvl) by rw[decide_eq_decide];omega]
    rfl
   ·rw[if_neg (by omega)] at g2 ⊢;rw[e];simp only[beq_self_eq_true,Bool.true_and];rw[show decide ((lyA fo.ly j).lvl<c0.lvl-1)=decide ((lyA fo.ly j).lvl<c0.lvl) by rw[decide_eq_decide];omega]
    rfl
  ·rw[decide_eq_false g];rfl
 have futs:∀j,futN (upL fo.ly i (lyA fo.ly i).cs qs) (fo.cb.set p c) j+(futB fo.ly c0 j).toNat=futN fo.ly fo.cb j+(futB fo.ly c j).toNat:=fun j=>by
  rw[futN_sk hsk];unfold futN;rw[List.length_set];have:=sumR_one (f:=fun q=>(futB fo.ly (cbA fo.cb q) j).toNat) (g:=fun q=>(futB fo.ly (cbA (fo.cb.set p c) q) j).toNat) hp fun q _ hne=>by(try dsimp only);rw[cset,if_neg hne]
  try dsimp only at this
  rw[cset,if_pos rfl,hc0] at this;exact this
 have fi:=futs i;rw[fut1,fut2] at fi;simp only[Bool.toNat_true,Bool.toNat_false,Nat.add_zero] at fi;have hcrowd:=h.crowd hi;have hlen:=h.sh.small hi;have hphi:=phiE_start (h.inv i hi) hpl (hr i hi) (k:=c.kind) (c:=(k:Int)+2) hw.k (futN (upL fo.ly i (lyA fo.ly i).cs qs) (fo.cb.set p c) i);rw[hqs,fi] at hphi;unfold Phi
 try dsimp only
 rw[z4r,List.length_set]
 have h2:=sumR_one (f:=fun j=>phiE (lyA fo.ly j).cs (lyA fo.ly j).ps (ls j) (futN fo.ly fo.cb j)) (g:=fun j=>phiE (lyA (upL fo.ly i (lyA fo.ly i).cs qs) j).cs (lyA (upL fo.ly i (lyA fo.ly i).cs qs) j).ps (ls j) (futN (upL fo.ly i (lyA fo.ly i).cs qs) (fo.cb.set p c) j)) hi fun j hj hne=>by
  try dsimp only
  have:=futs j;rw[fut3 j hj hne] at this;rw[upL_ne (Ne.symm hne),show futN (upL fo.ly i (lyA fo.ly i).cs qs) (fo.cb.set p c) j=futN fo.ly fo.cb j by omega]
 have h3:=sumR_one (f:=fun q=>wC fo.ht (stepsN fo M) (cbA fo.cb q)) (g:=fun q=>wC fo.ht (stepsN fo M) (cbA (fo.cb.set p c) q)) hp fun j _ hne=>by(try dsimp only);rw[cset,if_neg hne]
 try dsimp only at h2 h3
 rw[upL_eq hi] at h2
 try dsimp only at h2
 rw[cset,if_pos rfl,hc0] at h3;have hck':c.kind≠0:=by rw[hck];exact hk
 have w0:wC fo.ht (stepsN fo M) c0=wC fo.ht (stepsN fo M) c+stepsN fo M:=by
  unfold wC;rw[if_neg hk,if_neg hck']
  have:rem fo.ht c0=rem fo.ht c+1:=by
   unfold rem;rw[hck,hcl];have:=hw0.l0;have:=hw0.lh;have:=hw.l0;have:=hw.lh;rw[hcl] at*;rcases hw0.k with g|g
   ·rw[if_pos g] at*;rw[if_pos g];omega
   ·rw[if_neg (by omega)] at*;rw[if_neg (by omega)];omega
  rw[this,Nat.add_mul,Nat.one_mul];omega
 have hb:(actN (lyA fo.ly i).ps (lyA fo.ly i).ps.length+futN (upL fo.ly i (lyA fo.ly i).cs qs) (fo.cb.set p c) i)*((lyA fo.ly i).cs.length+5)+(lyA fo.ly i).cs.length+9+1≤stepsN fo M:=by
  have g1:=Nat.mul_le_mul (show actN (lyA fo.ly i).ps (lyA fo.ly i).ps.length+futN (upL fo.ly i (lyA fo.ly i).cs qs) (fo.cb.set p c) i≤M by omega) (show(lyA fo.ly i).cs.length+5≤fo.ns.length+7 by omega);have:stepsN fo M=M*(fo.ns.length+7)+fo.ns.length+14:=by unfold stepsN;rw[Nat.add_mul,Nat.one_mul];omega
  omega
 omega
end
end Go.Proofs

namespace Go.Proofs
open Go.Sk
def lvlL (ns:List Nd)(h:Nat):List (Int×List Int):=(List.range (h+1)).flatMap fun(n:Nat)=>(lstN ns (n:Int)).map fun ids=>((n:Int),ids)
def lvA (S:List (Int×List Int))(i:Nat):Int×List Int:=S.getD i (0,[])
def shpB (ns:List Nd)(x:Ly)(lv:Int)(ids:List Int):Bool:=
 x.lvl==lv && decide (x.ids=ids) && decide (x.cs.length=ids.length+2) && !anyB ids.length fun i=>(!sEq (cl x.cs (i+2)).key (findN ns (nth ids i)).key)||(decide (i=0) && x.wd !=(findN ns (nth ids i)).word)
def headF (fo:Fo):Bool:=(z1r fo.ns !=0)||decide (fo.ht<0)||decide (16<fo.ht)||decide ((fo.cb.length:Int)<1)||decide (8<(fo.cb.length:Int))
def z5b (fo:Fo):Bool:=
 !headF fo && decide (fo.ly.length=(lvlL fo.ns fo.ht.toNat).length) && !anyB fo.ly.length (fun i=> !shpB fo.ns (lyA fo.ly i) (lvA (lvlL fo.ns fo.ht.toNat) i).1 (lvA (lvlL fo.ns fo.ht.toNat) i).2)
  && !anyB fo.ly.length (fun i=> !z2r (lyA fo.ly i).cs (lyA fo.ly i).ps||decide ((lyA fo.ly i).ps.length≠fo.cb.length)) && !anyB fo.cb.length fun p=> !cbOk fo.ns fo.ht (cbA fo.cb p)
theorem lvlL_eq {ns:List Nd}(hc:z1r ns=0){h:Nat}(h16:h≤16):lvlL ns h=(z3c ns h).map fun s=>(s.1,s.2.map (·.id)):=by
 unfold lvlL z3c;rw[List.map_flatMap]
 have:∀l:List Nat,(∀n∈l,n≤16)→l.flatMap (fun(n:Nat)=>(lstN ns (n:Int)).map fun ids=>((n:Int),ids))=l.flatMap fun(n:Nat)=>((z4k (z52 ns) (n:Int)).map fun c=>((n:Int),c)).map fun s=>(s.1,s.2.map (·.id)):=fun l=>by
  induction l with
  |nil=>intro _;rfl
  |cons n l ih=>
   intro hl;rw[List.flatMap_cons,List.flatMap_cons,ih fun m hm=>hl m (List.mem_cons_of_mem _ hm),lstN,if_pos ⟨hc,by omega,by have:=hl n (List.mem_cons_self ..);omega⟩,lstG];simp[List.map_map,Function.comp_def]
 exact this _ fun n hn=>by rw[List.mem_range] at hn;omega
theorem findN_at {ns:List Nd}(hc:z1r ns=0){x:Nd}(hx:x∈ns):findN ns x.id=x:=by
 obtain⟨i,hi,rfl⟩:=List.getElem_of_mem hx;have hd:=ids_nodup hc;have h0:=findI_of hx
 obtain⟨j,hj,e,hjx⟩:∃j:Nat,j<ns.length∧findI ns (ns[i]).id=j∧(nd ns j).id=(ns[i]).id:=by
  rcases z34 ns.length fun q=>decide ((nd ns q).id=(ns[i]).id) with⟨h1,_⟩|⟨j,h1,h2,h3,_⟩
  ·unfold findI at h0;omega
  ·exact⟨j,h2,h1,of_decide_eq_true h3⟩
 rw[findN,e,if_neg (by omega),Int.toNat_natCast];exact ids_inj hc (nd_mem hj) hx hjx
structure FV (fo:Fo):Prop where
 sh:Fsh fo
 vb:∀i,i<fo.ly.length→z2r (lyA fo.ly i).cs (lyA fo.ly i).ps=true
 cb:∀p,p<fo.cb.length→cbOk fo.ns fo.ht (cbA fo.cb p)=true
theorem shpB_iff {ns:List Nd}(hc:z1r ns=0){x:Ly}{lv:Int}{c:List Nd}(hs:∀y∈c,y∈ns)(hne:c≠[]):shpB ns x lv (c.map (·.id))=true↔x.lvl=lv∧x.ids=c.map (·.id)∧x.cs.length=c.length+2∧(∀k,k<c.length→(cl x.cs (k+2)).key=(nd c k).key)∧x.wd=(hdN c).word:=by
 have hf:∀k,k<c.length→findN ns (nth (c.map (·.id)) k)=nd c k:=fun k hk=>by
  rw[z2w (by rw[List.length_map];exact hk),List.getElem_map,z4q hk];exact findN_at hc (hs _ (List.getElem_mem hk))
 have hl:0<c.length:=by cases c with
  |nil=>exact absurd rfl hne
  |cons _ _=>exact Nat.succ_pos _
 rw[shpB];simp only[Bool.and_eq_true,beq_iff_eq,decide_eq_true_eq,Bool.not_eq_true',anyB_iff,List.length_map,Bool.or_eq_false_iff,Bool.not_eq_false',sEq_iff,Bool.and_eq_false_imp,bne_eq_false_iff_eq]
 constructor
 ·rintro⟨⟨⟨h1,h2⟩,h3⟩,h4⟩;refine⟨h1,h2,h3,fun k hk=> ?_,?_⟩
  ·have:=(h4 k hk).1;rw[hf k hk] at this;exact this
  ·have:=(h4 0 hl).2 rfl;rw[hf 0 hl] at this;exact this
 ·rintro⟨h1,h2,h3,h4,h5⟩;refine⟨⟨⟨h1,h2⟩,h3⟩,fun k hk=>⟨by rw[hf k hk];exact h4 k hk,fun e=> ?_⟩⟩;subst e;rw[hf 0 hk];exact h5
theorem headF_false {fo:Fo}:headF fo=false↔z1r fo.ns=0∧(0≤fo.ht∧fo.ht≤16)∧1≤fo.cb.length∧fo.cb.length≤8:=by
 simp only[headF,Bool.or_eq_false_iff,decide_eq_false_iff_not,bne_eq_false_iff_eq];omega
theorem lvA_eq {ns:List Nd}(hc:z1r ns=0){h:Nat}(h16:h≤16){i:Nat}(hi:i<(z3c ns h).length):lvA (lvlL ns h) i=((shA (z3c ns h) i).1,(shA (z3c ns h) i).2.map (·.id)):=by
 rw[lvlL_eq hc h16,shA_lt hi,lvA,List.getD_eq_getElem?_getD,List.getElem?_eq_getElem (by rw[List.length_map];exact hi)];simp
theorem shpL_sub {ns:List Nd}{h:Nat}(h16:h≤16){i:Nat}(hi:i<(z3c ns h).length):(∀y∈(shA (z3c ns h) i).2,y∈ns)∧(shA (z3c ns h) i).2≠[]:=by
 rw[shA_lt hi];obtain⟨n,h1,h2,h3⟩:=mem_shpL.1 (List.getElem_mem (l:=z3c ns h) (n:=i) hi);exact⟨fun y hy=>(z2e ns).mem_iff.2 ((cls_sub (by omega) h3).subset hy),(clsN_ok (by omega) _).1.ne _ h3⟩
theorem FV.vf {fo:Fo}:FV fo→z5b fo=true:=by
 rintro⟨h,hv,hc⟩;simp only[z5b,Bool.and_eq_true,Bool.not_eq_true',decide_eq_true_eq,headF_false];have h16:fo.ht.toNat≤16:=by have:=h.h16;omega
 refine⟨⟨⟨⟨⟨h.ck,⟨h.h0,h.h16⟩,h.m1,h.m8⟩,?_⟩,?_⟩,?_⟩,?_⟩
 ·rw[lvlL_eq h.ck h16,List.length_map];exact h.len
 ·rw[anyB_iff];intro i hi;have hi':i<(z3c fo.ns fo.ht.toNat).length:=by rw[←h.len];exact hi
  obtain⟨s1,s2⟩:=shpL_sub h16 hi';have hA:=h.at_ i hi;rw[lvA_eq h.ck h16 hi',Bool.not_eq_false',shpB_iff h.ck s1 s2];exact⟨hA.lvl,hA.ids,hA.len,hA.key,hA.wd⟩
 ·rw[anyB_iff];intro i hi;rw[hv i hi,(h.at_ i hi).pn];simp
 ·rw[anyB_iff];intro p hp;rw[hc p hp];rfl
theorem FI.vf {fo:Fo}{ls:Nat→List Int}(h:FI fo ls):z5b fo=true:=FV.vf ⟨h.sh,fun i hi=>(h.inv i hi).vb,h.clm⟩
def inC (C:List Cb)(p:Int):Bool:= !(decide (p<0)||decide ((C.length:Int)≤p))
def begC (ht kind id:Int):Cb:=⟨kind,id,if kind=2 then ht else 0⟩
def z21 (fo:Fo)(p kind id:Int):Int:=
 if !z5b fo then 1 else if !inC fo.cb p then 2 else if findI fo.ns id<0 then 6 else if kind≠1∧kind≠2 then 1 else if(cbA fo.cb p.toNat).kind≠0 then 7
 else if busyF fo.cb id then 13 else if kind=1∧memF fo.ly id 0=true then 5 else if kind=2∧memF fo.ly id 0=false then 18 else beginE fo.ly p (begC fo.ht kind id)
def z13 (fo:Fo)(p kind id:Int):Fo:=if z21 fo p kind id=0 then {fo with ly:=beginL fo.ly p (begC fo.ht kind id),cb:=fo.cb.set p.toNat (begC fo.ht kind id)} else noFo
def curI (fo:Fo)(p:Int):Nat:=(plI fo.ly (cbA fo.cb p.toNat).node (cbA fo.cb p.toNat).lvl).toNat
def endB (fo:Fo)(p:Int):Bool:=(pr (lyA fo.ly (curI fo p)).ps p.toNat).phase==18
def outB (ht:Int)(c:Cb):Bool:=decide (c.lvl<0)||decide (ht<c.lvl)
def stepFB (fo:Fo)(p:Int):Bool:=
 z5b fo && (inC fo.cb p && (cbA fo.cb p.toNat).kind !=0) && (if endB fo p then outB fo.ht (nxC (cbA fo.cb p.toNat))||beginE fo.ly p (nxC (cbA fo.cb p.toNat))==0 else stepOk (lyA fo.ly (curI fo p)).cs (lyA fo.ly (curI fo p)).ps p)
def z3o (fo:Fo)(p:Int):Fo:=
 if !z5b fo then noFo else if stepFB fo p then
  (if endB fo p then(if outB fo.ht (nxC (cbA fo.cb p.toNat)) then {fo with cb:=fo.cb.set p.toNat noCb} else {fo with ly:=beginL fo.ly p (nxC (cbA fo.cb p.toNat)),cb:=fo.cb.set p.toNat (nxC (cbA fo.cb p.toNat))})
   else {fo with ly:=upL fo.ly (curI fo p) (stepR (lyA fo.ly (curI fo p)).cs (lyA fo.ly (curI fo p)).ps p).1 (stepR (lyA fo.ly (curI fo p)).cs (lyA fo.ly (curI fo p)).ps p).2}) else fo
section
variable {fo:Fo} {ls:Nat→List Int}
theorem memF_at {x:Nd}{lv:Int}{i k:Nat}(a:At fo x lv i k):memF fo.ly x.id lv= !gn (lyA fo.ly i).cs (k+2):=by
 rw[memF,a.pI,a.gone,decide_eq_true (by omega),Bool.true_and]
theorem memF_gone (h:Fsh fo){x:Nd}(hx:x∈fo.ns){lv:Int}(l0:0≤lv)(lh:lv≤fo.ht):memF fo.ly x.id lv= !goneF fo.ly x.id lv:=by
 obtain⟨i,k,a⟩:=h.place hx l0 lh;rw[memF_at a,a.gone]
theorem inC_iff {C:List Cb}{p:Int}:inC C p=true↔0≤p∧p<C.length:=by
 simp only[inC,Bool.not_eq_true',Bool.or_eq_false_iff,decide_eq_false_iff_not];omega
structure Sok (fo:Fo) (p kind id:Int) (x:Nd):Prop where
 p0:0≤p
 pl:p.toNat<fo.cb.length
 k:kind=1∨kind=2
 mm:x∈fo.ns
 ide:x.id=id
 idle:(cbA fo.cb p.toNat).kind=0
 free:busyF fo.cb id=false
 mem:memF fo.ly id 0=(kind==2)
theorem FI.sok (h:FI fo ls){p kind id:Int}(he:z21 fo p kind id=0):∃x,Sok fo p kind id x:=by
 unfold z21 at he;rw[h.vf] at he;simp only[Bool.not_true,Bool.false_eq_true,if_false] at he
 split at he
 ·cases he
 rename_i h1
 split at he
 ·cases he
 rename_i h2
 split at he
 ·cases he
 rename_i h3
 split at he
 ·cases he
 rename_i h4
 split at he
 ·cases he
 rename_i h5
 split at he
 ·cases he
 rename_i h6
 split at he
 ·cases he
 rename_i h7;have h1:inC fo.cb p=true:=by simpa using h1
 rw[inC_iff] at h1;obtain⟨x,hx,hxi⟩:=findI_mem (by omega:0≤findI fo.ns id);refine⟨x,h1.1,by omega,by omega,hx,hxi,by omega,by simpa using h5,?_⟩
 cases hm:memF fo.ly id 0 with
 |true=>
  have:kind≠1:=fun e=>h6 ⟨e,hm⟩;have:kind=2:=by omega
  subst this;rfl
 |false=>
  have:kind≠2:=fun e=>h7 ⟨e,hm⟩
  symm;simpa using this
theorem FI.start_begin (h:FI fo ls){p kind id:Int}{x:Nd}(s:Sok fo p kind id x):beginE fo.ly p (begC fo.ht kind id)=0∧FI {fo with ly:=beginL fo.ly p (begC fo.ht kind id),cb:=fo.cb.set p.toNat (begC fo.ht kind id)} ls:=by
 have h0:=h.sh.h0;have hp:((p.toNat:Nat):Int)=p:=by have:=s.p0;omega
 have hfree:=z4z.1 s.free;have hm:=memF_gone h.sh s.mm (Int.le_refl 0) h0;rw[s.ide,s.mem] at hm
 have hlev:∀lv,0≤lv→lv≤fo.ht→goneF fo.ly id lv=(kind==1):=fun lv l0 lh=>by
  have:=h.lev x s.mm (by rw[s.ide];exact s.free) lv l0 lh;rw[s.ide] at this;rw[this];rcases s.k with e|e<;>subst e<;>cases g:goneF fo.ly id 0<;>simp_all
 have hb:(begC fo.ht kind id).kind=kind:=rfl;have hbn:(begC fo.ht kind id).node=id:=rfl;have hbl:(begC fo.ht kind id).lvl=if kind=2 then fo.ht else 0:=rfl
 have:=h.begin (p:=p.toNat) s.pl (fun i hi=>h.idl p.toNat i s.pl hi (.inl s.idle)) (c:=begC fo.ht kind id) (x:=x)
  ⟨s.k,s.mm,s.ide,by rw[hbl];split<;>omega,by rw[hbl];split<;>omega⟩ (fun q hq _ hk=>hfree q hq hk) (fun e=>absurd s.idle e)
  (hlev _ (by rw[hbl];split<;>omega) (by rw[hbl];split<;>omega))
  (fun lv l0 lh=>by
   rw[hbl,hbn,hlev lv l0 lh];rcases s.k with e|e<;>subst e
   ·rw[if_neg (by decide)];exact⟨fun g=>by omega,fun _=>rfl⟩
   ·rw[if_pos rfl];exact⟨fun _=>rfl,fun g=>by omega⟩)
 rw[hp] at this;exact this
theorem FI.start (h:FI fo ls){p kind id:Int}(he:z21 fo p kind id=0):FI (z13 fo p kind id) ls:=by
 obtain⟨x,s⟩:=h.sok he;rw[z13,if_pos he];exact(h.start_begin s).2
theorem FI.step (h:FI fo ls){p:Int}(hs:stepFB fo p=true){M:Nat}(hM:busyN fo.cb≤M):∃ls',FI (z3o fo p) ls'∧Phi (z3o fo p) ls' (stepsN fo M)+1≤Phi fo ls (stepsN fo M):=by
 have hs0:=hs;unfold stepFB at hs;rw[h.vf,Bool.true_and,Bool.and_eq_true,Bool.and_eq_true,inC_iff,bne_iff_ne] at hs;obtain⟨⟨⟨p0,pl⟩,hk⟩,hs⟩:=hs;have hp:p.toNat<fo.cb.length:=by omega
 have hpp:((p.toNat:Nat):Int)=p:=by omega
 unfold z3o;rw[h.vf,hs0];simp only[Bool.not_true,Bool.false_eq_true,if_false,if_true];obtain⟨x,i,k,hw,ha,hc1,hc2,hc3,hc4⟩:=h.stands hp hk;have hI:=ha.pI;rw[hw.id] at hI;have hcur:curI fo p=i:=by rw[curI,hI,Int.toNat_natCast]
 by_cases he:endB fo p=true
 ·rw[if_pos he] at hs;rw[if_pos he];rw[endB,hcur,beq_iff_eq] at he
  have hrest:=h.rest hp fun j _ hj=>by
   have:j=i:=by omega
   subst this;exact he
  have hlow:=h.low p.toNat hp hk;have hgn:=ha.gone;rw[hw.id] at hgn;have hnn:(nxC (cbA fo.cb p.toNat)).node=(cbA fo.cb p.toNat).node:=by unfold nxC;split<;>rfl
  have hnk:(nxC (cbA fo.cb p.toNat)).kind=(cbA fo.cb p.toNat).kind:=by unfold nxC;split<;>rfl
  have hnl:(nxC (cbA fo.cb p.toNat)).lvl=if(cbA fo.cb p.toNat).kind=1 then(cbA fo.cb p.toNat).lvl+1 else(cbA fo.cb p.toNat).lvl-1:=by unfold nxC;split<;>rfl
  have hl0:=hw.l0;have hlh:=hw.lh
  have here:goneF fo.ly (cbA fo.cb p.toNat).node (cbA fo.cb p.toNat).lvl=((cbA fo.cb p.toNat).kind==2):=by
   rw[hgn];rcases hw.k with e|e
   ·have:=hc4.i2 (by rw[hc2,e]) (by omega);rw[hc1] at this;rw[this,e];rfl
   ·have:=hc4.r2 (by rw[hc2,e]) (by omega);rw[hc1] at this;rw[this,e];rfl
  by_cases ho:outB fo.ht (nxC (cbA fo.cb p.toNat))=true
  ·rw[if_pos ho];rw[outB,Bool.or_eq_true,decide_eq_true_eq,decide_eq_true_eq,hnl] at ho;refine⟨ls,h.finish hp hk hrest fun lv l0 lh=> ?_,FI.finish_phi hp hk _⟩
   by_cases e:lv=(cbA fo.cb p.toNat).lvl
   ·rw[e];exact here
   ·have:=hlow lv l0 lh;rcases hw.k with e1|e1
    ·rw[if_pos e1] at ho;rw[this.1 (by omega),e1];rfl
    ·rw[if_neg (by omega)] at ho;rw[this.2 (by omega),e1];rfl
  ·rw[if_neg ho];have ho:outB fo.ht (nxC (cbA fo.cb p.toNat))=false:=by simpa using ho
   rw[outB,Bool.or_eq_false_iff,decide_eq_false_iff_not,decide_eq_false_iff_not] at ho;have hwn:Works fo (nxC (cbA fo.cb p.toNat)) x:=⟨by rw[hnk];exact hw.k,hw.mm,by rw[hnn];exact hw.id,by omega,by omega⟩
   have hb:=h.begin hp hrest hwn (fun q hq hne hkq e=>hne (h.dis q p.toNat hq hp hkq hk (by rw[e,hnn]))) (fun _=>hnn.symm)
    (by
     rw[hnn,hnk];have:=hlow (nxC (cbA fo.cb p.toNat)).lvl (by omega) (by omega);rw[hnl] at*;rcases hw.k with e1|e1
     ·rw[if_pos e1] at*;rw[this.2 (by omega),e1];rfl
     ·rw[if_neg (by omega)] at*;rw[this.1 (by omega),e1];rfl)
    (fun lv l0 lh=>by
     have g:=hlow lv l0 lh;rw[hnn,hnl];rcases hw.k with e1|e1
     ·rw[if_pos e1];refine⟨fun g1=> ?_,fun g1=>g.2 (by omega)⟩
      by_cases e:lv=(cbA fo.cb p.toNat).lvl
      ·rw[e,here,e1];rfl
      ·exact g.1 (by omega)
     ·rw[if_neg (by omega)];refine⟨fun g1=>g.1 (by omega),fun g1=> ?_⟩
      by_cases e:lv=(cbA fo.cb p.toNat).lvl
      ·rw[e,here,e1];rfl
      ·exact g.2 (by omega))
   have hf:=h.climb_phi hp hk hrest hwn hM;rw[hpp] at hb hf;exact⟨ls,hb.2,hf⟩
 ·rw[if_neg he] at hs;rw[if_neg he];rw[hcur] at hs ⊢;have hinv:=h.inv i ha.hi
  have hq:goesB (lyA fo.ly i).ps p=true:=by
   rw[goesB,(h.sh.at_ i ha.hi).pn,Bool.not_eq_true',Bool.or_eq_false_iff,decide_eq_false_iff_not,decide_eq_false_iff_not];omega
  have hr:stepR (lyA fo.ly i).cs (lyA fo.ly i).ps p=(z1w (lyA fo.ly i).cs p.toNat (pr (lyA fo.ly i).ps p.toNat),(lyA fo.ly i).ps.set p.toNat (z1y (lyA fo.ly i).cs (pr (lyA fo.ly i).ps p.toNat))):=by
   rw[stepOk,hinv.vb,Bool.true_and] at hs;rw[stepR,hinv.vb,hs];rfl
  rw[stepOk,hinv.vb,Bool.true_and,hq,Bool.true_and] at hs;rw[hr];have t:=Tr.of (p:=p.toNat) hs;have hact:=step_act hs;obtain⟨l',hi,hl',hF,_⟩:=h.layer hp hk hI hact t;exact⟨_,hF,h.layer_phi hp hi hact t hl' _⟩
end
end Go.Proofs

namespace Go.Proofs
open Go.Sk
def lyB (L:List Ly):Prop:=L.length≤1000000∧∀i,(lyA L i).ids.length≤1000000∧(lyA L i).cs.length≤1000000∧(lyA L i).ps.length≤1000000
theorem idI_lt (ids:List Int)(v:Int): -1≤idI ids v∧idI ids v<ids.length:=by
 rcases z34 ids.length fun q=>decide (nth ids q=v) with⟨h,_⟩|⟨j,h1,h2,_⟩<;>unfold idI<;>omega
theorem indexM_spec (L:List Ly)(hb:lyB L)(i k:Nat)(hi:i<k)(v:Int):
  zf Tryz.prog 121 [.slc false 0 (3*i+1) 0 (lyA L i).ids.length,.int .i64 v] ⟨1,[(0,(3*k+1,fam false 3 1 (lyF false L)))]⟩ (fun s H1=>s= .int .i64 (idI (lyA L i).ids v)∧H1=⟨1,[]⟩):=by
 refine(lyId L i k hi (index_spec (lyA L i).ids v _ rfl (hb.2 i).1) (by simp[SV.ltL,SV.lt]) fun π=>rfl).imp ?_;rintro s H' ⟨s0,H0',⟨rfl,rfl⟩,rfl,rfl⟩;exact⟨rfl,rfl⟩
def ec34:=aj @Tryz.tyLy (aj @Tryz.tyCb @Tryz.tyFo)
def ec35:=aj @Tryz.szLy (aj @Tryz.zLy (aj @Tryz.tyLys (aj @Tryz.szLys (aj @Tryz.szCb (aj @Tryz.zCb (aj @Tryz.tyCbs (aj @Tryz.szCbs (aj @Tryz.szFo (aj @Tryz.zFo (aj @lyF_0 (aj @lyF_1 @lyF_2)))))))))))
def ec36:=aj @lyR_ap @cbs_ap
def JnNm.exE:=aj @z1c (aj @zg (aj @zi (aj @zq (aj @zk (aj @z14 (aj @z19 (aj ec2 (aj @zj (aj @zy (aj @zu (aj @zl (aj ec13 (aj @zw (aj z40 (aj z4t (aj @z10 (aj ec3 (aj ec5 (aj @z18.eq_1 (aj @z11.eq_1 (aj @ints.eq_1 (aj ec34 (aj ec35 ec36)))))))))))))))))))))))
def ec37:=aj @cbs_ren' (aj @cbs_lt (aj @lyR_ren' (aj @lyR_lt (aj @lyF_gives (aj @z4p @lyF_fown)))))
def JnNm.gxE:=aj @z1c (aj z40 (aj ec16 (aj z4t (aj ec3 (aj ec7 (aj ec8 (aj @z18.eq_1 (aj @z11.eq_1 (aj @z2d (aj @z20 (aj ec37 (aj ec26 ec29))))))))))))
def ec38:=aj @cbs_ren (aj @lyR_ren @lyF_ren)
def JnNm.axE:=aj @z1c (aj @zg (aj @zi (aj @zq (aj @zk (aj @z14 (aj @z19 (aj ec2 (aj @zj (aj @zy (aj @zu (aj @zl (aj ec13 (aj @zw (aj z40 (aj z4t (aj @z10 (aj ec3 (aj ec5 (aj @z18.eq_1 (aj @z11.eq_1 (aj ec34 (aj ec35 (aj @z1s (aj @z2g (aj @z2s (aj @z3d (aj ec38 @z47)))))))))))))))))))))))))))
def JnNm.oxE:=aj @z10 ec34
open JnNm (gxE axE oxE exE)
open D0 (sdE)
theorem place_spec (L:List Ly)(hb:lyB L)(k n m:Nat)(hk:L.length=k)(ht v lv:Int):
  zf Tryz.prog 80 [.agg [.slc false 0 0 0 n,.int .i64 ht,.slc false 1 0 0 k,.slc false 3 0 0 m],.int .i64 v,.int .i64 lv] ⟨4,[(1,uQ (.row ⟨false,false,89,5,k,lyR 2 L⟩)),(2,(3*k+1,fam false 3 1 (lyF false L)))]⟩
   (fun s H1=>s= .tup [.int .i64 (plI L v lv),.int .i64 (plK L v lv)]∧H1=⟨4,[]⟩):=by
 subst hk;have hlen:=hb.1;refine zf.ofC false 35 [.tmp 6,.tmp 7] Tryz.func80 rfl rfl Tryz.ntmps80 Tryz.results80 rfl ?_;intro w0 own0 β0 Q hQ hQn;simp only[z16];refine Zrs [1,2,3] ?_;refine z6 ?_;refine Zrs [1,2,12,13,14] ?_;refine zc fun Q0 hN0 hX0 hR0 hE0=> ?_;refine zr (σ:=Nat) (fun i=>i≤L.length∧∀q,q<i→plP L v lv q=false) (fun i=>L.length-i) (fun i=>[(1,.int .i64 v),(2,.int .i64 lv),(12,.slc false 1 0 0 L.length),(13,.int .i64 L.length),(14,.int .i64 i)]) (fun _=>⟨4,[(1,uQ (.row ⟨false,false,89,5,L.length,lyR 2 L⟩)),(2,(3*L.length+1,fam false 3 1 (lyF false L)))]⟩) 0 ⟨Nat.zero_le _,fun q h=>by omega⟩ (ρ:=id) (Zg id) ?_;rintro i hi QL1 hL1 hRL1 hEL1;refine Zrs [1,2,12,13,14,15] ?_;refine z6 ?_;refine z7 _ rfl ?_ ?_
 ·intro h15;replace h15:=Znb h15;obtain⟨hi1,hi2⟩:=hi;refine za (z6 (zc fun Q1 hN1 hX1 hR1 hE1=> ?_));refine Zrs [1,2,8,9,12,13,14] ?_;refine sg [1,2,8,9,10,12,13,14] rfl ?_;intro K hK;iterate 3 (refine Zo Zl ?_)
  refine Zo Zl ?_;refine Zc1 (indexM_spec L hb i L.length (by omega) v) (fun q=>if q=0 then 2 else q) ?_;refine Zo Zl ?_;refine z8 (Zpr (hK _ _ ?_));clear hK K;refine Zrs [1,2,8,10,12,13,14,30] ?_;refine z7 _ rfl ?_ ?_
  ·intro h30;have h30':plP L v lv i=true:=h30;have hil:=(idI_lt (lyA L i).ids v).2;have hib:=(hb.2 i).1;refine Zrs [6,7] ?_;refine zd (hR1 _ _ (hRL1 _ _ (hR0 _ _ (hQ _ _ ?_))));have hI:plI L v lv=i:=idxB_at h30' (by omega) hi2;refine zb (H':=⟨4,[]⟩) (.inl rfl) ?_;refine Zou ?_;refine⟨Zs,(Zg id),Zs,?_⟩;rw[show plK L v lv=idI (lyA L i).ids v+2 by rw[plK,hI,if_neg (by omega),Int.toNat_natCast],hI];exact⟨rfl,by trivial⟩
  ·intro h30;have h30':plP L v lv i=false:=h30;refine za (ze (hN1 _ _ ?_));refine Zrg [1,2,12,13,14] ?_;refine ze (hL1 _ _ ?_);rw[show(i:Int)+1=((i+1:Nat):Int) from by omega];refine⟨i+1,⟨⟨by omega,fun q hq=> ?_⟩,by omega⟩,id,(Zg id)⟩
   by_cases e:q=i
   ·subst e;exact h30'
   ·exact hi2 q (by omega)
 ·intro h15;replace h15:=Znb h15;obtain⟨hi1,hi2⟩:=hi;refine zo (hEL1 _ _ _ (hX0 _ _ ?_));refine Zrs [6,7] ?_;refine zd (hQ _ _ ?_);have hI:plI L v lv= -1:=idxB_none fun q hq=>hi2 q (by omega);refine zb (H':=⟨4,[]⟩) (.inl rfl) ?_;refine Zou ?_;refine⟨Zs,(Zg id),Zs,?_⟩;rw[show plK L v lv=0 by rw[plK,hI];rfl,hI];exact⟨rfl,by trivial⟩
end Go.Proofs

namespace Go.Proofs
open Go.Sk
def lyC (L:List Ly):Prop:=∀i,i<L.length→(lyA L i).cs.length=(lyA L i).ids.length+2
theorem plI_lt (L:List Ly)(v lv:Int): -1≤plI L v lv∧plI L v lv<L.length:=by
 rcases z34 L.length (plP L v lv) with⟨h,_⟩|⟨j,h1,h2,_⟩<;>unfold plI<;>omega
theorem plI_at {L:List Ly}{v lv:Int}(h:0≤plI L v lv):∃i:Nat,i<L.length∧plI L v lv=i∧(lyA L i).lvl=lv∧∃k:Nat,k<(lyA L i).ids.length∧plK L v lv=k+2∧nth (lyA L i).ids k=v:=by
 rcases z34 L.length (plP L v lv) with⟨h1,_⟩|⟨j,h1,h2,h3,_⟩
 ·unfold plI at h;omega
 ·rw[plP,Bool.and_eq_true,beq_iff_eq,decide_eq_true_eq] at h3;obtain⟨k,k1,k2,k3⟩:=idI_mem h3.2;have hI:plI L v lv=j:=h1;exact⟨j,h2,hI,h3.1,k,k1,by rw[plK,hI,if_neg (by omega),Int.toNat_natCast,k2],k3⟩
theorem plK_in {L:List Ly}(hc:lyC L){v lv:Int}(h:0≤plI L v lv):(plI L v lv).toNat<L.length∧2≤plK L v lv∧plK L v lv<(lyA L (plI L v lv).toNat).cs.length:=by
 obtain⟨i,h1,h2,h3,k,k1,k2,k3⟩:=plI_at h;rw[h2,k2,Int.toNat_natCast,hc i h1];omega
open JnNm (gxE axE oxE exE)
open D0 (sdE)
theorem member_spec (L:List Ly)(hb:lyB L)(hc:lyC L)(k n m:Nat)(hk:L.length=k)(ht v lv:Int):
  zf Tryz.prog 61 [.agg [.slc false 0 0 0 n,.int .i64 ht,.slc false 1 0 0 k,.slc false 3 0 0 m],.int .i64 v,.int .i64 lv] ⟨4,[(1,uQ (.row ⟨false,false,89,5,k,lyR 2 L⟩)),(2,(3*k+1,fam false 3 1 (lyF false L)))]⟩
   (fun s H1=>s= .bool (memF L v lv)∧H1=⟨4,[]⟩):=by
 subst hk;have hlen:=hb.1;have hin:=plK_in (L:=L) hc (v:=v) (lv:=lv);have hI:=plI_lt L v lv;refine zf.ofC false 32 [.tmp 6] Tryz.func61 rfl rfl Tryz.ntmps61 Tryz.results61 rfl ?_;intro w0 own0 β0 Q hQ hQn;simp only[z16];refine Zrs [1,2,3] ?_;refine sg [3,7,8] rfl ?_;intro K hK;iterate 3 (refine Zo Zl ?_)
 refine Zo Zl ?_;refine Zc1 (place_spec L hb L.length n m rfl ht v lv) (id) ?_;iterate 5 (refine Zo Zl ?_)
 refine z8 (Zpr (hK _ _ ?_));clear hK K;refine z6 ?_;obtain⟨i,hi⟩:∃i,plI L v lv=i:=⟨_,rfl⟩;obtain⟨c,hcc⟩:∃c,plK L v lv=c:=⟨_,rfl⟩;rw[hi,hcc] at hin;rw[hi] at hI;rw[hi,hcc];refine Zrg [6] ?_;refine zd (hQ _ _ ?_);refine zb (H':=⟨4,[]⟩) (.inl rfl) ?_;refine Zou ?_;refine⟨Zs,(Zg id),Zs,?_⟩;rw[memF,goneF,hi,hcc]
 first|trivial|exact⟨rfl,trivial⟩
end Go.Proofs

namespace Go.Proofs
open Go.Sk
open JnNm (gxE axE oxE exE)
open D0 (sdE)
theorem inClone_spec (xs:List Int)(n:Nat)(hn:xs.length=n)(hx:n≤1000000):
  zf Tryz.prog 99 [.slc false 0 0 0 n] ⟨1,[(0,uQ (.row ⟨false,false,3,1,n,ints xs⟩))]⟩
   (fun s H1=>s= .slc true 1 0 0 n∧H1=⟨2,[(1,uQ (.row ⟨true,false,3,1,n,ints xs⟩))]⟩):=by
 refine zf.ofC false 8 [.tmp 2] Tryz.func99 rfl rfl Tryz.ntmps99 Tryz.results99 rfl ?_;intro w0 own0 β0 Q hQ hQn;simp only[z16];refine Zrs [0] ?_;refine z6 ?_;refine sg [0,4] rfl ?_;intro K hK;iterate 2 (refine Zo Zl ?_)
 intro b hb;repeat(with_reducible apply And.intro;exact sdE)
 refine z8 (Zpr (hK _ _ ?_));clear hK K;refine z7 _ rfl ?_ ?_
 ·intro h4
  have hn0:n=0:=by
   rcases Nat.eq_zero_or_pos n with h|h
   ·exact h
   ·rw[hb h] at h4;cases h4
  subst hn0;refine Zrs [2] ?_;refine z2f 2 3 1 (ints xs) rfl ?_;refine zd (hQ _ _ ?_);refine zb (H':=⟨2,[(1,uQ (.row ⟨true,false,3,1,0,ints xs⟩))]⟩) (.inl rfl) ?_;refine Zou ?_;refine⟨Zs,(Zg id),Zs,?_⟩;trivial
 ·intro h4
  try replace h4:=Znb h4
  refine za ?_;refine Zrs [2] ?_;refine zd (hQ _ _ ?_);refine zp (fun k=>if k=1 then 2 else k) (.slc true 1 0 0 n) (⟨2,[(1,uQ (.row ⟨true,false,3,1,n,ints xs⟩))]⟩) (.inl rfl) ?_;refine Zou ?_;refine⟨Zs,Zs,(Zg (fun k=>if k=1 then 2 else k)),Zs,?_⟩;trivial
theorem cbClone_spec (xs:List Cb)(n:Nat)(hn:xs.length=n)(hx:n≤1000000):
  zf Tryz.prog 98 [.slc false 0 0 0 n] ⟨1,[(0,uQ (.row ⟨false,false,58,3,n,cbs xs⟩))]⟩
   (fun s H1=>s= .slc true 1 0 0 n∧H1=⟨2,[(1,uQ (.row ⟨true,false,58,3,n,cbs xs⟩))]⟩):=by
 refine zf.ofC false 8 [.tmp 2] Tryz.func98 rfl rfl Tryz.ntmps98 Tryz.results98 rfl ?_;intro w0 own0 β0 Q hQ hQn;simp only[z16];refine Zrs [0] ?_;refine z6 ?_;refine sg [0,4] rfl ?_;intro K hK;iterate 2 (refine Zo Zl ?_)
 intro b hb;repeat(with_reducible apply And.intro;exact sdE)
 refine z8 (Zpr (hK _ _ ?_));clear hK K;refine z7 _ rfl ?_ ?_
 ·intro h4
  have hn0:n=0:=by
   rcases Nat.eq_zero_or_pos n with h|h
   ·exact h
   ·rw[hb h] at h4;cases h4
  subst hn0;refine Zrs [2] ?_;refine z2f 2 58 3 (cbs xs) rfl ?_;refine zd (hQ _ _ ?_);refine zb (H':=⟨2,[(1,uQ (.row ⟨true,false,58,3,0,cbs xs⟩))]⟩) (.inl rfl) ?_;refine Zou ?_;refine⟨Zs,(Zg id),Zs,?_⟩;trivial
 ·intro h4
  try replace h4:=Znb h4
  refine za ?_;refine Zrs [2] ?_;refine zd (hQ _ _ ?_);refine zp (fun k=>if k=1 then 2 else k) (.slc true 1 0 0 n) (⟨2,[(1,uQ (.row ⟨true,false,58,3,n,cbs xs⟩))]⟩) (.inl rfl) ?_;refine Zou ?_;refine⟨Zs,Zs,(Zg (fun k=>if k=1 then 2 else k)),Zs,?_⟩;trivial
theorem cloneL_spec (cs:List Cl)(ps:List Pr)(n m:Nat)(hn:cs.length=n)(hm:ps.length=m)(hx:n≤1000000)(hy:m≤1000000):
  zf Tryz.prog 100 [.agg [.slc false 0 0 0 n,.slc false 1 0 0 m]] ⟨2,[(0,inCl cs),(1,inPr ps)]⟩
   (fun s H1=>s= .agg [.slc true 2 0 0 n,.slc true 3 0 0 m]∧H1=⟨4,[(3,z3w ps),(2,z3j cs)]⟩):=by
 subst hn hm;refine zf.ofC false 10 [.cell 2 85] Tryz.func100 rfl rfl Tryz.ntmps100 Tryz.results100 rfl ?_;intro w0 own0 β0 Q hQ hQn;simp only[z16];refine Zrs [1,2] ?_;refine z6 ?_;refine Zrd [2] [0,1,3,4,2,5,6,7] [[],[],[],[],[],[],[],[3]] [[],[],[],[],[],[],[],[3]] ?_;intro K hK;iterate 4 (refine Zo (Zi [] []) ?_)
 refine Zo (Zi [] []) ?_;refine Zc1 (clClone_spec cs cs.length rfl hx) (id) ?_;refine Zo (Zi [] []) ?_;refine Zc1 (prClone_spec ps ps.length rfl hy) (fun _=>1) ?_;refine Zo (Zi [] []) ?_;refine Zo (Zi [3] [3]) ?_;refine zz (Zpr (hK _ _ ?_));clear hK K;refine zd (hQ _ _ ?_);refine zp (fun k=>if k=2 then 4 else if k=3 then 5 else k) (.agg [.slc true 2 0 0 cs.length,.slc true 3 0 0 ps.length]) (⟨4,[(3,z3w ps),(2,z3j cs)]⟩) (.inl rfl) ?_;refine Zou ?_;refine⟨Zs,Zs,(Zg (fun k=>if k=2 then 4 else if k=3 then 5 else k)),Zs,?_⟩;trivial
theorem cloneLM_spec (L:List Ly)(hb:lyB L)(i k:Nat)(hi:i<k):
  zf Tryz.prog 100 [.agg [.slc false 0 (3*i+2) 0 (lyA L i).cs.length,.slc false 0 (3*i+3) 0 (lyA L i).ps.length]] ⟨2,[(0,(3*k+1,fam false 3 1 (lyF false L)))]⟩
   (fun s H1=>s= .agg [.slc true 2 0 0 (lyA L i).cs.length,.slc true 3 0 0 (lyA L i).ps.length]∧H1=⟨4,[(3,z3w (lyA L i).ps),(2,z3j (lyA L i).cs)]⟩):=by
 refine(lyLs L i k hi (cloneL_spec (lyA L i).cs (lyA L i).ps _ _ rfl rfl (hb.2 i).2.1 (hb.2 i).2.2) trivial fun π=>rfl).imp ?_;rintro s H' ⟨s0,H0',⟨rfl,rfl⟩,rfl,rfl⟩;refine⟨by simp[SV.renP,SV.renPL,memP],?_⟩;simp only[renPOs,List.map_cons,List.map_nil,z3w,z3j,uQ,Obj.renP,prs_renP,z3y]
theorem inCloneM_spec (L:List Ly)(hb:lyB L)(i k:Nat)(hi:i<k):
  zf Tryz.prog 99 [.slc false 0 (3*i+1) 0 (lyA L i).ids.length] ⟨1,[(0,(3*k+1,fam false 3 1 (lyF false L)))]⟩
   (fun s H1=>s= .slc true 1 0 0 (lyA L i).ids.length∧H1=⟨2,[(1,uQ (.row ⟨true,false,3,1,(lyA L i).ids.length,ints (lyA L i).ids⟩))]⟩):=by
 refine(lyId L i k hi (inClone_spec (lyA L i).ids _ rfl (hb.2 i).1) trivial fun π=>rfl).imp ?_;rintro s H' ⟨s0,H0',⟨rfl,rfl⟩,rfl,rfl⟩;refine⟨by simp[SV.renP,memP],?_⟩;simp only[renPOs,List.map_cons,List.map_nil,uQ,Obj.renP,z2j]
end Go.Proofs

namespace Go.Sk
open Go.RowKit Go.Proofs
theorem Zv {a:Prop}(h:a:=by simp[frGivesP,Sk.get,SV.renP,SV.renPL,mvM,SV.lt,SV.ltL,ownU,uQ,keepB,Sk.find,Obj.own.eq_1,Obj.own.eq_2,Obj.own.eq_3,Obj.own.eq_4,gxE]):a:=h
theorem Zgm {X:Cx}{fr:Fr}{H:AH}{fr1:Fr}{H1:AH}(ρ:Nat→Nat)(f:Nat)(ms:Nat→Option Nat)(hs:MsOk X ρ ms H1.os)(a2:z17 (mvM ρ f ms) H1.nxt H.os H1.os)(q:GpQ X (mvM ρ f ms) fr H fr1 H1:=by constructor<;>exact Zv)(r:GmR X ρ f H1:=by exact⟨rfl,rfl,Nat.le_of_ble_eq_true rfl,Nat.le_of_ble_eq_true rfl,rfl⟩):z54 X (mvM ρ f ms) fr H fr1 H1:=gmS ρ f ms hs a2 q r
end Go.Sk

namespace Go.Proofs
open Go.Sk
theorem take_ly {L:List Ly}{i j:Nat}(h:j<i):lyA (L.take i) j=lyA L j:=by
 rw[lyA,lyA,List.getD_eq_getElem?_getD,List.getD_eq_getElem?_getD,List.getElem?_take,if_pos h]
open JnNm (gxE axE oxE exE)
open D0 (sdE)
theorem clone_specF (fo:Fo)(hb:lyB fo.ly)(n k m:Nat)(hn:fo.ns.length=n)(hk:fo.ly.length=k)(hm:fo.cb.length=m)(hn6:n≤1000000)(hm6:m≤1000000):
  zf Tryz.prog 62 [.agg [.slc false 0 0 0 n,.int .i64 fo.ht,.slc false 1 0 0 k,.slc false 3 0 0 m]] ⟨4,[(0,uQ (.row ⟨false,false,62,3,n,nds fo.ns⟩)),(1,uQ (.row ⟨false,false,89,5,k,lyR 2 fo.ly⟩)),(2,(3*k+1,fam false 3 1 (lyF false fo.ly))),(3,uQ (.row ⟨false,false,58,3,m,cbs fo.cb⟩))]⟩
   (fun s H1=>s= .agg [.slc true 4 0 0 n,.int .i64 fo.ht,.slc true 5 0 0 k,.slc true 7 0 0 m]∧H1=⟨8,[(4,uQ (.row ⟨true,false,62,3,n,nds fo.ns⟩)),(5,uQ (.row ⟨true,false,89,5,k,lyR 6 fo.ly⟩)),(6,(3*k+1,fam true 3 1 (lyF true fo.ly))),(7,uQ (.row ⟨true,false,58,3,m,cbs fo.cb⟩))]⟩):=by
 obtain⟨ns,ht,L,C⟩:=fo;dsimp only at hb hn hk hm ⊢;subst hn hk hm;have hlen:=hb.1;refine zf.ofC false 38 [.cell 2 34] Tryz.func62 rfl rfl Tryz.ntmps62 Tryz.results62 rfl ?_;intro w0 own0 β0 Q hQ hQn;simp only[z16];refine Zrs [1,2] ?_;refine z6 ?_;refine Zrt [1,2,3] (.op 0 (.op 1 (.op 3 (.op 4 (.op 5 (.op 6 (.two 2 9 (.two 7 9 (.op 8 (.op 9 (.op 10 .done))) (.op 7 (.op 8 (.op 10 .done)))) (.op 2 (.op 7 (.op 8 (.op 10 .done))))))))))) [[],[],[],[],[],[],[],[],[],[],[]] [[],[],[],[],[],[],[],[],[],[],[]] ?_;intro K hK hG
 have hk1:K [(1,.ptr 4 0 0 0),(2,.ptr 5 0 0 0),(3,.ptr 8 0 0 0)] ⟨9,[(8,uQ (.row ⟨true,true,34,4,1,fun _=>[.slc true 6 0 0 ns.length,.int .i64 ht,.nils,.slc true 7 0 0 C.length]⟩)),(7,uQ (.row ⟨true,false,58,3,C.length,cbs C⟩)),(6,uQ (.row ⟨true,false,62,3,ns.length,nds ns⟩)),(5,uQ (.row ⟨true,true,34,4,1,fun _=>[.nils,.int .i64 0,.nils,.nils]⟩)),(4,uQ (.row ⟨true,true,34,4,1,fun _=>[.slc false 0 0 0 ns.length,.int .i64 ht,.slc false 1 0 0 L.length,.slc false 3 0 0 C.length]⟩)),(1,uQ (.row ⟨false,false,89,5,L.length,lyR 2 L⟩)),(2,(3*L.length+1,fam false 3 1 (lyF false L)))]⟩:=by
  refine hK _ _ ?_;clear hG hK K;refine z6 ?_;refine Zrs [2,3,16,17,18] ?_;refine z1q 8 2 89 5 (lyR 10 (L.take 0)) rfl rfl rfl rfl rfl rfl rfl rfl (by dsimp only;omega) (by simp[SV.ltL,SV.lt]) ?_;simp only[setO,↓reduceIte,Nat.reduceEqDiff,Nat.reduceAdd,List.set_cons_zero,List.set_cons_succ,reduceCtorEq,uQ];refine z31 3 1 (lyF true (L.take 0)) ?_;dsimp only;refine zc fun Q0 hN0 hX0 hR0 hE0=> ?_;refine zr (σ:=Nat) (fun i=>i≤L.length) (fun i=>L.length-i) (fun i=>[(2,.ptr 5 0 0 0),(3,.ptr 8 0 0 0),(16,.slc false 1 0 0 L.length),(17,.int .i64 L.length),(18,.int .i64 i)]) (fun i=>⟨11,[(8,uQ (.row ⟨true,true,34,4,1,fun _=>[.slc true 6 0 0 ns.length,.int .i64 ht,.slc true 9 0 0 (i),.slc true 7 0 0 C.length]⟩)),(9,uQ (.row ⟨true,false,89,5,i,lyR 10 (L.take (i))⟩)),(10,(3*(i)+1,fam true 3 1 (lyF true (L.take (i))))),(7,uQ (.row ⟨true,false,58,3,C.length,cbs C⟩)),(6,uQ (.row ⟨true,false,62,3,ns.length,nds ns⟩)),(5,uQ (.row ⟨true,true,34,4,1,fun _=>[.nils,.int .i64 0,.nils,.nils]⟩)),(1,uQ (.row ⟨false,false,89,5,L.length,lyR 2 L⟩)),(2,(3*L.length+1,fam false 3 1 (lyF false L)))]⟩) 0 (Nat.zero_le _) (ρ:=id) (Zg id) ?_;rintro i hi QL1 hL1 hRL1 hEL1;refine Zrs [2,3,16,17,18,19] ?_;refine z6 ?_;refine z7 _ rfl ?_ ?_
  ·intro h19;replace h19:=Znb h19;refine za (z6 (zc fun Q1 hN1 hX1 hR1 hE1=> ?_));refine Zrs [2,3,5,16,17,18] ?_;refine z6 ?_;refine Zrd [2,3,5,16,17,18] [0,1,3,4,2,6,5,7,8,9] [[],[],[],[],[],[],[],[11],[],[11]] [[],[],[],[],[],[],[],[11],[11],[11]] ?_;intro K hK;iterate 4 (refine Zo (Zi [] []) ?_)
   refine Zo (Zi [] []) ?_;refine Zc1 (inCloneM_spec L hb i L.length (by omega)) (fun q=>if q=0 then 2 else q) ?_;refine Zo (Zi [] []) ?_;refine Zo (Zi [] []) ?_;refine Zc1 (cloneLM_spec L hb i L.length (by omega)) (fun q=>if q=0 then 2 else 0) ?_;refine Zo (Zi [11] [11]) ?_;refine Zo (Zi [] [11]) ?_;refine Zo (Zi [11] [11]) ?_;refine zz (Zpr (hK _ _ ?_));clear hK K;refine Zrg [2,3,16,17,18] ?_;refine ze (hN1 _ _ ?_);have hT:∀q,q<i→lyA (L.take (i+1)) q=lyA (L.take i) q:=fun q hq=>by rw[take_ly (by omega),take_ly hq]
   have hx:lyA (L.take (i+1)) i=lyA L i:=take_ly (by omega)
   have hout:∀q,q<i+1→app (lyR 10 (L.take i)) i (z4d 5 1 [SV.int .i64 (lyA L i).lvl,SV.int .u32 (lyA L i).wd,SV.slc true 12 0 0 (lyA L i).ids.length,SV.slc true 13 0 0 (lyA L i).cs.length,SV.slc true 14 0 0 (lyA L i).ps.length]) q=SV.renPL (mvM (fun q=>if q=9 then 16 else q) 10 (ms3 i 12 13 14)) (lyR 10 (L.take (i+1)) q):=fun q hq=>by
    rw[lyR_renM3]
    split
    ·rename_i e;subst e;rw[app,if_neg (by omega),Nat.sub_self,hx];rfl
    ·rename_i e;rw[app,if_pos (by omega),lyR,lyR,hT q (by omega)];rfl
   refine z4f (fr':=[(2,.ptr 5 0 0 0),(3,.ptr 8 0 0 0),(16,.slc false 1 0 0 L.length),(17,.int .i64 L.length),(18,.int .i64 i)]) (H':=⟨11,[(8,uQ (.row ⟨true,true,34,4,1,fun _=>[.slc true 6 0 0 ns.length,.int .i64 ht,.slc true 9 0 0 (i+1),.slc true 7 0 0 C.length]⟩)),(9,uQ (.row ⟨true,false,89,5,i+1,lyR 10 (L.take (i+1))⟩)),(10,(3*(i+1)+1,fam true 3 1 (lyF true (L.take (i+1))))),(7,uQ (.row ⟨true,false,58,3,C.length,cbs C⟩)),(6,uQ (.row ⟨true,false,62,3,ns.length,nds ns⟩)),(5,uQ (.row ⟨true,true,34,4,1,fun _=>[.nils,.int .i64 0,.nils,.nils]⟩)),(1,uQ (.row ⟨false,false,89,5,L.length,lyR 2 L⟩)),(2,(3*L.length+1,fam false 3 1 (lyF false L)))]⟩) _ (Zgm (fun q=>if q=9 then 16 else q) (10) (ms3 i 12 13 14) (ms3_ok i (by decide) ⟨rfl,rfl,rfl⟩ ⟨Nat.le_of_ble_eq_true rfl,Nat.le_of_ble_eq_true rfl,Nat.le_of_ble_eq_true rfl⟩) ((zx (by decide) rfl Nat.zero_lt_one (zm.of (fun _=>⟨rfl,rfl⟩) rfl (Nat.le_refl _) (fun _ _=>rfl)) (Obj.lt_row.2 fun q _=>by simp[SV.ltL,SV.lt]) (Nat.le_of_ble_eq_true rfl) (zx (by decide) rfl Nat.zero_lt_one (zm.of (fun _=>⟨rfl,rfl⟩) rfl (Nat.le_refl _) (hout)) (Obj.lt_row.2 fun q _=>(lyR_lt _ _ _ q).2 (Nat.le_of_ble_eq_true rfl)) (Nat.le_of_ble_eq_true rfl) (lyF_cons3 (n:=i) (x:=lyA L i) rfl rfl rfl rfl hx (fun q hq hne=>⟨by omega,hT q (by omega)⟩) (Nat.le_of_ble_eq_true rfl) (zx (by decide) rfl Nat.zero_lt_one (zm.of (fun _=>⟨rfl,rfl⟩) rfl (Nat.le_refl _) (fun q _=>(cbs_renP _ _ q).symm)) (Obj.lt_row.2 fun q _=>cbs_lt _ _ q) (Nat.le_of_ble_eq_true rfl) (zx (by decide) rfl Nat.zero_lt_one (zm.of (fun _=>⟨rfl,rfl⟩) rfl (Nat.le_refl _) (fun q _=>(z2y _ _ q).symm)) (Obj.lt_row.2 fun q _=>nds_lt _ _ q) (Nat.le_of_ble_eq_true rfl) (zx (by decide) rfl Nat.zero_lt_one (zm.of (fun _=>⟨rfl,rfl⟩) rfl (Nat.le_refl _) (fun _ _=>rfl)) (Obj.lt_row.2 fun q _=>by simp[SV.ltL,SV.lt]) (Nat.le_of_ble_eq_true rfl) (zx (by decide) rfl Nat.zero_lt_one (zm.of (fun h=>(by cases h)) rfl (Nat.le_refl _) (fun q _=>(show lyR 2 L q=SV.renPL _ (lyR 2 L q) by rw[lyR_renMO _ _ _ _ _ _ (by decide)];rfl))) (Obj.lt_row.2 fun q _=>(lyR_lt _ _ _ q).2 (Nat.le_of_ble_eq_true rfl)) (Nat.le_of_ble_eq_true rfl) (z17.consO (by decide) rfl ⟨fun h=>(by cases h),rfl⟩ (by omega) (Nat.le_refl _) (fun q _=>⟨lyF_givesP _ _ _ _ _ _ (fun h=>(by cases h)) rfl,z4p _ _ _ _⟩) (Nat.le_of_ble_eq_true rfl) trivial)))))))))) ?_
   refine Zrg [2,3,16,17,18] ?_;refine ze (hL1 _ _ ?_);rw[show(i:Int)+1=((i+1:Nat):Int) from by omega];exact⟨i+1,⟨by omega,by omega⟩,id,(Zg id)⟩
  ·intro h19;replace h19:=Znb h19;refine zo (hEL1 _ _ _ (hX0 _ _ ?_));refine Zrs [2] ?_;refine zd (hQ _ _ ?_)
   have hi2:i=L.length:=by
    have:¬(i:Int)<L.length:=by simpa using h19
    omega
   subst hi2;rw[List.take_length];refine zp (fun q=>if q=4 then 6 else if q=5 then 9 else if q=6 then 10 else q) (.agg [.slc true 4 0 0 ns.length,.int .i64 ht,.slc true 5 0 0 L.length,.slc true 7 0 0 C.length]) (⟨8,[(4,uQ (.row ⟨true,false,62,3,ns.length,nds ns⟩)),(5,uQ (.row ⟨true,false,89,5,L.length,lyR 6 L⟩)),(6,(3*L.length+1,fam true 3 1 (lyF true L))),(7,uQ (.row ⟨true,false,58,3,C.length,cbs C⟩))]⟩) (.inl rfl) ?_;refine Zou ?_;refine⟨Zs,Zs,(Zg (fun q=>if q=4 then 6 else if q=5 then 9 else if q=6 then 10 else q)),Zs,?_⟩
   all_goals first|trivial|exact⟨rfl,trivial⟩
 refine Zo (ZT [] [] []) ?_;refine Zo (ZT [] [] []) ?_;refine Zo (ZT [] [] []) ?_;refine Zo (ZT [] [] []) ?_;refine Zo (ZT [] [] []) ?_;refine Zo (ZT [] [] []) ?_;refine z1x ?_ ?_
 ·skip
  refine Zo (ZT [] [] []) ?_;refine Zc1 (z57 ns ns.length rfl hn6) (id) ?_;refine z1x ?_ ?_
  ·skip
   refine Zo (ZT [] [] []) ?_;refine Zc1 (cbClone_spec C C.length rfl hm6) (fun _=>3) ?_;refine Zo (ZT [] [] []) ?_;refine Zo (ZT [] [] [8]) ?_;refine Zo (ZT [8] [] [8]) ?_;refine z15 ?_;refine Zpr ?_;exact hG _ _ _ _ id (Zg id) hk1
  ·skip
   refine Zo (ZT [] [] [7]) ?_;refine Zo (ZT [7] [] [7]) ?_;refine Zc1 (cbClone_spec C C.length rfl hm6) (fun _=>3) ?_;refine Zo (ZT [7] [] [7]) ?_;refine Zo (ZT [7] [] [7]) ?_;refine z15 ?_;refine Zpr ?_;exact hG _ _ _ _ (fun q=>if q=7 then 8 else if q=8 then 7 else q) (Zg (fun q=>if q=7 then 8 else if q=8 then 7 else q)) hk1
 ·skip
  refine Zo (ZT [] [] [6]) ?_;refine Zo (ZT [6] [] [6]) ?_;refine Zc1 (z57 ns ns.length rfl hn6) (id) ?_;refine Zo (ZT [6] [] [6]) ?_;refine Zc1 (cbClone_spec C C.length rfl hm6) (fun _=>3) ?_;refine Zo (ZT [6] [] [6]) ?_;refine Zo (ZT [6] [] [6]) ?_;refine z15 ?_;refine Zpr ?_;exact hG _ _ _ _ (fun q=>if q=6 then 7 else if q=7 then 8 else if q=8 then 6 else q) (Zg (fun q=>if q=6 then 7 else if q=7 then 8 else if q=8 then 6 else q)) hk1
end Go.Proofs

namespace Go.Proofs
open Go.Sk
theorem ext_nth {xs ys:List Int}(h:xs.length=ys.length)(he:∀q,q<xs.length→nth xs q=nth ys q):xs=ys:=by
 refine List.ext_getElem h fun q h1 h2=> ?_;have:=he q h1;rw[z2w h1,z2w h2] at this;exact this
open JnNm (gxE axE oxE exE)
open D0 (sdE)
theorem equalI_spec (xs ys:List Int)(n m:Nat)(hn:xs.length=n)(hm:ys.length=m)(hx:n≤1000000)(hy:m≤1000000):
  zf Tryz.prog 134 [.slc false 0 0 0 n,.slc false 1 0 0 m] ⟨2,[(0,uQ (.row ⟨false,false,3,1,n,ints xs⟩)),(1,uQ (.row ⟨false,false,3,1,m,ints ys⟩))]⟩
   (fun s H1=>s= .bool (decide (xs=ys))∧H1=⟨2,[]⟩):=by
 subst hn hm;refine zf.ofC false 26 [.tmp 4] Tryz.func134 rfl rfl Tryz.ntmps134 Tryz.results134 rfl ?_;intro w0 own0 β0 Q hQ hQn;simp only[z16];refine Zrs [0,1] ?_;refine z6 ?_;refine Zrs [0,1,10] ?_;refine z7 _ rfl ?_ ?_
 ·intro h10;replace h10:=Znb h10;refine Zrs [4] ?_;refine zd (hQ _ _ ?_);refine zb (H':=⟨2,[]⟩) (.inl rfl) ?_;refine Zou ?_;refine⟨Zs,(Zg id),Zs,?_⟩;rw[decide_eq_false (show¬xs=ys from fun e=>by subst e;omega)];exact⟨rfl,by trivial⟩
 ·intro h10;replace h10:=Znb h10;refine za (z6 ?_);refine Zrs [0,1,12,13] ?_;refine zc fun Q0 hN0 hX0 hR0 hE0=> ?_;refine zr (σ:=Nat) (fun i=>i≤xs.length∧∀q,q<i→nth xs q=nth ys q) (fun i=>xs.length-i) (fun i=>[(0,.slc false 0 0 0 xs.length),(1,.slc false 1 0 0 ys.length),(12,.int .i64 xs.length),(13,.int .i64 i)]) (fun _=>⟨2,[(0,uQ (.row ⟨false,false,3,1,xs.length,ints xs⟩)),(1,uQ (.row ⟨false,false,3,1,ys.length,ints ys⟩))]⟩) 0 ⟨Nat.zero_le _,fun q h=>by omega⟩ (ρ:=id) (Zg id) ?_;rintro i hi QL1 hL1 hRL1 hEL1;refine Zrs [0,1,12,13,14] ?_;refine z6 ?_;refine z7 _ rfl ?_ ?_
  ·intro h14;replace h14:=Znb h14;obtain⟨hi1,hi2⟩:=hi;refine za (z6 (zc fun Q1 hN1 hX1 hR1 hE1=> ?_));refine Zrs [0,1,5,12,13] ?_;refine z6 ?_;refine Zrd [0,1,12,13,24] [0,1,2,3,4,5,6,7,8] [[],[],[],[],[],[],[],[],[]] [[],[],[],[],[],[],[],[],[]] ?_;intro K hK;iterate 9 (refine Zo (Zi [] []) ?_)
   refine zz (Zpr (hK _ _ ?_));clear hK K;refine z7 _ rfl ?_ ?_
   ·intro h24;replace h24:=Znb h24;refine Zrs [4] ?_;refine zd (hR1 _ _ (hRL1 _ _ (hR0 _ _ (hQ _ _ ?_))));refine zb (H':=⟨2,[]⟩) (.inl rfl) ?_;refine Zou ?_;refine⟨Zs,(Zg id),Zs,?_⟩;rw[decide_eq_false (show¬xs=ys from fun e=>h24 (by rw[e]))];exact⟨rfl,by trivial⟩
   ·intro h24;replace h24:=Znb h24;refine za (ze (hN1 _ _ ?_));refine Zrg [0,1,12,13] ?_;refine ze (hL1 _ _ ?_);rw[show(i:Int)+1=((i+1:Nat):Int) from by omega];refine⟨i+1,⟨⟨by omega,fun q hq=> ?_⟩,by omega⟩,id,(Zg id)⟩
    by_cases e:q=i
    ·subst e;exact h24
    ·exact hi2 q (by omega)
  ·intro h14;replace h14:=Znb h14;obtain⟨hi1,hi2⟩:=hi;refine zo (hEL1 _ _ _ (hX0 _ _ ?_));refine Zrs [4] ?_;refine zd (hQ _ _ ?_);refine zb (H':=⟨2,[]⟩) (.inl rfl) ?_;refine Zou ?_;refine⟨Zs,(Zg id),Zs,?_⟩;rw[decide_eq_true (ext_nth (by omega) fun q hq=>hi2 q (by omega))];exact⟨rfl,by trivial⟩
theorem lenB (c b:Nat):((c:Int) !=(b:Int)+2)= !decide (c=b+2):=by
 rw[Bool.eq_iff_iff];simp;omega
def shQ (ns:List Nd)(x:Ly)(ids:List Int)(i:Nat):Bool:=(!sEq (cl x.cs (i+2)).key (findN ns (nth ids i)).key)||(decide (i=0) && x.wd !=(findN ns (nth ids i)).word)
theorem shQ_eq (ns:List Nd)(x:Ly)(ids:List Int)(i:Nat):(!sEq (cl x.cs ((i:Int)+2).toNat).key (findN ns (nth ids i)).key||(i:Int)==0 && x.wd !=(findN ns (nth ids i)).word)=shQ ns x ids i:=by
 rw[shQ,show((i:Int)+2).toNat=i+2 by omega,show((i:Int)==0)=decide (i=0) by rw[Bool.eq_iff_iff];simp]
theorem shpB_eq (ns:List Nd)(x:Ly)(lv:Int)(ids:List Int):shpB ns x lv ids=(x.lvl==lv && decide (x.ids=ids) && decide (x.cs.length=ids.length+2) && !anyB ids.length (shQ ns x ids)):=rfl
theorem shaped_specF (ns:List Nd)(x:Ly)(ids:List Int)(n k m a c p b:Nat)(ht lv:Int)(hn:ns.length=n)(ha:x.ids.length=a)(hc:x.cs.length=c)(hp:x.ps.length=p)(hb:ids.length=b)(hx:n≤1000000)(hy:a≤1000000)(hz:b≤1000000)(hw:c≤1000000):
  zf Tryz.prog 95 [.agg [.slc false 0 0 0 n,.int .i64 ht,.slc false 4 0 0 k,.slc false 5 0 0 m],.agg [.int .i64 x.lvl,.int .u32 x.wd,.slc false 1 0 0 a,.slc false 2 0 0 c,.slc false 6 0 0 p],.int .i64 lv,.slc false 3 0 0 b]
   ⟨7,[(0,uQ (.row ⟨false,false,62,3,n,nds ns⟩)),(1,uQ (.row ⟨false,false,3,1,a,ints x.ids⟩)),(2,uQ (.row ⟨false,false,117,5,c,z2m x.cs⟩)),(3,uQ (.row ⟨false,false,3,1,b,ints ids⟩))]⟩
   (fun s H1=>s= .bool (shpB ns x lv ids)∧H1=⟨7,[]⟩):=by
 subst hn ha hc hp hb;refine zf.ofC false 71 [.tmp 8] Tryz.func95 rfl rfl Tryz.ntmps95 Tryz.results95 rfl ?_;intro w0 own0 β0 Q hQ hQn;simp only[z16];refine Zrs [2,3,4,5] ?_;refine z6 ?_;refine sg [3,4,5,33] rfl ?_;intro K hK
 have hk1:∀B:Bool,B= !(x.lvl==lv && decide (x.ids=ids) && decide (x.cs.length=ids.length+2))→K [(3,.slc false 3 0 0 ids.length),(4,.ptr 7 0 0 0),(5,.ptr 8 0 0 0),(33,.bool B)] ⟨9,[(8,uQ (.row ⟨true,true,89,5,1,fun _=>[.int .i64 x.lvl,.int .u32 x.wd,.slc false 1 0 0 x.ids.length,.slc false 2 0 0 x.cs.length,.slc false 6 0 0 x.ps.length]⟩)),(7,uQ (.row ⟨true,true,34,4,1,fun _=>[.slc false 0 0 0 ns.length,.int .i64 ht,.slc false 4 0 0 k,.slc false 5 0 0 m]⟩)),(0,uQ (.row ⟨false,false,62,3,ns.length,nds ns⟩)),(1,uQ (.row ⟨false,false,3,1,x.ids.length,ints x.ids⟩)),(2,uQ (.row ⟨false,false,117,5,x.cs.length,z2m x.cs⟩)),(3,uQ (.row ⟨false,false,3,1,ids.length,ints ids⟩))]⟩:=by
  intro B hB;subst hB;refine hK _ _ ?_;clear hK K;refine z7 _ rfl ?_ ?_
  ·intro h33;have h33':(x.lvl==lv && decide (x.ids=ids) && decide (x.cs.length=ids.length+2))=false:=by rw[←Bool.not_eq_true'];exact h33
   refine Zrs [8] ?_;refine zd (hQ _ _ ?_);refine zb (H':=⟨7,[]⟩) (.inl rfl) ?_;refine Zou ?_;refine⟨Zs,(Zg id),Zs,?_⟩;rw[shpB_eq,h33',Bool.false_and];exact⟨rfl,by trivial⟩
  ·intro h33;have h33':(x.lvl==lv && decide (x.ids=ids) && decide (x.cs.length=ids.length+2))=true:=by rw[←Bool.not_eq_false'];exact h33
   have hcl:x.cs.length=ids.length+2:=by
    rw[Bool.and_eq_true] at h33';exact of_decide_eq_true h33'.2
   refine za (z6 ?_);refine Zrs [4,5,34,35,36] ?_;refine zc fun Q0 hN0 hX0 hR0 hE0=> ?_;refine zr (σ:=Nat) (fun i=>i≤ids.length∧∀q,q<i→shQ ns x ids q=false) (fun i=>ids.length-i) (fun i=>[(4,.ptr 7 0 0 0),(5,.ptr 8 0 0 0),(34,.slc false 3 0 0 ids.length),(35,.int .i64 ids.length),(36,.int .i64 i)]) (fun _=>⟨9,[(8,uQ (.row ⟨true,true,89,5,1,fun _=>[.int .i64 x.lvl,.int .u32 x.wd,.slc false 1 0 0 x.ids.length,.slc false 2 0 0 x.cs.length,.slc false 6 0 0 x.ps.length]⟩)),(7,uQ (.row ⟨true,true,34,4,1,fun _=>[.slc false 0 0 0 ns.length,.int .i64 ht,.slc false 4 0 0 k,.slc false 5 0 0 m]⟩)),(0,uQ (.row ⟨false,false,62,3,ns.length,nds ns⟩)),(2,uQ (.row ⟨false,false,117,5,x.cs.length,z2m x.cs⟩)),(3,uQ (.row ⟨false,false,3,1,ids.length,ints ids⟩))]⟩) 0 ⟨Nat.zero_le _,fun q h=>by omega⟩ (ρ:=id) (Zg id) ?_;rintro i hi QL1 hL1 hRL1 hEL1;refine Zrs [4,5,34,35,36,37] ?_;refine z6 ?_;refine z7 _ rfl ?_ ?_
   ·intro h37;replace h37:=Znb h37;obtain⟨hi1,hi2⟩:=hi;refine za (z6 (zc fun Q1 hN1 hX1 hR1 hE1=> ?_));refine Zrs [4,5,9,10,34,35,36] ?_;refine sg [4,5,9,11,34,35,36] rfl ?_;intro K hK;iterate 3 (refine Zo Zl ?_)
    refine Zo Zl ?_;refine Zc1 (find_spec ns (nth ids i) ns.length rfl hx) (id) ?_;iterate 6 (refine Zo Zl ?_)
    refine z8 (Zpr (hK _ _ ?_));clear hK K;refine z6 ?_;refine Zrd [4,5,34,35,36,69] [0,1,2,3,4,5,6,7,8,9,10,11,12,13,14,15,16,17,18,19,20,21] [[],[],[],[],[],[],[],[],[],[],[],[],[],[],[],[],[],[],[],[],[],[]] [[],[],[],[],[],[],[],[],[],[],[],[],[],[],[],[],[],[],[],[],[],[]] ?_;intro K hK;iterate 22 (refine Zo (Zi [] []) ?_)
    refine zz (Zpr (hK _ _ ?_));clear hK K;refine z7 _ rfl ?_ ?_
    ·intro h69;have h69':shQ ns x ids i=true:=by rw[←shQ_eq];exact h69
     refine Zrs [8] ?_;refine zd (hR1 _ _ (hRL1 _ _ (hR0 _ _ (hQ _ _ ?_))));refine zb (H':=⟨7,[]⟩) (.inl rfl) ?_;refine Zou ?_;refine⟨Zs,(Zg id),Zs,?_⟩;rw[shpB_eq,z3h (i:=i) (by omega) h69',Bool.not_true,Bool.and_false];exact⟨rfl,by trivial⟩
    ·intro h69;have h69':shQ ns x ids i=false:=by rw[←shQ_eq];exact h69
     refine za (ze (hN1 _ _ ?_));refine Zrg [4,5,34,35,36] ?_;refine ze (hL1 _ _ ?_);rw[show(i:Int)+1=((i+1:Nat):Int) from by omega];refine⟨i+1,⟨⟨by omega,fun q hq=> ?_⟩,by omega⟩,id,(Zg id)⟩
     by_cases e:q=i
     ·subst e;exact h69'
     ·exact hi2 q (by omega)
   ·intro h37;replace h37:=Znb h37;obtain⟨hi1,hi2⟩:=hi;refine zo (hEL1 _ _ _ (hX0 _ _ ?_));refine Zrs [8] ?_;refine zd (hQ _ _ ?_);refine zb (H':=⟨7,[]⟩) (.inl rfl) ?_;refine Zou ?_;refine⟨Zs,(Zg id),Zs,?_⟩;rw[shpB_eq,h33',z1p fun q hq=>hi2 q (by omega)];exact⟨rfl,by trivial⟩
 iterate 8 (refine Zo Zl ?_)
 refine z1k ?_;refine z1z rfl rfl ?_;refine Zgr ?_
 first|refine z1n ?_ ?_|refine(fun(h1:false=true→_) (h2:false=false→_)=>And.intro h1 fun _=>h2 rfl) ?_ ?_|refine And.intro ?_ ?_
 ·intro hg8
  first
   |(simp at hg8;done)
   |skip
    try replace hg8:=Znb hg8
    refine Zo id ?_;refine Zc1 (equalI_spec x.ids ids x.ids.length ids.length rfl rfl hy hz) (fun q=>if q=0 then 1 else if q=1 then 3 else q) ?_;iterate 12 (refine Zo Zl ?_)
    refine z8 ?_;refine Zpr ?_;refine hk1 _ ?_;simp_all[lenB]
 ·intro hg8;refine⟨.bool false,?_⟩
  first
   |(simp at hg8;done)
   |skip
    try replace hg8:=Znb hg8
    iterate 12 (refine Zo Zl ?_)
    refine z8 ?_;refine Zpr ?_;refine hk1 _ ?_;simp_all[lenB]
end Go.Proofs

namespace Go.Proofs
open Go.Sk
def shPi (i q:Nat):Pn:=fun id k=>if id=1 then(1,3*i+1) else if id=2 then(1,3*i+2) else if id=3 then(2,q+1) else if id=6 then(1,3*i+3) else(id,k)
theorem shapedM_spec (ns:List Nd)(L:List Ly)(hb:lyB L)(ls:List (List Int))(i q n k m w kk:Nat)(ht lv:Int)(hn:ns.length=n)(hx:n≤1000000)(hi:i<k)(hq:q<w)(hz:(ind ls q).length≤1000000):
  zf Tryz.prog 95 [.agg [.slc false 0 0 0 n,.int .i64 ht,.slc false 4 0 0 kk,.slc false 5 0 0 m],.agg [.int .i64 (lyA L i).lvl,.int .u32 (lyA L i).wd,.slc false 1 (3*i+1) 0 (lyA L i).ids.length,.slc false 1 (3*i+2) 0 (lyA L i).cs.length,.slc false 1 (3*i+3) 0 (lyA L i).ps.length],.int .i64 lv,.slc false 2 (q+1) 0 (ind ls q).length]
   ⟨7,[(0,uQ (.row ⟨false,false,62,3,n,nds ns⟩)),(1,(3*k+1,fam false 3 1 (lyF false L))),(2,(w+1,fam false 3 1 (ilF false ls)))]⟩
   (fun s H1=>s= .bool (shpB ns (lyA L i) lv (ind ls q))∧H1=⟨7,[]⟩):=by
 have h:=shaped_specF ns (lyA L i) (ind ls q) n kk m _ _ _ _ ht lv hn rfl rfl rfl rfl hx (hb.2 i).1 hz (hb.2 i).2.1
 have g:=h.mem (shPi i q) (os1:=[(0,uQ (.row ⟨false,false,62,3,n,nds ns⟩)),(1,(3*k+1,fam false 3 1 (lyF false L))),(2,(w+1,fam false 3 1 (ilF false ls)))])
  (by
   refine⟨⟨by show 0<7;decide,fun k=>rfl,fun k' hk=>⟨Obj.lt_row.2 fun q _=>nds_lt _ _ q,?_⟩⟩,⟨by show 1<7;decide,fun k=>rfl,fun k' hk=>⟨Obj.lt_row.2 fun q _=>z20 _ _ q,?_⟩⟩,⟨by show 2<7;decide,fun k=>rfl,fun k' hk=>⟨Obj.lt_row.2 fun q _=>cls_lt _ _ q,?_⟩⟩,⟨by show 3<7;decide,fun k=>rfl,fun k' hk=>⟨Obj.lt_row.2 fun q _=>z20 _ _ q,?_⟩⟩,trivial⟩
   ·have:k'=0:=by have:k'<1:=hk;omega
    subst this;exact⟨Nat.zero_lt_one,fun h=>(by cases h),rfl,Nat.le_refl _,fun q _=>(z2y _ _ q).symm⟩
   ·show 3*i+1<3*k+1∧zn _ (fam false 3 1 (lyF false L) (3*i+1)) _
    refine⟨by omega,?_⟩;rw[z2k,lyF_0];exact⟨fun h=>(by cases h),rfl,Nat.le_refl _,fun q _=>(z2j _ _ q).symm⟩
   ·show 3*i+2<3*k+1∧zn _ (fam false 3 1 (lyF false L) ((3*i+1)+1)) _
    refine⟨by omega,?_⟩;rw[z2k,lyF_1];exact⟨fun h=>(by cases h),rfl,Nat.le_refl _,fun q _=>(z3y _ _ q).symm⟩
   ·show q+1<w+1∧zn _ (fam false 3 1 (ilF false ls) (q+1)) _
    refine⟨by omega,?_⟩;rw[z2k,ilF_ap]
    exact⟨fun h=>(by cases h),rfl,Nat.le_refl _,fun q _=>(z2j _ _ q).symm⟩)
  ⟨by simp[SV.lt,SV.ltL],by simp[SV.lt,SV.ltL],by simp[SV.lt],by simp[SV.lt],trivial⟩ (by
   intro id k hid;have hid:id<7:=hid
   show(shPi i q id k).1<7
   simp only[shPi];repeat' split
   all_goals first|exact hid|(show 1<7;decide)|(show 2<7;decide)) (by
   intro x hx k;simp only[List.mem_cons,List.not_mem_nil,or_false] at hx;rcases hx with e|e|e<;>subst e
   ·rfl
   ·exact lyF_fown false _ _ L k
   ·exact ilF_fown false _ _ ls k)
 have e:SV.renPL (shPi i q) [.agg [.slc false 0 0 0 n,.int .i64 ht,.slc false 4 0 0 kk,.slc false 5 0 0 m],.agg [.int .i64 (lyA L i).lvl,.int .u32 (lyA L i).wd,.slc false 1 0 0 (lyA L i).ids.length,.slc false 2 0 0 (lyA L i).cs.length,.slc false 6 0 0 (lyA L i).ps.length],.int .i64 lv,.slc false 3 0 0 (ind ls q).length]=[.agg [.slc false 0 0 0 n,.int .i64 ht,.slc false 4 0 0 kk,.slc false 5 0 0 m],.agg [.int .i64 (lyA L i).lvl,.int .u32 (lyA L i).wd,.slc false 1 (3*i+1) 0 (lyA L i).ids.length,.slc false 1 (3*i+2) 0 (lyA L i).cs.length,.slc false 1 (3*i+3) 0 (lyA L i).ps.length],.int .i64 lv,.slc false 2 (q+1) 0 (ind ls q).length]:=rfl;rw[e] at g;refine g.imp ?_;rintro s H' ⟨s0,H0',⟨rfl,rfl⟩,rfl,rfl⟩;exact⟨rfl,rfl⟩
theorem eqCb (a b c a' b' c':Int):EqT Tryz.prog 58 [.int .i64 a,.int .i64 b,.int .i64 c] [.int .i64 a',.int .i64 b',.int .i64 c']:=
 EqT.of [(false,3,0),(false,3,1),(false,3,2)] (by kernel_rfl) (by kernel_rfl) (by kernel_rfl) (by kernel_rfl)
  ⟨⟨rfl,rfl,by kernel_rfl,rfl,_,z33⟩,⟨rfl,rfl,by kernel_rfl,rfl,_,z33⟩,⟨rfl,rfl,by kernel_rfl,rfl,_,z33⟩,trivial⟩
theorem eqL_cb (c:Cb):eqL [.int .i64 c.kind,.int .i64 c.node,.int .i64 c.lvl] [.int .i64 0,.int .i64 0,.int .i64 0]=decide (c=noCb):=by
 rw[Bool.eq_iff_iff]
 cases c
 simp[eqL,eqS,noCb]
theorem neB (a b:Nat):((a:Int) !=(b:Int))=decide (a≠b):=by
 rw[Bool.eq_iff_iff];simp;omega
def z4a (ns:List Nd)(n:Nat):List (Int×List Int):=(List.range n).flatMap fun(l:Nat)=>(lstN ns (l:Int)).map fun ids=>((l:Int),ids)
theorem lvlP_succ (ns:List Nd)(n:Nat):z4a ns (n+1)=z4a ns n++(lstN ns (n:Int)).map fun ids=>((n:Int),ids):=by
 simp[z4a,List.range_succ,List.flatMap_append]
theorem lvlP_pre (ns:List Nd){n m:Nat}(h:n≤m):∃t,z4a ns m=z4a ns n++t:=by
  induction m with
  | zero => have : n = 0 := by omega
            subst this;exact⟨[],by simp⟩
  |succ m ih=>
    by_cases e:n=m+1
    · subst e;exact⟨[],by simp⟩
    · obtain⟨t,ht⟩:=ih (by omega);exact⟨t++(lstN ns (m:Int)).map fun ids=>((m:Int),ids),by rw[lvlP_succ,ht,List.append_assoc]⟩
theorem lvA_in {ns:List Nd}{h n q:Nat}(hn:n≤h)(hq:q<(lstN ns (n:Int)).length):lvA (lvlL ns h) ((z4a ns n).length+q)=((n:Int),ind (lstN ns (n:Int)) q):=by
 obtain⟨t,ht⟩:=lvlP_pre ns (n:=n+1) (m:=h+1) (by omega);rw[show lvlL ns h=z4a ns (h+1) from rfl,ht,lvlP_succ,lvA,List.getD_eq_getElem?_getD,List.append_assoc,List.getElem?_append_right (by omega),List.getElem?_append_left (by rw[List.length_map];omega)];rw[show(z4a ns n).length+q-(z4a ns n).length=q by omega,List.getElem?_map,List.getElem?_eq_getElem hq];simp[ind_lt hq]
theorem lvlP_len {ns:List Nd}{n:Nat}:(z4a ns (n+1)).length=(z4a ns n).length+(lstN ns (n:Int)).length:=by rw[lvlP_succ];simp
theorem lvlP_le {ns:List Nd}{n m:Nat}(h:n≤m):(z4a ns n).length≤(z4a ns m).length:=by
 obtain⟨t,ht⟩:=lvlP_pre ns h;rw[ht];simp
theorem lstN_len (ns:List Nd)(lv:Int):(lstN ns lv).length≤ns.length:=by
 unfold lstN
 split
 ·rw[lstG_len];exact Nat.le_trans (clsN_len _ _) (by rw[(z2e ns).length_eq];exact Nat.le_refl _)
 ·simp
theorem ind_len (ns:List Nd)(lv:Int)(q:Nat):(ind (lstN ns lv) q).length≤ns.length:=by
 unfold lstN
 split
 ·by_cases h:q<(z4k (z52 ns) lv).length
  ·rw[ind_lstG _ _ h,List.length_map];exact Nat.le_trans (cnd_len _ _ _) (by rw[(z2e ns).length_eq];exact Nat.le_refl _)
  ·rw[show ind (lstG (z52 ns) lv) q=[] by rw[ind,List.getD_eq_getElem?_getD,List.getElem?_eq_none (by rw[lstG_len];omega)];rfl];simp
 ·simp[ind]
theorem lvlP_bd (ns:List Nd):∀n,(z4a ns n).length≤n*ns.length
 |0=>by simp[z4a]
 |n+1=>by have:=lvlP_bd ns n;have:=lstN_len ns (n:Int);rw[lvlP_len,Nat.add_mul,Nat.one_mul];omega
def JnSm.exE:=aj @z1c (aj @zg (aj @zi (aj @zq (aj @zk (aj @z14 (aj @z19 (aj ec2 (aj @zj (aj @zy (aj @zu (aj @zl (aj ec13 (aj @zw (aj z40 (aj z4t (aj @z10 (aj ec3 (aj ec5 (aj @z18.eq_1 (aj @z11.eq_1 (aj @ints.eq_1 (aj ec34 (aj ec35 (aj ec36 (aj ec30 ec31)))))))))))))))))))))))))
def JnSm.gxE:=aj @z1c (aj z40 (aj ec16 (aj z4t (aj ec3 (aj ec7 (aj ec8 (aj @z18.eq_1 (aj @z11.eq_1 (aj @z2d (aj @z20 (aj ec37 (aj ec26 (aj ec29 ec32)))))))))))))
def JnSm.axE:=aj @z1c (aj @zg (aj @zi (aj @zq (aj @zk (aj @z14 (aj @z19 (aj ec2 (aj @zj (aj @zy (aj @zu (aj @zl (aj ec13 (aj @zw (aj z40 (aj z4t (aj @z10 (aj ec3 (aj ec5 (aj @z18.eq_1 (aj @z11.eq_1 (aj ec34 (aj ec35 (aj ec30 (aj @z1s (aj @z2g (aj @z2s (aj @z3d (aj ec38 (aj @z47 (aj ec33 @ilR_fold))))))))))))))))))))))))))))))
open JnSm (gxE axE exE)
open JnNm (oxE)
open D0 (sdE)
theorem valid_specF (fo:Fo)(hb:lyB fo.ly)(n k m:Nat)(hn:fo.ns.length=n)(hk:fo.ly.length=k)(hm:fo.cb.length=m)(hn6:n≤19)(hm6:m≤1000000)(hht: -1000000≤fo.ht∧fo.ht≤1000000):
  zf Tryz.prog 58 [.agg [.slc false 0 0 0 n,.int .i64 fo.ht,.slc false 1 0 0 k,.slc false 3 0 0 m]] ⟨4,[(0,uQ (.row ⟨false,false,62,3,n,nds fo.ns⟩)),(1,uQ (.row ⟨false,false,89,5,k,lyR 2 fo.ly⟩)),(2,(3*k+1,fam false 3 1 (lyF false fo.ly))),(3,uQ (.row ⟨false,false,58,3,m,cbs fo.cb⟩))]⟩
   (fun s H1=>s= .bool (z5b fo)∧H1=⟨4,[]⟩):=by
 obtain⟨ns,ht,L,C⟩:=fo;dsimp only at hb hn hk hm hht ⊢;subst hn hk hm;have hlen:=hb.1;refine zf.ofC false 149 [.tmp 2] Tryz.func58 rfl rfl Tryz.ntmps58 Tryz.results58 rfl ?_;intro w0 own0 β0 Q hQ hQn;simp only[z16];refine Zrs [1] ?_;refine z6 ?_;refine sg [1,39] rfl ?_;intro K hK;iterate 2 (refine Zo Zl ?_)
 refine Zo Zl ?_;refine Zc1 (check_spec ns ns.length rfl (by omega)) (id) ?_;iterate 23 (refine Zo Zl ?_)
 refine z8 (Zpr (hK _ _ ?_));clear hK K;refine z7 _ rfl ?_ ?_
 ·intro h39;have hv:z5b ⟨ns,ht,L,C⟩=false:=by rw[z5b,show headF ⟨ns,ht,L,C⟩=true from h39];rfl
  refine Zrs [2] ?_;refine zd (hQ _ _ ?_);refine zb (H':=⟨4,[]⟩) (.inl rfl) ?_;refine Zou ?_;refine⟨Zs,(Zg id),Zs,?_⟩;rw[hv];exact⟨rfl,by trivial⟩
 ·intro h39;have hh:headF ⟨ns,ht,L,C⟩=false:=h39;obtain⟨hc0,hht2,hC1,hC8⟩:=headF_false.1 hh;dsimp only at hc0 hht2 hC1 hC8;have hbd:=lvlP_bd ns;refine za ?_;refine Zrs [1,3] ?_;refine z6 ?_;refine Zrs [1,3,42,43] ?_;have hhn:((ht.toNat:Nat):Int)=ht:=by omega
  refine zc fun Q0 hN0 hX0 hR0 hE0=> ?_;refine zr (σ:=Nat) (fun i=>i≤ht.toNat+1∧∀j,j<(z4a ns i).length→j<L.length∧shpB ns (lyA L j) (lvA (lvlL ns ht.toNat) j).1 (lvA (lvlL ns ht.toNat) j).2=true) (fun i=>ht.toNat+1-i) (fun i=>[(1,.ptr 4 0 0 0),(3,.int .i64 (z4a ns i).length),(42,.int .i64 (ht+1)),(43,.int .i64 i)]) (fun _=>⟨5,[(4,uQ (.row ⟨true,true,34,4,1,fun _=>[.slc false 0 0 0 ns.length,.int .i64 ht,.slc false 1 0 0 L.length,.slc false 3 0 0 C.length]⟩)),(0,uQ (.row ⟨false,false,62,3,ns.length,nds ns⟩)),(1,uQ (.row ⟨false,false,89,5,L.length,lyR 2 L⟩)),(2,(3*L.length+1,fam false 3 1 (lyF false L))),(3,uQ (.row ⟨false,false,58,3,C.length,cbs C⟩))]⟩) 0 ⟨Nat.zero_le _,fun q h=>absurd h (Nat.not_lt_zero _)⟩ (ρ:=id) (have xE:=@z4a.eq_1;Zgx id) ?_;rintro i hi QL1 hL1 hRL1 hEL1;refine Zrs [1,3,42,43,44] ?_;refine z6 ?_;refine z7 _ rfl ?_ ?_
  ·intro h44;replace h44:=Znb h44;obtain⟨hi1,hi2⟩:=hi;have hbi:=lvlP_bd ns i;refine za (z6 (zc fun Q1 hN1 hX1 hR1 hE1=> ?_));refine Zrs [1,3,4,42,43] ?_;refine sg [1,3,4,42,43,49,50,51] rfl ?_;intro K hK;iterate 3 (refine Zo Zl ?_)
   refine Zo Zl ?_;refine Zc1 (lists_spec ns ns.length rfl i hn6) (id) ?_;have hll:=lstN_len ns (i:Int);have hil:=ind_len ns (i:Int);obtain⟨ls,hls⟩:∃ls,lstN ns (i:Int)=ls:=⟨_,rfl⟩;rw[hls] at hll hil ⊢;iterate 2 (refine Zo Zl ?_)
   refine z8 (Zpr (hK _ _ ?_));clear hK K;refine zc fun Q2 hN2 hX2 hR2 hE2=> ?_;refine zr (σ:=Nat) (fun q=>q≤ls.length∧∀j,j<(z4a ns i).length+q→j<L.length∧shpB ns (lyA L j) (lvA (lvlL ns ht.toNat) j).1 (lvA (lvlL ns ht.toNat) j).2=true) (fun q=>ls.length-q) (fun q=>[(1,.ptr 4 0 0 0),(3,.int .i64 (((z4a ns i).length+q:Nat):Int)),(4,.int .i64 i),(42,.int .i64 (ht+1)),(43,.int .i64 i),(49,.slc true 5 0 0 ls.length),(50,.int .i64 ls.length),(51,.int .i64 q)]) (fun _=>⟨7,[(5,uQ (.row ⟨true,false,22,1,ls.length,ilR true 6 ls⟩)),(6,(ls.length+1,fam true 3 1 (ilF true ls))),(4,uQ (.row ⟨true,true,34,4,1,fun _=>[.slc false 0 0 0 ns.length,.int .i64 ht,.slc false 1 0 0 L.length,.slc false 3 0 0 C.length]⟩)),(0,uQ (.row ⟨false,false,62,3,ns.length,nds ns⟩)),(1,uQ (.row ⟨false,false,89,5,L.length,lyR 2 L⟩)),(2,(3*L.length+1,fam false 3 1 (lyF false L))),(3,uQ (.row ⟨false,false,58,3,C.length,cbs C⟩))]⟩) 0 ⟨Nat.zero_le _,fun j h=>hi2 j h⟩ (ρ:=id) (Zg id) ?_;rintro q hq QL2 hL2 hRL2 hEL2;refine Zrs [1,3,4,42,43,49,50,51,52] ?_;refine z6 ?_;refine z7 _ rfl ?_ ?_
   ·intro h52;replace h52:=Znb h52;obtain⟨hq1,hq2⟩:=hq;have hlq:=hil q;refine za (z6 (zc fun Q3 hN3 hX3 hR3 hE3=> ?_));refine Zrs [1,3,4,6,42,43,49,50,51] ?_;refine z6 (z6 ?_);refine Zrd [1,3,4,42,43,49,50,51,71] [0,1,2,3,4,5,6,7,8,9,10,11,12,13,14,15,16] [[],[],[],[],[],[],[],[],[],[],[],[],[],[],[],[],[]] [[],[],[],[],[],[],[],[],[],[],[],[],[],[],[],[],[]] ?_;intro K hK
    have hk10:∀B:Bool,B=(decide (L.length≤(z4a ns i).length+q)|| !shpB ns (lyA L ((z4a ns i).length+q)) i (ind ls q))→K [(1,.ptr 4 0 0 0),(3,.int .i64 (((z4a ns i).length+q:Nat):Int)),(4,.int .i64 i),(42,.int .i64 (ht+1)),(43,.int .i64 i),(49,.slc true 5 0 0 ls.length),(50,.int .i64 ls.length),(51,.int .i64 q),(71,.bool B)] ⟨7,[(5,uQ (.row ⟨true,false,22,1,ls.length,ilR true 6 ls⟩)),(6,(ls.length+1,fam true 3 1 (ilF true ls))),(4,uQ (.row ⟨true,true,34,4,1,fun _=>[.slc false 0 0 0 ns.length,.int .i64 ht,.slc false 1 0 0 L.length,.slc false 3 0 0 C.length]⟩)),(0,uQ (.row ⟨false,false,62,3,ns.length,nds ns⟩)),(1,uQ (.row ⟨false,false,89,5,L.length,lyR 2 L⟩)),(2,(3*L.length+1,fam false 3 1 (lyF false L))),(3,uQ (.row ⟨false,false,58,3,C.length,cbs C⟩))]⟩:=by
     intro B hB;subst hB;refine hK _ _ ?_;clear hK K;refine z7 _ rfl ?_ ?_
     ·intro h71;have hA:lvA (lvlL ns ht.toNat) ((z4a ns i).length+q)=((i:Int),ind ls q):=by rw[←hls];exact lvA_in (by omega) (by rw[hls];omega)
      have hv:z5b ⟨ns,ht,L,C⟩=false:=by
       rw[Bool.or_eq_true,decide_eq_true_eq,Bool.not_eq_true'] at h71
       cases hz:z5b ⟨ns,ht,L,C⟩ with
       |false=>rfl
       |true=>
        exfalso
        simp only[z5b,Bool.and_eq_true,Bool.not_eq_true',decide_eq_true_eq] at hz;have z1:=hz.1.1.1.2;have z2:=hz.1.1.2
        have z3:(z4a ns i).length+q<(lvlL ns ht.toNat).length:=by
         have:=lvlP_le (ns:=ns) (n:=i+1) (m:=ht.toNat+1) (by omega);rw[lvlP_len,hls] at this
         show _<(z4a ns (ht.toNat+1)).length
         omega
        rcases h71 with g|g
        ·omega
        ·have:=anyB_elim z2 (i:=(z4a ns i).length+q) (by omega);rw[hA,g] at this;cases this
      refine Zrs [2] ?_;refine zd (hR3 _ _ (hRL2 _ _ (hR2 _ _ (hR1 _ _ (hRL1 _ _ (hR0 _ _ (hQ _ _ ?_)))))));refine zb (H':=⟨4,[]⟩) (.inl rfl) ?_;refine Zou ?_;refine⟨Zs,(Zg id),Zs,?_⟩;rw[hv];exact⟨rfl,by trivial⟩
     ·intro h71;have hA:lvA (lvlL ns ht.toNat) ((z4a ns i).length+q)=((i:Int),ind ls q):=by rw[←hls];exact lvA_in (by omega) (by rw[hls];omega)
      have h71':(z4a ns i).length+q<L.length∧shpB ns (lyA L ((z4a ns i).length+q)) i (ind ls q)=true:=by
       rw[Bool.or_eq_false_iff,decide_eq_false_iff_not,Bool.not_eq_false'] at h71;exact⟨by omega,h71.2⟩
      refine za ?_;refine z43 [1,3,4,42,43,49,50,51] rfl ?_;intro K hK;iterate 2 (refine Zo Zl ?_)
      rw[show(((z4a ns i).length+q:Nat):Int)+1=(((z4a ns i).length+(q+1):Nat):Int) by omega];repeat(with_reducible apply And.intro;exact sdE)
      refine Zo Zl ?_;refine z8 (Zpr (hK _ _ ?_));clear hK K;refine ze (hN3 _ _ ?_);refine Zrg [1,3,4,42,43,49,50,51] ?_;refine ze (hL2 _ _ ?_);rw[show(q:Int)+1=((q+1:Nat):Int) from by omega];refine⟨q+1,⟨⟨by omega,fun j hj=> ?_⟩,by omega⟩,id,(Zg id)⟩
      by_cases e:j=(z4a ns i).length+q
      ·subst e;rw[hA];exact h71'
      ·exact hq2 j (by omega)
    iterate 14 (refine Zo (Zi [] []) ?_)
    refine runI_cons _ [] [] rfl rfl rfl ?_;refine z1z rfl rfl ?_;refine Zgr ?_
    first|refine z1n ?_ ?_|refine(fun(h1:false=true→_) (h2:false=false→_)=>And.intro h1 fun _=>h2 rfl) ?_ ?_|refine And.intro ?_ ?_
    ·intro hg14
     first
      |(simp at hg14;done)
      |skip
       try replace hg14:=Znb hg14
       refine Zo id ?_;refine Zc1 (shapedM_spec ns L hb ls ((z4a ns i).length+q) q ns.length L.length C.length ls.length L.length ht i rfl (by omega) (by omega) (by omega) (by have:=hil q;omega)) (fun q=>if q=0 then 0 else if q=1 then 2 else if q=2 then 6 else if q=4 then 1 else if q=5 then 3 else q) ?_;iterate 2 (refine Zo (Zi [] []) ?_)
       refine zz ?_;refine Zpr ?_;refine hk10 _ ?_;clear hk10 K hK;have e:decide ((L.length:Int)≤(((z4a ns i).length+q:Nat):Int))=decide (L.length≤(z4a ns i).length+q):=decide_eq_decide.2 (by omega)
       first
       |(rw[e];done)
       |(rw[decide_eq_true (show L.length≤(z4a ns i).length+q by omega),Bool.true_or])
    ·intro hg14;refine⟨.bool false,?_⟩
     first
      |(simp at hg14;done)
      |skip
       try replace hg14:=Znb hg14
       iterate 2 (refine Zo (Zi [] []) ?_)
       refine zz ?_;refine Zpr ?_;refine hk10 _ ?_;clear hk10 K hK;have e:decide ((L.length:Int)≤(((z4a ns i).length+q:Nat):Int))=decide (L.length≤(z4a ns i).length+q):=decide_eq_decide.2 (by omega)
       first
       |(rw[e];done)
       |(rw[decide_eq_true (show L.length≤(z4a ns i).length+q by omega),Bool.true_or])
   ·intro h52;replace h52:=Znb h52;obtain⟨hq1,hq2⟩:=hq;refine zo (hEL2 _ _ _ (hX2 _ _ (ze (hN1 _ _ ?_))));refine Zrg [1,3,42,43] ?_;refine ze (hL1 _ _ ?_);rw[show(i:Int)+1=((i+1:Nat):Int) from by omega];have hqe:(z4a ns i).length+q=(z4a ns (i+1)).length:=by rw[lvlP_len,hls];omega
    rw[hqe] at hq2 ⊢;exact⟨i+1,⟨⟨by omega,hq2⟩,by omega⟩,id,(Zg id)⟩
  ·intro h44;replace h44:=Znb h44;obtain⟨hi1,hi2⟩:=hi;refine zo (hEL1 _ _ _ (hX0 _ _ (z6 ?_)));refine Zrs [1,80] ?_;refine z7 _ rfl ?_ ?_
   ·intro h80;replace h80:=Znb h80;have hie:i=ht.toNat+1:=by omega
    subst hie
    have hv:z5b ⟨ns,ht,L,C⟩=false:=by
     rw[z5b,decide_eq_false (show¬L.length=(lvlL ns ht.toNat).length from fun e=>by have:(lvlL ns ht.toNat).length=(z4a ns (ht.toNat+1)).length:=rfl;omega),Bool.and_false,Bool.false_and,Bool.false_and,Bool.false_and]
    refine Zrs [2] ?_;refine zd (hQ _ _ ?_);refine zb (H':=⟨4,[]⟩) (.inl rfl) ?_;refine Zou ?_;refine⟨Zs,(Zg id),Zs,?_⟩;rw[hv];exact⟨rfl,by trivial⟩
   ·intro h80;replace h80:=Znb h80;have hie:i=ht.toNat+1:=by omega
    subst hie
    have hle:L.length=(lvlL ns ht.toNat).length:=by
     have e:(lvlL ns ht.toNat).length=(z4a ns (ht.toNat+1)).length:=rfl
     by_cases g:L.length<(z4a ns (ht.toNat+1)).length
     ·have:=(hi2 L.length g).1;omega
     ·omega
    have hs1:anyB L.length (fun i=> !shpB ns (lyA L i) (lvA (lvlL ns ht.toNat) i).1 (lvA (lvlL ns ht.toNat) i).2)=false:=z1p fun j hj=>by
     rw[(hi2 j (by rw[hle] at hj;exact hj)).2];rfl
    refine za (z6 ?_);refine Zrs [1,82,83,84] ?_;refine zc fun Q4 hN4 hX4 hR4 hE4=> ?_;refine zr (σ:=Nat) (fun i=>i≤L.length∧∀q,q<i→(!z2r (lyA L q).cs (lyA L q).ps||decide ((lyA L q).ps.length≠C.length))=false) (fun i=>L.length-i) (fun i=>[(1,.ptr 4 0 0 0),(82,.slc false 1 0 0 L.length),(83,.int .i64 L.length),(84,.int .i64 i)]) (fun _=>⟨5,[(4,uQ (.row ⟨true,true,34,4,1,fun _=>[.slc false 0 0 0 ns.length,.int .i64 ht,.slc false 1 0 0 L.length,.slc false 3 0 0 C.length]⟩)),(0,uQ (.row ⟨false,false,62,3,ns.length,nds ns⟩)),(1,uQ (.row ⟨false,false,89,5,L.length,lyR 2 L⟩)),(2,(3*L.length+1,fam false 3 1 (lyF false L))),(3,uQ (.row ⟨false,false,58,3,C.length,cbs C⟩))]⟩) 0 ⟨Nat.zero_le _,fun q h=>absurd h (Nat.not_lt_zero _)⟩ (ρ:=id) (Zg id) ?_;rintro i hi QL3 hL3 hRL3 hEL3;refine Zrs [1,82,83,84,85] ?_;refine z6 ?_;refine z7 _ rfl ?_ ?_
    ·intro h85;replace h85:=Znb h85;obtain⟨hi1',hi2'⟩:=hi;have hbi:=hb.2 i;refine za (z6 (zc fun Q5 hN5 hX5 hR5 hE5=> ?_));refine Zrs [1,8,82,83,84] ?_;refine sg [1,82,83,84,101] rfl ?_;intro K hK;iterate 2 (refine Zo Zl ?_)
     refine Zo Zl ?_;refine Zc1 (lyLsB L i L.length (by omega) (valid_specK (lyA L i).cs (lyA L i).ps _ _ rfl rfl (by omega) (by omega))) (fun q=>if q=0 then 2 else 0) ?_;iterate 11 (refine Zo Zl ?_)
     refine z8 (Zpr (hK _ _ ?_));clear hK K;refine z7 _ rfl ?_ ?_
     ·intro h101;have h101':(!z2r (lyA L i).cs (lyA L i).ps||decide ((lyA L i).ps.length≠C.length))=true:=by rw[←neB];exact h101
      have hv:z5b ⟨ns,ht,L,C⟩=false:=by
       rw[z5b,z3h (i:=i) (p:=fun i=> !z2r (lyA L i).cs (lyA L i).ps||decide ((lyA L i).ps.length≠C.length)) (by show i<L.length;omega) h101',Bool.not_true,Bool.and_false,Bool.false_and]
      refine Zrs [2] ?_;refine zd (hR5 _ _ (hRL3 _ _ (hR4 _ _ (hQ _ _ ?_))));refine zb (H':=⟨4,[]⟩) (.inl rfl) ?_;refine Zou ?_;refine⟨Zs,(Zg id),Zs,?_⟩;rw[hv];exact⟨rfl,by trivial⟩
     ·intro h101;have h101':(!z2r (lyA L i).cs (lyA L i).ps||decide ((lyA L i).ps.length≠C.length))=false:=by rw[←neB];exact h101
      refine za (ze (hN5 _ _ ?_));refine Zrg [1,82,83,84] ?_;refine ze (hL3 _ _ ?_);rw[show(i:Int)+1=((i+1:Nat):Int) from by omega];refine⟨i+1,⟨⟨by omega,fun q hq=> ?_⟩,by omega⟩,id,(Zg id)⟩
      by_cases e:q=i
      ·subst e;exact h101'
      ·exact hi2' q (by omega)
    ·intro h85;replace h85:=Znb h85;obtain⟨hi1',hi2'⟩:=hi;have hs2:anyB L.length (fun i=> !z2r (lyA L i).cs (lyA L i).ps||decide ((lyA L i).ps.length≠C.length))=false:=z1p fun q hq=>hi2' q (by omega);refine zo (hEL3 _ _ _ (hX4 _ _ (z6 ?_)));refine Zrs [1,104,105,106] ?_;refine zc fun Q6 hN6 hX6 hR6 hE6=> ?_;refine zr (σ:=Nat) (fun i=>i≤C.length∧∀q,q<i→cbOk ns ht (cbA C q)=true) (fun i=>C.length-i) (fun i=>[(1,.ptr 4 0 0 0),(104,.slc false 3 0 0 C.length),(105,.int .i64 C.length),(106,.int .i64 i)]) (fun _=>⟨5,[(4,uQ (.row ⟨true,true,34,4,1,fun _=>[.slc false 0 0 0 ns.length,.int .i64 ht,.slc false 1 0 0 L.length,.slc false 3 0 0 C.length]⟩)),(0,uQ (.row ⟨false,false,62,3,ns.length,nds ns⟩)),(1,uQ (.row ⟨false,false,89,5,L.length,lyR 2 L⟩)),(2,(3*L.length+1,fam false 3 1 (lyF false L))),(3,uQ (.row ⟨false,false,58,3,C.length,cbs C⟩))]⟩) 0 ⟨Nat.zero_le _,fun q h=>absurd h (Nat.not_lt_zero _)⟩ (ρ:=id) (Zg id) ?_;rintro i hi QL4 hL4 hRL4 hEL4;refine Zrs [1,104,105,106,107] ?_;refine z6 ?_;refine z7 _ rfl ?_ ?_
     ·intro h107;obtain⟨hi1',hi2'⟩:=hi;have h107':(i:Int)<C.length:=by simpa using h107
      refine za (z6 (zc fun Q7 hN7 hX7 hR7 hE7=> ?_));refine Zrs [1,10,104,105,106] ?_;refine sg [1,10,12,104,105,106] rfl ?_;intro K hK;iterate 4 (refine Zo Zl ?_)
      refine Zo Zl ?_;refine Zc1 (find_spec ns (cbA C i).node ns.length rfl (by omega)) (id) ?_;iterate 6 (refine Zo Zl ?_)
      refine z8 (Zpr (hK _ _ ?_));clear hK K;refine Zrs [1,10,13,104,105,106] ?_;refine sg [1,104,105,106,147] rfl ?_;intro K hK;iterate 3 (refine Zo Zl ?_)
      refine And.intro (eqCb _ _ _ _ _ _) ?_;rw[eqL_cb];repeat(with_reducible apply And.intro;exact sdE)
      iterate 4 (refine Zo Zl ?_)
      refine z8 (Zpr (hK _ _ ?_));clear hK K;refine z7 _ rfl ?_ ?_
      ·intro h147;have h147':cbOk ns ht (cbA C i)=false:=by rw[←Bool.not_eq_true',cbOk,Bool.not_or];exact h147
       have hv:z5b ⟨ns,ht,L,C⟩=false:=by
        rw[z5b,z3h (i:=i) (n:=C.length) (p:=fun p=> !cbOk ns ht (cbA C p)) (by omega) (by rw[h147'];rfl),Bool.not_true,Bool.and_false]
       refine Zrs [2] ?_;refine zd (hR7 _ _ (hRL4 _ _ (hR6 _ _ (hQ _ _ ?_))));refine zb (H':=⟨4,[]⟩) (.inl rfl) ?_;refine Zou ?_;refine⟨Zs,(Zg id),Zs,?_⟩;rw[hv];exact⟨rfl,by trivial⟩
      ·intro h147;have h147':cbOk ns ht (cbA C i)=true:=by rw[←Bool.not_eq_false',cbOk,Bool.not_or];exact h147
       refine za (ze (hN7 _ _ ?_));refine Zrg [1,104,105,106] ?_;refine ze (hL4 _ _ ?_);rw[show(i:Int)+1=((i+1:Nat):Int) from by omega];refine⟨i+1,⟨⟨by omega,fun q hq=> ?_⟩,by omega⟩,id,(Zg id)⟩
       by_cases e:q=i
       ·subst e;exact h147'
       ·exact hi2' q (by omega)
     ·intro h107;obtain⟨hi1',hi2'⟩:=hi;have h107':¬(i:Int)<C.length:=by simpa using h107
      refine zo (hEL4 _ _ _ (hX6 _ _ ?_));refine Zrs [2] ?_;refine zd (hQ _ _ ?_);refine zb (H':=⟨4,[]⟩) (.inl rfl) ?_;refine Zou ?_;refine⟨Zs,(Zg id),Zs,?_⟩;rw[z5b,hh,decide_eq_true hle,hs1,hs2,z1p fun q hq=>by rw[hi2' q (by have hq:q<C.length:=hq;omega)];rfl];exact⟨rfl,by trivial⟩
end Go.Proofs

namespace Go.Sk
open Go.RowKit
section
variable {X:Cx} {Q:Exit→Fr→AH→Prop} {fr:Fr} {H:AH} {l:List Code}
theorem Cs.famE {c:Code}(n:Nat)(e:TypeId)(sz:Nat)(G:Nat→Obj)(hG:∀i,i<n→∃r:Row,G i= .row r∧r.n=0)(h:Cs X (c::l) Q fr ⟨H.nxt+1,(H.nxt,n+1,fam true e sz G)::H.os⟩):Cs X (c::l) Q fr H:=fun β a w hF hS=>by
 have hag:=Env.agree_set β H.nxt (fun _=>none);refine h (β.set H.nxt fun _=>none) a w (hF.agree (Nat.le_succ H.nxt) hag) ?_;refine St.new' hS (fun k L _ he=>by cases he) (fun k k' L L' h h' he he' _=>by cases he) (fun k hk=> ?_) (fun k hk=> ?_)
 ·cases k with
  |zero=>exact .inl ⟨rfl,rfl⟩
  |succ i=>
   obtain⟨r,hr,hn⟩:=hG i (by omega);rw[z2k,hr];exact .inl ⟨hn,rfl⟩
 ·cases k with
  |zero=>exact fun i j s hi _=>absurd hi (Nat.not_lt_zero _)
  |succ i=>
   obtain⟨r,hr,hn⟩:=hG i (by omega);rw[z2k,hr];intro i j s hi _;rw[hn] at hi;exact absurd hi (Nat.not_lt_zero _)
end
structure MuOk (X:Cx) (ρ:Nat→Nat) (f:Nat) (μ:Nat→Nat×Nat):Prop where
 inj:∀k k',0<k→0<k'→μ k=μ k'→k=k'
 z:∀k,0<k→μ k≠(ρ f,0)
 m:∀k,X.m0≤(μ k).1
def MuL (ρ:Nat→Nat)(f:Nat)(μ:Nat→Nat×Nat):List (Nat×Nat×(Nat→Obj))→Prop
 |[]=>True
 |(id,_,_)::l=>(id=f∨∀k,(μ k).1≠ρ id)∧MuL ρ f μ l
theorem MuL.get {ρ:Nat→Nat}{f:Nat}{μ:Nat→Nat×Nat}:∀{os:List (Nat×Nat×(Nat→Obj))},MuL ρ f μ os→∀x∈os,x.1=f∨∀k,(μ k).1≠ρ x.1
 |[],_,_,hm=>by cases hm
 |(_,_,_)::l,h,x,hm=>by
  cases hm with
  |head=>exact h.1
  |tail _ hm=>exact MuL.get h.2 x hm
theorem z54.mkO {X:Cx}{fr:Fr}{H:AH}{fr':Fr}{H':AH}(ρ:Nat→Nat)(f:Nat)(μ:Nat→Nat×Nat)(h2:HGivesJ (anP ρ f μ) H'.nxt H.os H'.os)(hμ:MuOk X ρ f μ)(h3b:MuL ρ f μ H'.os)(h1:frGivesP (anP ρ f μ) H'.nxt fr fr')(h3:injB ρ H'.os=true)(h3u:ownU H'.os)
  (h4:(List.range X.m0).all (fun id=>ρ id==id)=true) (h5:X.m0≤H'.nxt) (h5f:X.m0≤f) (h6:∀x∈H.os,x.1<X.m0→∀k,(x.2.2 k).own=(x.2.2 0).own) (h7:keepB X.m0 H.os H'.os) (h8:bigB X.m0 ρ H'.os=true):z54 X (anP ρ f μ) fr H fr' H' where
 fr:=frGivesP_ok h1
 os id k o' hl:=by
  obtain⟨c,F,hf,hk,rfl⟩:=z1d hl;exact h2.get _ _ _ (z1g hf) k hk
 inj id k o id' k' o' hl hl' ho he:=by
  have hij:InjOn ρ H'.os:= .of h3 h3u
  have hne:∀{id k:Nat} {o:Obj},look H'.os id k=some o→id≠f→∀j,(μ j).1≠ρ id:=fun {id k o} h g=>by
   obtain⟨c,F,hf,hk,rfl⟩:=z1d h;rcases h3b.get _ (z1g hf) with e|e
   ·exact absurd e g
   ·exact e
  unfold anP at he
  by_cases c1:id=f∧0<k<;>by_cases c2:id'=f∧0<k'
  ·rw[if_pos c1,if_pos c2] at he;exact⟨c1.1.trans c2.1.symm,hμ.inj _ _ c1.2 c2.2 he⟩
  ·rw[if_pos c1,if_neg c2] at he
   exfalso
   by_cases g:id'=f
   ·subst g;have:k'=0:=by omega
    subst this;exact hμ.z _ c1.2 he
   ·exact hne hl' g k (congrArg Prod.fst he)
  ·rw[if_neg c1,if_pos c2] at he
   exfalso
   by_cases g:id=f
   ·subst g;have:k=0:=by omega
    subst this;exact hμ.z _ c2.2 he.symm
   ·exact hne hl g k' (congrArg Prod.fst he).symm
  ·rw[if_neg c1,if_neg c2] at he;obtain⟨g1,g2⟩:=Prod.mk.inj he;exact⟨hij _ _ _ _ _ _ hl hl' ho g1,g2⟩
 fix id k hid:=by
  have:=List.all_eq_true.1 h4 id (List.mem_range.2 hid);rw[beq_iff_eq] at this;simp only[anP,this,if_neg (show¬(id=f∧0<k) by omega)]
 m0:=h5
 keep id k hid ho:=by
  obtain⟨o,ho1,ho2⟩:=ho;obtain⟨c,F,hf,hk,rfl⟩:=z1d ho1;have:=h7 _ (z1g hf) hid (by have:=h6 _ (z1g hf) hid k;simp only at this;rw[←this];exact ho2);simp only at this
  split at this
  ·rename_i c' F' hf';exact⟨F' k,(zt hf' (by omega)).trans (Obj.opt_of fun e=>by have:=this.2 k;rw[e] at this;cases this),this.2 k⟩
  ·exact this.elim
 big id k o h0 hl ho:=by
  obtain⟨c,F,hf,hk,rfl⟩:=z1d hl;have h9:=List.all_eq_true.1 h8 _ (z1g hf);have h10:=h3u _ (z1g hf) k;simp only[Bool.or_eq_true,decide_eq_true_eq,Bool.not_eq_true'] at h9;simp only at h10;rw[ho] at h10;rw[←h10] at h9;unfold anP
  split
  ·exact hμ.m k
  ·rcases h9 with(h9|h9)|h9
   ·simp only;omega
   ·exact h9
   ·cases h9
theorem HGivesAn.consFO {ρ:Nat→Nat}{f m:Nat}{μ:Nat→Nat×Nat}{os l:List (Nat×Nat×(Nat→Obj))}{c c':Nat}{o o':Bool}{e e':TypeId}{sz sz':Nat}{G G':Nat→Obj}(hf:find os (ρ f)=some (c,fam o e sz G))(hc:0<c)(h1:(o'=true→o=true∧e'=e)∧sz'=sz)
  (h:∀i,i+1<c'→∃c1 F1,find os (μ (i+1)).1=some (c1,F1)∧(μ (i+1)).2<c1∧zn (anP ρ f μ) (F1 (μ (i+1)).2) (G' i)∧(G' i).lt m) (hm:f<m) (ht:HGivesJ (anP ρ f μ) m os l):
  HGivesJ (anP ρ f μ) m os ((f,(c',fam o' e' sz' G'))::l):=by
 refine⟨fun k hk=> ?_,hm,ht⟩
 cases k with
 |zero=>
  have e9:anP ρ f μ f 0=(ρ f,0):=by rw[anP,if_neg (by omega)]
  rw[e9];refine⟨c,_,hf,hc,?_,fun i j s hi _=>absurd hi (Nat.not_lt_zero _)⟩;simp only[fam,zn,zm];exact⟨h1.1,h1.2,Nat.le_refl _,fun i hi=>absurd hi (Nat.not_lt_zero _)⟩
 |succ i=>
  have e9:anP ρ f μ f (i+1)=μ (i+1):=by rw[anP,if_pos ⟨rfl,Nat.succ_pos i⟩]
  rw[e9];exact h i hk
theorem goS {X:Cx}{fr:Fr}{H:AH}{fr1:Fr}{H1:AH}(ρ:Nat→Nat)(f:Nat)(μ:Nat→Nat×Nat)(a2:HGivesJ (anP ρ f μ) H1.nxt H.os H1.os)(hμ:MuOk X ρ f μ)(t:MuL ρ f μ H1.os)(q:GpQ X (anP ρ f μ) fr H fr1 H1)(r:GpR X ρ f H1):z54 X (anP ρ f μ) fr H fr1 H1:=
 z54.mkO ρ f μ a2 hμ t q.a1 r.a3 q.a4 r.a5 r.a6 r.a6f q.a7 q.a8 r.a9
end Go.Sk

namespace Go.Sk
end Go.Sk
namespace Go.Proofs
open Go.Sk
def mgM (g d e P:Nat):Nat→Nat×Nat:=fun k=>if k≤3*P then(g,k) else if(k-1-3*P)%3=0 then(d,(k-1-3*P)/3+1) else(e,2*((k-1-3*P)/3)+(k-1-3*P)%3)
theorem mgM_old (g d e P:Nat){k:Nat}(h:k≤3*P):mgM g d e P k=(g,k):=if_pos h
theorem mgM_new (g d e P q:Nat):mgM g d e P (3*(P+q)+1)=(d,q+1)∧mgM g d e P (3*(P+q)+2)=(e,2*q+1)∧mgM g d e P (3*(P+q)+3)=(e,2*q+2):=by
 unfold mgM;refine⟨?_,?_,?_⟩
 ·rw[if_neg (by omega),if_pos (by omega),show(3*(P+q)+1-1-3*P)/3=q by omega]
 ·rw[if_neg (by omega),if_neg (by omega),show(3*(P+q)+2-1-3*P)/3=q by omega,show(3*(P+q)+2-1-3*P)%3=1 by omega]
 ·rw[if_neg (by omega),if_neg (by omega),show(3*(P+q)+3-1-3*P)/3=q by omega,show(3*(P+q)+3-1-3*P)%3=2 by omega]
theorem mgM_ne {d e P g z:Nat}(h:g≠z∧d≠z∧e≠z)(k:Nat):(mgM g d e P k).1≠z:=by
 unfold mgM
 (repeat' split)<;>simp_all
theorem mgM_ok {X:Cx}{ρ:Nat→Nat}{f:Nat}(g d e P:Nat)(h:g≠d∧g≠e∧d≠e)(hg:ρ f=g)(hm:X.m0≤g∧X.m0≤d∧X.m0≤e):MuOk X ρ f (mgM g d e P):=by
 refine⟨fun k k' h1 h2 he=> ?_,fun k h1 he=> ?_,fun k=> ?_⟩
 ·unfold mgM at he
  (repeat' split at he)<;>simp only[Prod.mk.injEq] at he<;>omega
 ·unfold mgM at he
  (repeat' split at he)<;>simp only[Prod.mk.injEq] at he<;>omega
 ·unfold mgM
  (repeat' split)
  ·exact hm.1
  ·exact hm.2.1
  ·exact hm.2.2
def lyI (f P:Nat)(ls:List (List Int)):Nat→List SV:=fun q=>[.slc true f (3*(P+q)+1) 0 (ind ls q).length]
theorem lyI_ap (f P:Nat)(ls:List (List Int))(q:Nat):lyI f P ls q=[.slc true f (3*(P+q)+1) 0 (ind ls q).length]:=rfl
theorem lyI_ren' (ρ:Nat→Nat)(f P:Nat)(ls:List (List Int))(q:Nat):SV.renL ρ (lyI f P ls q)=lyI (ρ f) P ls q:=by simp[lyI,SV.renL,SV.ren]
theorem lyI_ren (ρ:Nat→Nat)(f P:Nat)(ls:List (List Int)):(fun q=>SV.renL ρ (lyI f P ls q))=lyI (ρ f) P ls:=by funext q;exact lyI_ren' ρ f P ls q
theorem lyI_lt (m f P:Nat)(ls:List (List Int))(q:Nat):SV.ltL m (lyI f P ls q)↔f<m:=by simp[lyI,SV.ltL,SV.lt]
theorem lyI_renG (ρ:Nat→Nat)(f d e P:Nat)(ls:List (List Int))(q:Nat):SV.renPL (anP ρ f (mgM (ρ f) d e P)) (lyI f P ls q)=ilR true d ls q:=by
 simp only[lyI,ilR,SV.renPL,SV.renP,anP,Nat.succ_pos,and_self,if_true,(mgM_new (ρ f) d e P q).1]
theorem lyI_renM2 (ρ:Nat→Nat)(f j b c P:Nat)(ls:List (List Int))(q:Nat):SV.renPL (mvM ρ f (ms2 j b c)) (lyI f P ls q)=lyI (ρ f) P ls q:=by
 simp only[lyI,SV.renPL,SV.renP,mvM,if_true,(ms2_at j b c (P+q)).1]
theorem lyR_renG (ρ:Nat→Nat)(f d e P:Nat)(L:List Ly){i:Nat}(h:i<P):SV.renPL (anP ρ f (mgM (ρ f) d e P)) (lyR f L i)=lyR (ρ f) L i:=by
 simp only[lyR,SV.renPL,SV.renP,anP,Nat.succ_pos,and_self,if_true,mgM_old (ρ f) d e P (show 3*i+1≤3*P by omega),mgM_old (ρ f) d e P (show 3*i+2≤3*P by omega),mgM_old (ρ f) d e P (show 3*i+3≤3*P by omega)]
def lyE:Nat→Sk.Obj:=fun i=>if i%2=0 then .row ⟨true,false,117,5,0,z2m []⟩ else .row ⟨true,false,110,7,0,prs []⟩
theorem lyE_0 (i:Nat):∃r:Row,lyE i= .row r∧r.n=0:=by
 unfold lyE
 split
 ·exact⟨_,rfl,rfl⟩
 ·exact⟨_,rfl,rfl⟩
def idLy (ids:List Int):Ly:=⟨0,0,ids,[],[]⟩
def pxL (L:List Ly)(P:Nat)(l:List (List Int)):List Ly:=L.take P++l.map idLy
theorem pxL_lo {L:List Ly}{P:Nat}{l:List (List Int)}{i:Nat}(hP:P≤L.length)(h:i<P):lyA (pxL L P l) i=lyA L i:=by
 rw[pxL,lyA,lyA,List.getD_eq_getElem?_getD,List.getD_eq_getElem?_getD,List.getElem?_append_left (by rw[List.length_take];omega),List.getElem?_take,if_pos h]
theorem pxL_hi {L:List Ly}{P:Nat}{l:List (List Int)}{q:Nat}(hP:P≤L.length)(h:q<l.length):lyA (pxL L P l) (P+q)=idLy (ind l q):=by
 have ht:(L.take P).length=P:=by rw[List.length_take];omega
 rw[pxL,lyA,List.getD_eq_getElem?_getD,List.getElem?_append_right (by rw[ht];omega),ht,show P+q-P=q by omega,List.getElem?_map,List.getElem?_eq_getElem h,ind_lt h];rfl
theorem pxL_nil {L:List Ly}{P:Nat}:pxL L P []=L.take P:=by simp[pxL]
theorem lyF_consG {ρ:Nat→Nat}{f d e P w m:Nat}{os l:List (Nat×Nat×(Nat→Sk.Obj))}{L:List Ly}{ls:List (List Int)}(hP:P≤L.length)(hf:Sk.find os (ρ f)=some (3*P+1,fam true 3 1 (lyF true (L.take P))))
  (hd:Sk.find os d=some (w+1,fam true 3 1 (ilF true ls))) (he:Sk.find os e=some (2*w+1,fam true 3 1 lyE)) (hw:ls.length=w) (hm:f<m) (ht:HGivesJ (anP ρ f (mgM (ρ f) d e P)) m os l):
  HGivesJ (anP ρ f (mgM (ρ f) d e P)) m os ((f,(3*(P+w)+1,fam true 3 1 (lyF true (pxL L P ls))))::l):=by
 refine HGivesAn.consFO hf (by omega) ⟨fun _=>⟨rfl,rfl⟩,rfl⟩ (fun i hi=> ?_) hm ht
 by_cases hlt:i<3*P
 ·rw[mgM_old _ _ _ _ (show i+1≤3*P by omega)];refine⟨_,_,hf,by dsimp only;omega,?_,z4p ..⟩
  show zn _ (lyF true (L.take P) i) _
  exact lyF_givesP _ _ _ _ _ _ id (by rw[pxL_lo hP (by omega),take_ly (by omega)])
 ·obtain⟨q,r,hr,hq⟩:∃q r,r<3∧i=3*(P+q)+r:=⟨(i-3*P)/3,(i-3*P)%3,by omega,by omega⟩;have hqw:q<w:=by omega
  have hx:=pxL_hi (L:=L) (l:=ls) hP (show q<ls.length by omega);obtain⟨g1,g2,g3⟩:=mgM_new (ρ f) d e P q;have h012:r=0∨r=1∨r=2:=by omega
  rcases h012 with g|g|g<;>subst g<;>subst hq
  ·rw[show 3*(P+q)+0+1=3*(P+q)+1 from rfl,g1];refine⟨_,_,hd,by dsimp only;omega,?_,z4p ..⟩
   show zn _ (ilF true ls q) (lyF true _ (3*(P+q)))
   rw[lyF_0,hx,ilF_ap];exact⟨fun _=>⟨rfl,rfl⟩,rfl,Nat.le_refl _,fun q _=>(z2j _ _ q).symm⟩
  ·rw[show 3*(P+q)+1+1=3*(P+q)+2 from rfl,g2];refine⟨_,_,he,by dsimp only;omega,?_,z4p ..⟩
   show zn _ (lyE (2*q)) _
   rw[lyF_1,hx,lyE,if_pos (by omega)];exact⟨fun _=>⟨rfl,rfl⟩,rfl,Nat.le_refl _,fun q _=>(z3y _ _ q).symm⟩
  ·rw[show 3*(P+q)+2+1=3*(P+q)+3 from rfl,g3];refine⟨_,_,he,by dsimp only;omega,?_,z4p ..⟩
   show zn _ (lyE (2*q+1)) _
   rw[lyF_2,hx,lyE,if_neg (by omega)];exact⟨fun _=>⟨rfl,rfl⟩,rfl,Nat.le_refl _,fun q _=>(prs_renP _ _ q).symm⟩
end Go.Proofs

namespace Go.Proofs
open Go.Sk
def keyL (c:List Nd):List ByteArray:=c.map (·.key)
def innL (dn:List Int)(c:List Nd):List Bool:=c.map fun x=>dn.contains x.id
def newLy (dn:List Int)(m:Nat)(s:Int×List Nd):Ly:=⟨s.1,(hdN s.2).word,s.2.map (·.id),newK (keyL s.2) (innL dn s.2) s.2.length,List.replicate m noPr⟩
def z3e (ns:List Nd)(dn:List Int)(m:Nat)(ht:Int):Fo:=⟨ns,ht,(z3c ns ht.toNat).map (newLy dn m),List.replicate m noCb⟩
theorem z37 (c:List Nd):(keyL c).length=c.length:=List.length_map ..
theorem z4u (dn:List Int)(c:List Nd):(innL dn c).length=c.length:=List.length_map ..
theorem keyL_at {c:List Nd}{k:Nat}(h:k<c.length):kAt (keyL c) k=(nd c k).key:=by
 rw[z4q h,kAt,List.getD_eq_getElem?_getD,List.getElem?_eq_getElem (by rw[z37];exact h)];simp[keyL]
theorem innL_at {dn:List Int}{c:List Nd}{k:Nat}(h:k<c.length):bAt (innL dn c) k=dn.contains (nd c k).id:=by
 rw[z4q h,bAt,List.getD_eq_getElem?_getD,List.getElem?_eq_getElem (by rw[z4u];exact h)];simp[innL]
theorem newK_cell (keys:List ByteArray)(inn:List Bool){n k:Nat}(hn:keys.length=n)(hk:k<n):(cl (newK keys inn n) (k+2)).key=kAt keys k∧(cl (newK keys inn n) (k+2)).gone= !bAt inn k:=by
 subst hn;have hlP:(z3f keys inn keys.length).length=keys.length+2:=z36 ..;obtain⟨r,f,h1,_,_⟩:=lnk2_cell (ordN keys inn keys.length) (z3f keys inn keys.length) 0 (by omega) (fun x hx=>by have:=ordN_mem hx;omega) (k+2);rw[newK,h1,cellK_at _ _ _ (by omega),if_neg (by omega)];exact⟨rfl,rfl⟩
theorem lyA_new {ns:List Nd}{dn:List Int}{m:Nat}{h i:Nat}(hi:i<(z3c ns h).length):lyA ((z3c ns h).map (newLy dn m)) i=newLy dn m (shA (z3c ns h) i):=by
 rw[lyA_lt (by rw[List.length_map];exact hi),shA_lt hi,List.getElem_map]
theorem cbA_new (m p:Nat):cbA (List.replicate m noCb) p=noCb:=by
 rw[cbA,List.getD_eq_getElem?_getD,List.getElem?_replicate];split<;>rfl
structure MkF (ns:List Nd) (m:Nat) (ht:Int):Prop where
 ck:z1r ns=0
 six:ns.length≤6
 two:2≤m
 four:m≤4
 h0:0≤ht
 h16:ht≤16
section
variable {ns:List Nd} {dn:List Int} {m:Nat} {ht:Int}
theorem newF_sh (hc:z1r ns=0)(hs:ns.length≤19)(h0:0≤ht)(h16:ht≤16)(m1:1≤m)(m8:m≤8):Fsh (z3e ns dn m ht):=by
 refine⟨hc,hs,h0,h16,by simp[z3e];omega,by simp[z3e];omega,by simp[z3e],fun i hi=> ?_⟩;have hi':i<(z3c ns ht.toNat).length:=by simpa [z3e] using hi
 show LyOk (lyA ((z3c ns ht.toNat).map (newLy dn m)) i) (shA (z3c ns ht.toNat) i) (List.replicate m noCb).length
 rw[lyA_new hi',List.length_replicate];refine⟨rfl,rfl,by rw[newLy];exact newK_length ..,fun k hk=> ?_,rfl,by rw[newLy];exact List.length_replicate⟩
 show(cl (newK (keyL _) (innL dn _) _) (k+2)).key=_
 rw[(newK_cell _ _ (z37 _) hk).1,keyL_at hk]
theorem newF_gone (hc:z1r ns=0)(hs:ns.length≤19)(h0:0≤ht)(h16:ht≤16)(m1:1≤m)(m8:m≤8){x:Nd}(hx:x∈ns){lv:Int}(l0:0≤lv)(lh:lv≤ht):goneF (z3e ns dn m ht).ly x.id lv= !dn.contains x.id:=by
 obtain⟨i,k,a⟩:=(newF_sh (dn:=dn) hc hs h0 h16 m1 m8).place hx l0 lh;have hi:=a.hi;have hk:=a.hk;have hi':i<(z3c ns ht.toNat).length:=by simpa [z3e] using hi
 rw[goneF,a.pI,a.pK,Int.toNat_natCast];have e:lyA (z3e ns dn m ht).ly i=newLy dn m (shA (z3c ns ht.toNat) i):=lyA_new hi';rw[e] at hk ⊢;have hk':k<(shA (z3c ns ht.toNat) i).2.length:=by simpa [newLy] using hk
 show(cl (newK (keyL _) (innL dn _) _) ((k:Int)+2).toNat).gone=_
 rw[show((k:Int)+2).toNat=k+2 by omega,(newK_cell _ _ (z37 _) hk').2,innL_at hk'];have:=a.nde;rw[show(z3e ns dn m ht).ns=ns from rfl,show(z3e ns dn m ht).ht=ht from rfl] at this;rw[this]
theorem mk_new (h:MkF ns m ht){i:Nat}(hi:i<(z3c ns ht.toNat).length):Mk (keyL (shA (z3c ns ht.toNat) i).2) (innL dn (shA (z3c ns ht.toNat) i).2) m:=by
 have h2:=h.two;have h4:=h.four;have hs:=(newF_sh (dn:=dn) h.ck (Nat.le_trans h.six (by decide)) h.h0 h.h16 (m:=m) (by omega) (by omega)).sub (i:=i) (by simpa [z3e] using hi);have hs:(shA (z3c ns ht.toNat) i).2.Sublist (z52 ns):=hs;have hl:=hs.length_le;rw[←(z2e ns).length_eq] at hl;have hg:=good_sub hs (good_perm (z2e _) h.ck);have hgi:=(good_iff _).1 hg;have h6:=h.six;refine⟨by rw[z37];omega,by rw[z4u,z37],fun k hk=> ?_,?_,h.two,h.four⟩
 ·rw[z37] at hk;rw[keyL_at hk];have:=hgi.2.1 _ (nd_mem hk);simp only[badN,Bool.or_eq_false_iff] at this;simp_all
 ·rw[keyL,List.nodup_iff_pairwise_ne,List.pairwise_map];exact hgi.2.2.imp fun h=>(twinN_false h).2
theorem FI_new (h:MkF ns m ht)(dn:List Int):FI (z3e ns dn m ht) fun i=>ordN (keyL (shA (z3c ns ht.toNat) i).2) (innL dn (shA (z3c ns ht.toNat) i).2) (shA (z3c ns ht.toNat) i).2.length:=by
 have h2:=h.two;have h4:=h.four;have hk0:∀p,(cbA (z3e ns dn m ht).cb p).kind=0:=fun p=>by show(cbA (List.replicate m noCb) p).kind=0;rw[cbA_new];rfl
 have hS:=newF_sh (dn:=dn) h.ck (Nat.le_trans h.six (by decide)) h.h0 h.h16 (show 1≤m by omega) (show m≤8 by omega);refine⟨hS,fun i hi=> ?_,fun p hp=> ?_,fun p i hp hi _=> ?_,fun p i _ _ hk=>absurd (hk0 p) hk,fun p q _ _ hk=>absurd (hk0 p) hk,fun x hx _ lv l0 lh=> ?_,fun p _ hk=>absurd (hk0 p) hk⟩
 ·have hi':i<(z3c ns ht.toNat).length:=by simpa [z3e] using hi
  have e:lyA (z3e ns dn m ht).ly i=newLy dn m (shA (z3c ns ht.toNat) i):=lyA_new hi';rw[e];have:=inv_made (mk_new (dn:=dn) h hi');rw[z37] at this;exact this
 ·show cbOk _ _ (cbA (List.replicate m noCb) p)=true
  rw[cbA_new,cbOk];rfl
 ·have hi':i<(z3c ns ht.toNat).length:=by simpa [z3e] using hi
  have e:lyA (z3e ns dn m ht).ly i=newLy dn m (shA (z3c ns ht.toNat) i):=lyA_new hi';rw[e]
  show z3v (pr (List.replicate m noPr) p)=false
  rw[show pr (List.replicate m noPr) p=noPr by rw[pr,List.getD_eq_getElem?_getD,List.getElem?_replicate];split<;>rfl]
  rfl
 ·rw[newF_gone h.ck (Nat.le_trans h.six (by decide)) h.h0 h.h16 (by omega) (by omega) hx l0 lh,newF_gone h.ck (Nat.le_trans h.six (by decide)) h.h0 h.h16 (by omega) (by omega) hx (Int.le_refl _) h.h0]
end
end Go.Proofs

namespace Go.Proofs
open Go.Sk
noncomputable def lsCap (c n p m:Nat):Nat×(Nat→Sk.Obj):=uQ (.row ⟨false,true,85,2,1,fun _=>[.slc true c 0 0 n,.slc true p 0 0 m]⟩)
noncomputable def lsCapF (c n p m:Nat):Nat×(Nat→Sk.Obj):=uQ (.row ⟨false,true,85,2,1,fun _=>[.slc false c 0 0 n,.slc false p 0 0 m]⟩)
def LlNm.exE:=aj @zg (aj @zi (aj @zq (aj @zk (aj ec1 (aj ec2 (aj @zj (aj @zy (aj @z10 (aj ec3 (aj ec4 (aj @clCap.eq_1 (aj @z3u.eq_1 (aj ec5 (aj ec6 (aj @z18.eq_1 (aj @z11.eq_1 (aj @z1i (aj @z2c (aj @lsCap.eq_1 (aj @lsCapF.eq_1 @ints.eq_1))))))))))))))))))))
def LlNm.gxE:=aj ec3 (aj ec4 (aj @clCap.eq_1 (aj @z3u.eq_1 (aj ec7 (aj ec8 (aj @z18.eq_1 (aj @z11.eq_1 (aj @z2d (aj @ints_lt'K (aj @lsCap.eq_1 (aj @lsCapF.eq_1 @ints.eq_1)))))))))))
def LlNm.axE:=aj @zg (aj @zi (aj @zq (aj @zk (aj ec1 (aj ec2 (aj @zj (aj @zy (aj @z10 (aj ec3 (aj ec4 (aj @clCap.eq_1 (aj @z3u.eq_1 (aj ec5 (aj ec6 (aj @z18.eq_1 (aj @z11.eq_1 (aj @z1i (aj @z2c (aj @lsCap.eq_1 (aj @lsCapF.eq_1 (aj @z1s (aj @z2s @z3d))))))))))))))))))))))
open LlNm (gxE axE exE)
open LlBm (oxE)
open D0 (sdE)
theorem cmpN_spec (cs:List Cl)(n m:Nat)(hn:cs.length=n)(a b:Int)(ha:0≤a∧a<n)(hb:0≤b∧b<n):
  zf Tryz.prog 90 [.int .i64 a,.int .i64 b,.ptr 0 0 0 0] ⟨3,[(0,lsCap 1 n 2 m),(1,inCl cs),(2,noPrs)]⟩ (fun s H1=>s= .int .i64 (cmpI cs a b)∧H1=⟨3,[]⟩):=by
 refine zf.ofC false 10 [.tmp 5] Tryz.func90 rfl rfl Tryz.ntmps90 Tryz.results90 rfl ?_;intro w0 own0 β0 Q hQ hQn;simp only[z16];refine Zrs [0,1,2] ?_;refine z6 ?_;refine sg [9] rfl ?_;intro K hK;iterate 3 (refine Zo Zl ?_)
 refine Zo Zl ?_;refine Zc1 (less_specK cs n m hn a b ha hb) (fun q=>q+1) ?_;refine z8 (Zpr (hK _ _ ?_));clear hK K;refine z7 _ rfl ?_ ?_
 ·intro h9
  refine Zrs [5] ?_;refine zd (hQ _ _ ?_);refine zb (H':=⟨3,[]⟩) (.inl rfl) ?_;refine Zou ?_;refine⟨Zs,(Zg id),Zs,?_⟩;rw[cmpI,if_pos h9];exact⟨rfl,trivial⟩
 ·intro h9
  refine za ?_;refine Zrs [5] ?_;refine zd (hQ _ _ ?_);refine zb (H':=⟨3,[]⟩) (.inl rfl) ?_;refine Zou ?_;refine⟨Zs,(Zg id),Zs,?_⟩;rw[cmpI,if_neg (by rw[h9];exact Bool.false_ne_true)];exact⟨rfl,trivial⟩
def CmpOk (f:FuncId):Prop:=∀(cs:List Cl) (n m:Nat),cs.length=n→∀a b:Int,(0≤a∧a<n)→(0≤b∧b<n)→zf Tryz.prog f [.int .i64 a,.int .i64 b,.ptr 0 0 0 0] ⟨3,[(0,lsCap 1 n 2 m),(1,inCl cs),(2,noPrs)]⟩ (fun s H1=>s= .int .i64 (cmpI cs a b)∧H1=⟨3,[]⟩)
theorem cmpOkN:CmpOk 90:=fun cs n m hn a b ha hb=>cmpN_spec cs n m hn a b ha hb
noncomputable def cmpSv (f:FuncId):SV:= .fn f [.ptr 1 0 0 0]
end Go.Proofs

namespace Go.Sk
open Go.RowKit Go.WideShapes Go.ChangeShapes
theorem below_sameAt {w w':World}(h:Below w.heap.size w w'){p:MemPlace}(hp:p.block<w.heap.size):w.sameAt w' p:=by
 cases p with
 |cell b off=>exact World.cell?_of_block (h.block b hp)
 |map b=>exact h.block b hp
section
variable {H:Type} {enc:TypeId×Value→H} {P:Program}
theorem trodAll_carry {w w':World}{base:Nat}{sp:Nat→Bool}{held:Bool}:∀{ts:List TypeId} {vs:List Value} {ds:List (DataW H)} {ps:List MemPlace},DataW.TrodAll enc P w base sp held ts vs ds ps→(∀p∈ps,w.sameAt w' p)→
  DataW.TrodAll enc P w' base sp held ts vs ds ps
 |[],[],[],_,h,_=>h
 |_::_,_::_,_::_,_,⟨p,q,⟨n,h1⟩,h2,e⟩,hs=>
  ⟨p,q,⟨n,DataW.trod_carry n _ _ _ h1 fun x hx=>hs x (by rw[e];exact List.mem_append_left _ hx)⟩,trodAll_carry h2 (fun x hx=>hs x (by rw[e];exact List.mem_append_right _ hx)),e⟩
theorem trodAll_len {w:World}{base:Nat}{sp:Nat→Bool}{held:Bool}:∀{ts:List TypeId} {vs:List Value} {ds:List (DataW H)} {ps:List MemPlace},DataW.TrodAll enc P w base sp held ts vs ds ps→ds.length=ts.length
 |[],[],[],_,_=>rfl
 |_::_,_::_,_::_,_,⟨_,_,_,h2,_⟩=>by simp[trodAll_len h2]
theorem law_post {f:Func}{s:ChangeSpec}{apart fresh handsOn again:Bool}{W W':World}{args:Array Value}{ds gs:List (DataW H)}{before:List MemPlace}(hl:laidOutB P=true)(hm:mapsRowed P=true)
  (hz:∀t e,t<P.types.size→P.underlying t=some (.slice e)→0<P.cellsOf e) (hts:∀t∈f.params.toList,t<P.types.size) (hv:s.vars=[])
  (hW:DataW.Whole enc P f.params.toList s.vars apart W args.toList ds gs before) (hb:Below W.heap.size W W') {tb:TypeId} (hres:f.resultTypes= #[tb]) (hbool:P.underlying tb=some .bool)
  (hfn:∀ds:List (DataW H),ds.length=f.params.toList.length→s.fn H ds={results:=[.lit (.bool true)],args:=ds}):s.post enc P f apart fresh handsOn again W args (.bool true) W':=by
 have hW':=hW;obtain⟨p,q,hA,hV,rfl,hfz,hnd⟩:=hW;rw[hv] at hV
 have hq:gs=[]∧q=[]:=by
  cases gs with
  |nil=>exact⟨rfl,hV⟩
  |cons _ _=>exact hV.elim
 obtain⟨rfl,rfl⟩:=hq;have hfn':=hfn (ds++[]) (by rw[List.append_nil];exact trodAll_len hA);have hlt:∀x∈p,x.block<W.heap.size:=DataW.TrodAll.lt hA
 have hargs:∀sp:Nat→Bool,(∀x∈p++[],sp x.block=true)→DataW.TrodAll enc P W' 0 sp true f.params.toList args.toList ds p:=fun sp hsp=>
  trodAll_carry (DataW.TrodAll.respare (kids_rows hl hm) hz hts hA fun x hx=>hsp x (List.mem_append_left _ hx)) fun x hx=>below_sameAt hb (hlt x hx)
 have hrl:((Value.bool true).resultList f.resultTypes.size)=[.bool true]:=by rw[hres];rfl
 have hres':∀(b:Nat) (sp:Nat→Bool) (hd:Bool),DataW.TrodAll enc P W' b sp hd f.resultTypes.toList ((Value.bool true).resultList f.resultTypes.size) (s.fn H (ds++[])).results []:=fun b sp hd=>by
  rw[hrl,hfn',hres];exact trodAll_mk1 (shut_bool hbool true)
 have hvars:∀sp:Nat→Bool,DataW.TrodVars enc P W' sp s.vars (s.fn H (ds++[])).vars []:=fun sp=>by rw[hfn',hv];rfl
 have hargs':∀sp:Nat→Bool,(∀x∈p++[],sp x.block=true)→DataW.TrodAll enc P W' 0 sp true f.params.toList args.toList (s.fn H (ds++[])).args p:=fun sp hsp=>by
  rw[hfn'];simpa using hargs sp hsp
 have hold:∀x∈p++[],(fun b=>decide (b<W.heap.size)) x.block=true:=fun x hx=>by simpa using hlt x (by simpa using hx)
 refine⟨ds,[],p++[],[],p,[],hW',hres' _ _ _,hargs' _ hold,hvars _,World.keptBut_mono (fun x hx=>⟨hx,?_⟩) (hb.frame (· ∈p++[])),fun _=>⟨?_,_,_,([]++p)++[],⟨[]++p,[],trodAll_append (hargs' _ (fun _ _=>rfl)) (hres' _ _ _),hvars _,rfl,?_,?_⟩,?_⟩⟩
 ·exact .inr (.inl (by simpa using hx))
 ·intro j t r ht hr;rw[hrl] at hr;rw[hres] at ht
  cases j with
  |zero=>simp at ht hr;subst ht hr;exact okWide_bool_mk hbool _
  |succ j=>simp at hr
 ·intro b off hp;have hin:MemPlace.cell b off∈p++[]:=by simpa using hp
  rw[hb.frozen (hlt _ (by simpa using hin))];exact hfz b off hin
 ·intro ha;simpa using hnd ha
 ·intro x hx _;simpa using hx
end
theorem zf.top {P:Program}{f:FuncId}{args:List SV}{H0:AH}(hent:Ent P f)(hF:zf P f args H0 (fun s _=>s= .bool true))(β:Env)(w:World)(vs:List Value)
  (hh:∀id k o,look H0.os id k=some o→o.own=false∧id<H0.nxt∧o.lt H0.nxt∧o.holds β w (β id k)) (hd:z2h β args vs) (hl:SV.ltL H0.nxt args) (htab:∀g,tabG P g=true→g<w.heap.size∧TabAt w g) (htabB:∀g,tabBG P g=true→g<w.heap.size∧TabBAt w g):
  Calls P f vs.toArray w fun e w'=>e= .returned (.bool true)∧Below w.heap.size w w':=by
 let own0:Nat→Nat→Prop:=fun id k=> ∃o,look H0.os id k=some o∧o.own=true
 let X:Cx:={P:=P,n:=0,w0:=w,own0:=own0,m0:=H0.nxt,β0:=β}
 have no:∀id k o,look H0.os id k=some o→¬o.own=true:=fun id k o h=>by rw[(hh id k o h).1];simp
 have no0:∀id k,¬own0 id k:=fun id k ⟨o,h1,h2⟩=>no id k o h1 h2
 have hS:St X β H0 w:={
  os:=rfl,tape:=rfl,output:=rfl,size:=Nat.le_refl _,fix:=fun _ _ _=>rfl
  holds:=fun id k o h=>(hh id k o h).2.2.2
  sep:=fun id k id' k' o o' L L' h _ ho=>absurd ho (no id k o h)
  old:=fun _ _ _=>rfl
  mine:=fun id k o L h ho=>absurd ho (no id k o h)
  keep:=fun id k h=>absurd h (no0 id k)
  m0:=Nat.le_refl _
  lt:=fun id k o h=>⟨(hh id k o h).2.1,(hh id k o h).2.2.1⟩
  tabs:=⟨fun g hg=>⟨(htab g hg).1,(htab g hg).2,fun id k _ h _=>absurd h (no0 id k)⟩,fun g hg=>⟨(htabB g hg).1,(htabB g hg).2,fun id k _ h _=>absurd h (no0 id k)⟩⟩
  drawn:=Nat.le_refl _}
 refine((hF X β w vs rfl rfl rfl rfl rfl hS hd hl).calls hent).mono fun e w' ⟨v,he,β',s,H',hs,_,hdv,_,hS'⟩=> ?_;subst hs;simp only[den] at hdv;subst hdv
 exact⟨he,hS'.os,hS'.tape,hS'.output,hS'.size,fun b hb=>hS'.old b hb fun id k o L h ho hβ=>by
  rcases hS'.mine id k o L h ho hβ with⟨_,h1⟩|⟨_,h2⟩
  ·exact absurd h1 (no0 id k)
  ·have:w.heap.size≤L.blk:=h2
   omega⟩
end Go.Sk

namespace Go.Sk
open Go.RowKit Go.Shelf Go.Lib
theorem world_grow {W w':World}(h1:w'.os=W.os)(h2:w'.tape=W.tape)(h3:w'.output=W.output)(h4:W.heap.size≤w'.heap.size)(h5:∀b,b<W.heap.size→w'.heap[b]? =W.heap[b]?)(h6:W.drawn≤w'.drawn):∃q os',w'=Go.Sort.grow (W.drewN q) os':=by
 refine⟨w'.drawn-W.drawn,w'.heap.extract W.heap.size w'.heap.size,?_⟩;obtain⟨h,t,d,o,u⟩:=w';obtain⟨H,T,D,O,U⟩:=W;dsimp only at*;subst h1 h2 h3
 have e:h=H++h.extract H.size h.size:=by
  apply Array.ext_getElem?;intro k
  by_cases hk:k<H.size
  ·rw[Array.getElem?_append_left hk,h5 k hk]
  ·rw[Array.getElem?_append_right (by omega),Array.getElem?_extract]
   by_cases hk2:k<h.size
   ·rw[if_pos (by omega),show H.size+(k-H.size)=k by omega]
   ·rw[if_neg (by omega),Array.getElem?_eq_none (by omega)]
 simp only[Go.Sort.grow,World.drewN,World.mk.injEq];exact⟨e,trivial,by omega,trivial,trivial⟩
theorem zf.reads {P:Program}{g:FuncId}{args0:List SV}{Hc:AH}{r:Int}(hF:zf P g args0 Hc (fun s _=>s= .int .i64 r))(hno:∀id k o,look Hc.os id k=some o→o.own=false)(hent:Ent P g)
  {X:Cx} {β:Env} {H:AH} {W:World} (hP:X.P=P) (hS:St X β H W) (ρ:Nat→Nat) (hg:z56 ρ Hc.nxt H.os Hc.os) {vs:List Value} (hd:z2h β (SV.renL ρ args0) vs) (hl0:SV.ltL Hc.nxt args0):
  Calls P g vs.toArray W fun e w'=>e= .returned (.int .i64 r)∧∃q os',w'=Go.Sort.grow (W.drewN q) os':=by
 subst hP
 let Y:Cx:=⟨X.P,0,W,fun id k=> ∃o,look Hc.os id k=some o∧o.own=true,Hc.nxt,β.via ρ,false⟩
 have hn:∀id k,¬∃o,look Hc.os id k=some o∧o.own=true:=fun id k ⟨o,h1,h2⟩=>by rw[hno id k o h1] at h2;cases h2
 have hY:St Y (β.via ρ) Hc W:=by
  refine⟨rfl,rfl,rfl,Nat.le_refl _,fun _ _ _=>rfl,fun id k o h=> ?_,fun id k id' k' o o' L L' h h' ho hb hb' he=>(hn id k ⟨o,h,ho⟩).elim,fun _ _ _=>rfl,fun id k o L h ho _=>(hn id k ⟨o,h,ho⟩).elim,fun id k ho=>(hn id k ho).elim,Nat.le_refl _,fun id k o h=>⟨(hg.look h).1,(hg.look h).2.1⟩,⟨fun g hgt=> ?_,fun g hgt=> ?_⟩,Nat.le_refl _⟩
  ·obtain⟨_,_,o0,h1,h2⟩:=hg.look h;exact objGives_holds h2 (hS.holds _ _ _ h1)
  ·obtain⟨_,hlt2,htab⟩:=hS.tab hgt;exact⟨hlt2,htab,fun id k L ho hb=>(hn id k ho).elim⟩
  ·obtain⟨_,hlt2,htab⟩:=hS.tabB hgt;exact⟨hlt2,htab,fun id k L ho hb=>(hn id k ho).elim⟩
 refine((hF Y (β.via ρ) W vs rfl rfl rfl rfl rfl hY ((denL_ren _ _).1 hd) hl0).calls hent).mono ?_;rintro e w' ⟨v,rfl,β',s0,H',hR,_,hds,_,hS'⟩;subst hR;simp only[den] at hds;subst hds;refine⟨rfl,world_grow hS'.os hS'.tape hS'.output hS'.size (fun b hb=>hS'.old b hb fun id k o L h ho hb' he=> ?_) hS'.drawn⟩;rcases hS'.mine _ _ _ _ h ho hb' with⟨_,h2⟩|⟨_,h2⟩
 ·exact hn id k h2
 ·have:Y.w0.heap.size=W.heap.size:=rfl;omega
theorem St.refun {X:Cx}{β:Env}{H:AH}{w:World}(hS:St X β H w){os':List (Nat×Nat×(Nat→Obj))}
  (h:∀id k o,look os' id k=some o→∃o0,look H.os id k=some o0∧o0.own=o.own∧(∀q,o0.holds β w q→o.holds β w q)∧(o0.lt H.nxt→o.lt H.nxt))
  (h2:∀id k o0,look H.os id k=some o0→∃o,look os' id k=some o∧o.own=o0.own):St X β ⟨H.nxt,os'⟩ w where
 os:=hS.os
 tape:=hS.tape
 output:=hS.output
 size:=hS.size
 fix:=hS.fix
 holds id k o ho:=by
  obtain⟨o0,h3,_,h5,_⟩:=h id k o ho;exact h5 _ (hS.holds _ _ _ h3)
 sep id k id' k' o o' L L' ho ho' hw:=by
  obtain⟨o0,h3,h4,_⟩:=h id k o ho;obtain⟨o1,h5,_⟩:=h id' k' o' ho';exact hS.sep _ _ _ _ _ _ _ _ h3 h5 (h4.trans hw)
 old b hb hn:=hS.old b hb fun id k o L ho hw hbb=>by
  obtain⟨o1,h3,h4⟩:=h2 id k o ho;exact hn id k o1 L h3 (h4.trans hw) hbb
 mine id k o L ho hw:=by
  obtain⟨o0,h3,h4,_⟩:=h id k o ho;exact hS.mine _ _ _ _ h3 (h4.trans hw)
 keep id k hk:=by
  obtain⟨q1,o,q2,q3⟩:=hS.keep id k hk;obtain⟨o1,h3,h4⟩:=h2 id k o q2;exact⟨q1,o1,h3,h4.trans q3⟩
 m0:=hS.m0
 lt id k o ho:=by
  obtain⟨o0,h3,_,_,h6⟩:=h id k o ho;have:=hS.lt _ _ _ h3;exact⟨this.1,h6 this.2⟩
 tabs:=hS.tabs
 drawn:=hS.drawn
theorem zf.mono {P:Program}{f:FuncId}{args:List SV}{H0:AH}{R R':SV→AH→Prop}(hF:zf P f args H0 R)(h:∀s H,R s H→R' s H):zf P f args H0 R':=fun X β w vs h1 h2 h3 h4 h5 h6 h7 h8=>
 (hF X β w vs h1 h2 h3 h4 h5 h6 h7 h8).mono fun _ _ ⟨v,he,β',s,H',hR,r⟩=>⟨v,he,β',s,H',h _ _ hR,r⟩
section
variable {α:Type} [Inhabited α]
def vals (val:α→Int)(d:Array α):Nat→List SV:=fun i=>[.int .i64 (val d[i]!)]
theorem St.sorted {X:Cx}{β:Env}{H:AH}{w:World}(hS:St X β H w)(val:α→Int){e:TypeId}{n:Nat}{f:Nat→List SV}(hl:look H.os 0 0=some (.row ⟨true,false,e,1,n,f⟩)){os':List (Nat×Nat×(Nat→Obj))}(dk:Array α)(hdk:dk.size=n)
  (hos:∀id' k',look os' id' k'=if id'=0∧k'=0 then some (.row ⟨true,false,e,1,n,vals val dk⟩) else look H.os id' k') {L:Loc} (hb:β 0 0=some L) (m:Nat) (os:Array Go.Obj):
  St X β ⟨H.nxt,os'⟩ (Go.Proofs.sortWorld (fun x:α=>Value.int .i64 (val x)) w L.blk 0 m dk os):=by
 have hh:=hS.holds _ _ _ hl;rw[hb] at hh;rcases hh with⟨_,hc⟩|⟨L',hL',hsz,hlt,hcells,hown⟩
 ·cases hc
 cases hL'
 obtain⟨ho1,ho2,ho3,cur,hcur,hcs⟩:=hown rfl
 have hbk:(Go.Sort.putRow (fun x:α=>Value.int .i64 (val x)) w L.blk 0 dk).heap[L.blk]? =some (.cells (Go.Sort.putCells (fun x:α=>Value.int .i64 (val x)) 0 dk cur) e (0,0)):=by
  simp only[Go.Sort.putRow,Go.Sort.mapBlock,Array.getElem?_modify,if_true,hcur,Option.map_some,Go.Sort.onCells]
 have h1:St X β ⟨H.nxt,os'⟩ (Go.Sort.putRow (fun x:α=>Value.int .i64 (val x)) w L.blk 0 dk):=by
  refine St.upd hS hl rfl hb (o':= .row ⟨true,false,e,1,n,vals val dk⟩) rfl hos ⟨rfl,rfl,rfl,rfl,Go.Sort.size_putRow ..,fun b hbne=> ?_⟩ (.inr ⟨L,rfl,hsz,?_,fun i hi=>⟨rfl,fun j s hs=> ?_⟩,fun _=>⟨ho1,ho2,ho3,_,hbk,?_⟩⟩) ?_
  ·simp only[Go.Sort.putRow,Go.Sort.mapBlock,Array.getElem?_modify];rw[if_neg (by omega)]
  ·rw[Go.Sort.size_putRow];exact hlt
  ·cases j with
   |succ j=>cases hs
   |zero=>
    cases hs
    refine⟨rfl,.int .i64 (val dk[i]!),?_,by simp only[den]⟩;have hi':i<n:=hi;have hcell:w.cell? ⟨L.blk,i,none⟩=cur[i]? :=by simp[World.cell?,hcur]
    have hic:i<cur.size:=by
     rw[hcs];have:(⟨true,false,e,1,n,f⟩:Row).sz=1:=rfl;have h2:(⟨true,false,e,1,n,f⟩:Row).n=n:=rfl;simp only[Nat.mul_one];exact Nat.lt_of_lt_of_le hi' ho2
    have hL1:L.sz=1:=hsz;rw[show L.off+i*L.sz+0=i by rw[ho1,hL1];omega];simp only[World.cell?,hbk,Go.Sort.putCells,Array.getElem?_mapIdx,Array.getElem?_eq_getElem hic,Option.map_some,Nat.zero_le,Nat.zero_add,true_and,Nat.sub_zero,Option.isSome_none,Bool.false_eq_true,if_false];rw[if_pos (by omega)]
  ·simp only[Go.Sort.putCells,Array.size_mapIdx];exact hcs
  ·intro i j s hi hj
   cases j with
   |succ j=>cases hj
   |zero=>cases hj;trivial
 refine h1.ext ⟨⟨rfl,rfl,rfl,?_,fun k hk=> ?_⟩,?_⟩
 ·show _≤((Go.Sort.putRow _ (Go.Sort.ahead w m) L.blk 0 dk).heap++os).size
  simp only[Array.size_append,Go.Sort.size_putRow]
  show w.heap.size≤w.heap.size+_
  omega
 ·show((Go.Sort.putRow _ (Go.Sort.ahead w m) L.blk 0 dk).heap++os)[k]? =_
  rw[Array.getElem?_append_left (by rw[Go.Sort.size_putRow] at hk ⊢;exact hk)]
  rfl
 ·show w.drawn≤w.drawn+m
  omega
def z4y (cf:α→α→Int)(d:Array α):Array α:=(d.toList.mergeSort fun x y=> !(Go.Proofs.ltOf cf) y x).toArray
omit [Inhabited α] in
theorem sortedOf_size (cf:α→α→Int)(d:Array α):(z4y cf d).size=d.size:=by simp[z4y]
theorem sortFn_spec {P:Program}{ρs:Ren}(L:Go.Proofs.SlLaysF.n6 P ρs)(hentS:Ent P (ρs.f 6))(g:FuncId)(hent:Ent P g)(cap:List SV)(N:Nat)(os:List (Nat×Nat×(Nat→Obj)))(e:TypeId)(n:Nat)(f:Nat→List SV)
  (val:α→Int) (d:Array α) (hn:d.size=n) (hf:∀i,i<n→f i=[.int .i64 (val d[i]!)]) (cf:α→α→Int) (hO:Go.Sort.SWO (Go.Proofs.ltOf cf)) (hT:∀x y,Go.Proofs.ltOf cf x y=false→Go.Proofs.ltOf cf y x=false→x=y)
  (ρ:Nat→Nat) (Hc:AH) (hno:∀id k o,look Hc.os id k=some o→o.own=false) (hgv:∀f',z56 ρ Hc.nxt ((0,uQ (.row ⟨true,false,e,1,n,f'⟩))::os) Hc.os)
  (capc:List SV) (hcap:SV.renL ρ capc=cap) (hcl:SV.ltL Hc.nxt capc) (hos:∀id k o,look os id k=some o→o.own=false) (hcmp:∀x y:α,zf P g (.int .i64 (val x):: .int .i64 (val y)::capc) Hc (fun s _=>s= .int .i64 (cf x y))) (hsz:n≤1000000):
  zf P (ρs.f 6) [.slc true 0 0 0 n,.fn g cap] ⟨N,(0,uQ (.row ⟨true,false,e,1,n,f⟩))::os⟩
   (fun s H1=>s= .tup []∧H1=⟨N,[(0,uQ (.row ⟨true,false,e,1,n,vals val (z4y cf d)⟩))]⟩):=by
 intro X β w vs hP hm hw hβ ho hS hdl hl;refine .inl ⟨hentS,?_⟩;subst hP hn;simp only[z2h,den] at hdl;obtain⟨v0,r0,h0,⟨v1,r1,⟨cb,hcb,rfl⟩,⟨rfl,rfl⟩⟩,rfl⟩:=hdl;have hl0:look ((0,uQ (.row ⟨true,false,e,1,d.size,vals val d⟩))::os) 0 0=some (.row ⟨true,false,e,1,d.size,vals val d⟩):=rfl
 have hS:St X β ⟨N,(0,uQ (.row ⟨true,false,e,1,d.size,vals val d⟩))::os⟩ w:=by
  refine hS.refun (fun id k o h=> ?_) fun id k o h=> ?_
  ·rw[z1a] at h
   split at h
   ·rename_i he;obtain rfl:=he
    split at h
    ·rename_i hk
     cases h
     have hk0:k=0:=by omega
     subst hk0;refine⟨_,rfl,rfl,fun q hq=> ?_,fun _ i j s hi hj=> ?_⟩
     ·rcases hq with⟨h1,h2⟩|⟨L,h1,h2,h3,h4,h5⟩
      ·exact .inl ⟨h1,h2⟩
      ·refine .inr ⟨L,h1,h2,h3,fun i hi=> ?_,h5⟩;have:=h4 i hi;rw[show(⟨true,false,e,1,d.size,f⟩:Row).f i=vals val d i from hf i hi] at this;exact this
     ·cases j with
      |succ j=>cases hj
      |zero=>cases hj;trivial
    ·cases h
   ·rename_i he;exact⟨o,by show look ((0,_)::os) id k=some o;rw[z1a,if_neg he];exact h,rfl,fun _ h=>h,fun h=>h⟩
  ·have h':look ((0,uQ (.row ⟨true,false,e,1,d.size,f⟩))::os) id k=some o:=h;clear h;rw[z1a] at h'
   split at h'
   ·rename_i he;obtain rfl:=he
    split at h'
    ·rename_i hk
     cases h'
     have hk0:k=0:=by omega
     subst hk0;exact⟨_,hl0,rfl⟩
    ·cases h'
   ·rename_i he;exact⟨o,by rw[z1a,if_neg he];exact h',rfl⟩
 have fin:∀{w2:World} {f':Nat→List SV},St X β ⟨N,(0,uQ (.row ⟨true,false,e,1,d.size,f'⟩))::os⟩ w2→St X β ⟨N,[(0,uQ (.row ⟨true,false,e,1,d.size,f'⟩))]⟩ w2:=fun hS2=>by
  refine hS2.less rfl (fun id k o h=> ?_) fun id k o _ h hown=> ?_
  ·rw[z1a] at h ⊢
   split at h
   ·rename_i he;rw[if_pos he];exact h
   ·cases h
  ·rw[z1a] at h ⊢
   split at h
   ·rename_i he;rw[if_pos he];exact h
   ·rw[hos id k o h] at hown;cases hown
 have own:∀f':Nat→List SV,OwnAll ⟨N,(0,uQ (.row ⟨true,false,e,1,d.size,f⟩))::os⟩ [(0,uQ (.row ⟨true,false,e,1,d.size,f'⟩))]:=fun f' x hx=>by
  rw[List.mem_singleton] at hx;subst hx;exact⟨fun _=>rfl,.inr ⟨_,List.mem_cons_self ..,rfl,rfl,rfl⟩⟩
 by_cases hz:d.size=0
 ·have hd0:z4y cf d=d:=by
   have:d= #[]:=Array.eq_empty_of_size_eq_zero hz;subst this;simp[z4y]
  have hv0:∃p c,v0= .slice p 0 c:=by
   obtain⟨a,c,rfl,_⟩:=z3k h0;exact⟨a,c,by rw[hz]⟩
  obtain⟨p,c,rfl⟩:=hv0;refine(Go.Proofs.AnyF.slices_SortFunc_none (P:=X.P) (ρ:=ρs) {L with} p c (.func (.func g) #[] cb.toArray) w).mono ?_;rintro e1 w' ⟨rfl,rfl⟩;rw[hd0];exact⟨_,rfl,β,.tup [],_,⟨rfl,rfl⟩,own _,by simp only[den];exact⟨[],rfl,rfl⟩,trivial,fin hS⟩
 ·have h0':∃Lc cc,β 0 0=some Lc∧v0= .slice (some ⟨Lc.blk,0,none⟩) d.size cc:=by
   unfold z4l at h0;rw[if_pos rfl] at h0;rcases h0 with⟨_,h,_⟩|⟨Lc,cc,h1,_,_,_,_,h2⟩
   ·exact absurd h hz
   ·exact⟨Lc,cc,h1,h2⟩
  obtain⟨Lc,cc,hb,rfl⟩:=h0';have hh:=hS.holds _ _ _ hl0;rw[hb] at hh;rcases hh with⟨hc,_⟩|⟨L',hL',hsz1,hblk,hcells,hown⟩
  ·exact absurd hc hz
  cases hL'
  obtain⟨ho1,ho2,ho3,cur,hcur,hcs⟩:=hown rfl;have hL1:Lc.sz=1:=hsz1
  have hH:Go.Sort.Holds (fun x:α=>Value.int .i64 (val x)) w Lc.blk 0 d:=fun j hj=>by
   obtain⟨_,v,h1,h2⟩:=(hcells j hj).2 0 _ rfl;simp only[den] at h2;subst h2;refine⟨?_,by simp[World.frozen?,hcur]⟩;rw[←h1]
   congr 2
   rw[ho1,hL1];omega
  have hlook:∀(dk:Array α) (id' k':Nat),look ((0,uQ (.row ⟨true,false,e,1,d.size,vals val dk⟩))::os) id' k'=if id'=0∧k'=0 then some (.row ⟨true,false,e,1,d.size,vals val dk⟩) else look ((0,uQ (.row ⟨true,false,e,1,d.size,vals val d⟩))::os) id' k':=fun dk id' k'=>by
   simp only[z1a,uQ]
   by_cases h1:id'=0
   ·subst h1
    by_cases h2:k'=0
    ·subst h2;simp[Obj.opt]
    ·simp[h2]
   ·have h1':¬0=id':=fun e=>h1 e.symm;simp[h1,h1']
  have hsd:=fun(dk:Array α) (hdk:dk.size=d.size) (m:Nat) (os2:Array Go.Obj)=>hS.sorted val hl0 (os':=(0,uQ (.row ⟨true,false,e,1,d.size,vals val dk⟩))::os) dk hdk (hlook dk) hb m os2
  have hC:Go.Proofs.CmpLays1 X.P g cb.toArray (fun x:α=>Value.int .i64 (val x)) cf Lc.blk 0 d.size w:=fun m os2 dk hdk x y=>by
   have h1:=(hcmp x y).reads hno hent rfl (hsd dk hdk m os2) ρ (hgv _) (vs:= .int .i64 (val x):: .int .i64 (val y)::cb) (by
    simp only[SV.renL,SV.ren,z2h,den]
    exact⟨_,_,rfl,⟨_,_,rfl,by rw[hcap];exact hcb,rfl⟩,rfl⟩) (by simp only[SV.ltL,SV.lt,true_and];exact hcl)
   simpa using h1
  refine(Go.Proofs.Any.slices_SortFunc_total L (fun x:α=>Value.int .i64 (val x)) (fun _=>rfl) cf hO g cb.toArray Lc.blk 0 cc d w hent hC hH hblk (by omega) hT).mono ?_;rintro e1 w' ⟨rfl,m,os2,rfl⟩;exact⟨_,rfl,β,.tup [],_,⟨rfl,rfl⟩,own _,by simp only[den];exact⟨[],rfl,rfl⟩,trivial,fin (hsd (z4y cf d) (sortedOf_size cf d) m os2)⟩
end
end Go.Sk

namespace Go.Proofs
open Go.Sk
theorem uniq_pw {lt:Int→Int→Bool}(irr:∀a,lt a a=false)(asy:∀a b,lt a b=true→lt b a=false):∀{l m:List Int},l.Pairwise (fun a b=>lt a b=true)→m.Pairwise (fun a b=>lt a b=true)→(∀z,z∈l↔z∈m)→l=m
 |[],[],_,_,_=>rfl
 |[],b::m,_,_,h=>absurd ((h b).2 (List.mem_cons_self ..)) List.not_mem_nil
 |a::l,[],_,_,h=>absurd ((h a).1 (List.mem_cons_self ..)) List.not_mem_nil
 |a::l,b::m,hl,hm,h=>by
  obtain⟨h1,h2⟩:=List.pairwise_cons.1 hl;obtain⟨h3,h4⟩:=List.pairwise_cons.1 hm
  have e:a=b:=by
   rcases List.mem_cons.1 ((h a).1 (List.mem_cons_self ..)) with e|e
   ·exact e
   ·rcases List.mem_cons.1 ((h b).2 (List.mem_cons_self ..)) with e'|e'
    ·exact e'.symm
    ·have:=asy _ _ (h1 b e');rw[h3 a e] at this;cases this
  subst e;rw[uniq_pw irr asy h2 h4 fun z=> ?_]
  have hne:∀z,z∈l→z≠a:=fun z hz e=>by
   have:=h1 z hz;rw[e,irr] at this;cases this
  have hne':∀z,z∈m→z≠a:=fun z hz e=>by
   have:=h3 z hz;rw[e,irr] at this;cases this
  constructor
  ·intro hz;exact(List.mem_cons.1 ((h z).1 (List.mem_cons_of_mem _ hz))).resolve_left (hne z hz)
  ·intro hz;exact(List.mem_cons.1 ((h z).2 (List.mem_cons_of_mem _ hz))).resolve_left (hne' z hz)
theorem foldl_pw {lt:Int→Int→Bool}(irr:∀a,lt a a=false)(tr:∀a b c,lt a b=true→lt b c=true→lt a c=true):∀(xs l:List Int),l.Pairwise (fun a b=>lt a b=true)→(l++xs).Nodup→(∀a∈l++xs,∀b∈l++xs,a≠b→lt a b=false→lt b a=true)→(xs.foldl (insR lt) l).Pairwise (fun a b=>lt a b=true)
 |[],l,hl,_,_=>hl
 |x::xs,l,hl,hn,ht=>by
  have hmem:∀z,z∈insR lt l x++xs↔z∈l++x::xs:=fun z=>by
   simp only[List.mem_append,insR_mem,List.mem_cons]
   constructor
   ·rintro((a|a)|a)
    ·exact .inr (.inl a)
    ·exact .inl a
    ·exact .inr (.inr a)
   ·rintro(a|a|a)
    ·exact .inl (.inr a)
    ·exact .inl (.inl a)
    ·exact .inr a
  have hx:x∉l:=fun hx=>(List.nodup_append.1 hn).2.2 x hx x (List.mem_cons_self ..) rfl;have hpw:=insR_pw tr hl (x:=x) fun y hy hlt=>ht x (List.mem_append_right _ (List.mem_cons_self ..)) y (List.mem_append_left _ hy) (fun e=>hx (e ▸ hy)) hlt;refine foldl_pw irr tr xs (insR lt l x) hpw ?_ fun a ha b hb=>ht a ((hmem a).1 ha) b ((hmem b).1 hb);have h2:=List.nodup_append.1 hn;have h3:=List.nodup_cons.1 h2.2.1;refine List.nodup_append.2 ⟨?_,h3.2,fun a ha b hb e=> ?_⟩
  ·exact hpw.imp fun {a b} h e=>by subst e;rw[irr] at h;cases h
  ·subst e;rcases insR_mem.1 ha with e|e
   ·subst e;exact h3.1 hb
   ·exact h2.2.2 a e a (List.mem_cons_of_mem _ hb) rfl
theorem srtR_pw {lt:Int→Int→Bool}(irr:∀a,lt a a=false)(tr:∀a b c,lt a b=true→lt b c=true→lt a c=true){xs:List Int}(hn:xs.Nodup)(ht:∀a∈xs,∀b∈xs,a≠b→lt a b=false→lt b a=true):(srtR lt xs).Pairwise (fun a b=>lt a b=true):=
 foldl_pw irr tr xs [] List.Pairwise.nil (by simpa using hn) (by simpa using ht)
structure InR (n:Nat) where
 val:Int
 inn:val=0∨(0≤val∧val<n)
theorem InR.ext' {n:Nat}{x y:InR n}(h:x.val=y.val):x=y:=by
 cases x;cases y;cases h;rfl
@[reducible] def InR.inh (n:Nat):Inhabited (InR n):=⟨⟨0,.inl rfl⟩⟩
theorem InR.ok {n:Nat}(hn:0<n)(x:InR n):0≤x.val∧x.val<n:=by
 rcases x.inn with e|e
 ·omega
 ·exact e
def cmpOf (lt:Int→Int→Bool)(a b:Int):Int:=if lt a b then -1 else 1
theorem cmpOf_lt (lt:Int→Int→Bool)(a b:Int):decide (cmpOf lt a b<0)=lt a b:=by
 unfold cmpOf
 cases lt a b<;>rfl
theorem sortInts {P:Program}{ρs:Go.Shelf.Ren}(L:SlLaysF.n6 P ρs)(hentS:Ent P (ρs.f 6))(g:FuncId)(hent:Ent P g)(cap:List SV)(N:Nat)(os:List (Nat×Nat×(Nat→Sk.Obj)))(e:TypeId)(lt:Int→Int→Bool)(n:Nat)(hn:0<n)
  (xs:List Int) (hxs:∀x∈xs,0≤x∧x<n) (hnd:xs.Nodup) (irr:∀a,lt a a=false) (tr:∀a b c,lt a b=true→lt b c=true→lt a c=true) (tot:∀a b:Int,(0≤a∧a<n)→(0≤b∧b<n)→a≠b→lt a b=false→lt b a=true)
  (ρ:Nat→Nat) (Hc:AH) (hno:∀id k o,Sk.look Hc.os id k=some o→o.own=false) (hgv:∀f',z56 ρ Hc.nxt ((0,uQ (.row ⟨true,false,e,1,xs.length,f'⟩))::os) Hc.os)
  (capc:List SV) (hcap:SV.renL ρ capc=cap) (hcl:SV.ltL Hc.nxt capc) (hos:∀id k o,Sk.look os id k=some o→o.own=false)
  (hcmp:∀a b:Int,(0≤a∧a<n)→(0≤b∧b<n)→zf P g (.int .i64 a:: .int .i64 b::capc) Hc (fun s _=>s= .int .i64 (cmpOf lt a b))) (hsz:xs.length≤1000000):
  zf P (ρs.f 6) [.slc true 0 0 0 xs.length,.fn g cap] ⟨N,(0,uQ (.row ⟨true,false,e,1,xs.length,ints xs⟩))::os⟩
   (fun s H1=>s= .tup []∧H1=⟨N,[(0,uQ (.row ⟨true,false,e,1,(srtR lt xs).length,ints (srtR lt xs)⟩))]⟩):=by
 letI:Inhabited (InR n):=InR.inh n
 have hdef:InR.val (default:InR n)=0:=rfl
 let cf:InR n→InR n→Int:=fun x y=>cmpOf lt x.val y.val
 let d:Array (InR n):=(xs.attach.map fun x=>(⟨x.1,.inr (hxs x.1 x.2)⟩:InR n)).toArray
 have hdl:d.toList.map InR.val=xs:=by
  show(xs.attach.map fun x=>(⟨x.1,.inr (hxs x.1 x.2)⟩:InR n)).map InR.val=xs
  rw[List.map_map];simp
 have hds:d.size=xs.length:=by simp[d]
 have hlt:∀x y,ltOf cf x y=lt x.val y.val:=fun x y=>cmpOf_lt lt _ _
 have htot:∀x y:InR n,lt x.val y.val=false→lt y.val x.val=false→x=y:=fun x y h1 h2=>by
  by_cases h:x.val=y.val
  ·exact InR.ext' h
  ·have:=tot _ _ (x.ok hn) (y.ok hn) h h1;rw[h2] at this;cases this
 have hO:Go.Sort.SWO (ltOf cf):=⟨fun x=>by rw[hlt];exact irr _,fun x y z h1 h2=>by rw[hlt] at*;exact tr _ _ _ h1 h2,fun x y z h1 h2=>by
  rw[hlt] at*
  cases h:lt x.val z.val with
  |false=>rfl
  |true=>
   by_cases hxy:x=y
   ·rw[hxy,h2] at h;cases h
   ·have h3:lt y.val x.val=true:=by
     cases h4:lt y.val x.val with
     |true=>rfl
     |false=>exact absurd (htot x y h1 h4) hxy
    have:=tr _ _ _ h3 h
    rw[h2] at this;cases this⟩
 have hval:∀(c:Array (InR n)) (i:Nat),InR.val c[i]! =nth (c.toList.map InR.val) i:=fun c i=>by
  simp only[nth,List.getD,List.getElem?_map,Array.getElem?_toList]
  by_cases h:i<c.size
  ·rw[getElem!_pos c i h,Array.getElem?_eq_getElem h];rfl
  ·rw[getElem!_neg c i h,Array.getElem?_eq_none (by omega)];exact hdef
 have hperm:(z4y cf d).toList.Perm d.toList:=List.mergeSort_perm _ _
 have hsrt:(z4y cf d).toList.map InR.val=srtR lt xs:=by
  have hmem:∀z,z∈(z4y cf d).toList.map InR.val↔z∈srtR lt xs:=fun z=>by
   rw[srtR_mem,←hdl,List.mem_map,List.mem_map]
   constructor
   ·rintro⟨a,h1,h2⟩;exact⟨a,hperm.mem_iff.1 h1,h2⟩
   ·rintro⟨a,h1,h2⟩;exact⟨a,hperm.mem_iff.2 h1,h2⟩
  have hnd2:((z4y cf d).toList.map InR.val).Nodup:=(hperm.map InR.val).nodup_iff.2 (by rw[hdl];exact hnd)
  have hle:(z4y cf d).toList.Pairwise (fun a b=>(!(ltOf cf) b a)=true):=List.pairwise_mergeSort (le:=fun x y=> !(ltOf cf) y x) (fun a b c h1 h2=>by
   simp only[Bool.not_eq_true'] at*
   exact hO.ntrans _ _ _ h2 h1) (fun a b=>by
   simp only[hlt]
   cases h1:lt b.val a.val with
   |false=>rfl
   |true=>
    cases h2:lt a.val b.val with
    |false=>rfl
    |true=>have:=tr _ _ _ h1 h2;rw[irr] at this;cases this) _
  refine uniq_pw irr (fun a b h=> ?_) ?_ (srtR_pw irr tr hnd fun a ha b hb=>tot a b (hxs a ha) (hxs b hb)) hmem
  ·cases h2:lt b a with
   |false=>rfl
   |true=>have:=tr _ _ _ h h2;rw[irr] at this;cases this
  ·rw[List.pairwise_map];have hnd3:=List.pairwise_map.1 hnd2;refine(hle.and hnd3).imp fun {a b} h=> ?_;have h1:=h.1;rw[hlt,Bool.not_eq_true'] at h1;exact tot _ _ (b.ok hn) (a.ok hn) (fun e=>h.2 e.symm) h1
 have hsl:(srtR lt xs).length=xs.length:=srtR_length lt xs;have h:=sortFn_spec L hentS g hent cap N os e xs.length (ints xs) InR.val d hds (fun i _=>by rw[hval,hdl];rfl) cf hO (fun x y h1 h2=>by rw[hlt] at h1 h2;exact htot x y h1 h2) ρ Hc hno hgv capc hcap hcl hos (fun x y=>hcmp _ _ (x.ok hn) (y.ok hn)) hsz
 have hv:vals InR.val (z4y cf d)=ints (srtR lt xs):=by
  funext i
  simp only[vals,ints];rw[hval,hsrt]
 rw[hv] at h;rw[hsl];exact h
end Go.Proofs
