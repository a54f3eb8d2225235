/-
  Walks and plain facts, joined: part 3 of 18.
  Conditions: those that each statement names.
-/
import Derived.Test.YtpnefndionckaaaGreatDoorRpb
import Derived.Scope
import Derived.Test.YtpnefndionckaaaGreatDoorChecked
import Derived.Laws.StructEq
set_option linter.unusedSimpArgs false
set_option linter.unusedVariables false
set_option linter.defProp false
set_option maxRecDepth 4000
set_option maxHeartbeats 8000000
namespace Go.Sk
open Go.RowKit
def Row.ren (ρ:Nat->Nat)(r:Row):Row:={r with f:=fun i=>SV.renL ρ (r.f i)}
def z34.ren (ρ:Nat->Nat):z34->z34
 |.ints n h g z=> .ints n h (fun a=>(g a).ren ρ) (z.ren ρ)
 |.prs n h g z=> .prs n h (fun a b=>(g a b).ren ρ) (z.ren ρ)
def z34.ren_n (ρ:Nat->Nat)(M:z34):(M.ren ρ).n=M.n:=by cases M<;>rfl
def z34.ren_has (ρ:Nat->Nat)(M:z34)(v:Value):(M.ren ρ).has v=M.has v:=by cases M<;>rfl
def z34.ren_z (ρ:Nat->Nat)(M:z34):(M.ren ρ).z=M.z.ren ρ:=by cases M<;>rfl
def z34.ren_val (ρ:Nat->Nat)(M:z34)(v:Value):(M.ren ρ).val v=(M.val v).ren ρ:=by
 cases M<;>simp only[z34.ren,z34.val]<;>split<;>rfl
def Obj.ren (ρ:Nat->Nat):Obj->Obj
 |.row r=> .row (r.ren ρ)
 |.mapo o M=> .mapo o (M.ren ρ)
 |o=>o
def Obj.ren_blk (ρ:Nat->Nat)(o:Bool)(ks:z59):(Obj.blk o ks).ren ρ= .blk o ks:=rfl
def Obj.ren_gone {ρ:Nat->Nat}{o:Obj}(h:o≠ .gone):o.ren ρ≠ .gone:=by
 cases o<;>simp[Obj.ren] at h ⊢
def renOs (ρ:Nat->Nat)(os:List (Nat×Nat×(Nat->Obj))):List (Nat×Nat×(Nat->Obj)):=os.map fun x=>(ρ x.1,x.2.1,fun k=>(x.2.2 k).ren ρ)
def dropIds:List Nat->List (Nat×Nat×(Nat->Obj))->List (Nat×Nat×(Nat->Obj))
 |[],os=>os
 |id::l,os=>dropIds l (dropO os id)
def look_dropIds:∀(l:List Nat) (os:List (Nat×Nat×(Nat->Obj))) (id k:Nat),look (dropIds l os) id k=if id∈l then none else look os id k
 |[],os,id,k=>by simp[dropIds]
 |i::l,os,id,k=>by
  rw[dropIds,look_dropIds l,look_dropO]
  by_cases h:id=i
  ·subst h;simp
  ·simp[h]
def look_append:∀(a b:List (Nat×Nat×(Nat->Obj))) (id k:Nat),look (a++b) id k=if(find a id).isSome then look a id k else look b id k
 |[],b,id,k=>by simp[find]
 |(i,c,F)::a,b,id,k=>by
  rw[QZ,z19,z19,look_append a b]
  by_cases h:i=id
  ·subst h;simp[find]
  ·simp[h,find]
def Obj.ren_own (ρ:Nat->Nat)(o:Obj):(o.ren ρ).own=o.own:=by cases o<;>rfl
def Obj.ren_holds {ρ:Nat->Nat}{o:Obj}{β:Env}{w:World}{q:Option Loc}(h:o.holds (β.via ρ) w q):(o.ren ρ).holds β w q:=by
 cases o with
 |row r=>
  rcases h with h|⟨L,hq,h1,h2,h3,h4⟩
  ·exact .inl h
  ·refine .inr ⟨L,hq,h1,h2,fun i hi=> ?_,h4⟩;obtain⟨q1,q2⟩:=h3 i hi;refine⟨by show(SV.renL ρ (r.f i)).length=_;rw[renL_eq,qx];exact q1,fun j s hs=> ?_⟩;have hs':(SV.renL ρ (r.f i))[j]? =some s:=hs;rw[renL_eq,qQ,q6] at hs';obtain⟨s0,hs0,rfl⟩:=hs';obtain⟨a,v,b,c⟩:=q2 j s0 hs0;exact⟨by rw[scalar_ren];exact a,v,b,(z4p s0 v).2 c⟩
 |blk _ p=>exact h
 |gone=>trivial
 |mapo _ M=>
  obtain⟨L,b,hq,hb,es,clk,e1,e2,e6,e3,e4,e5⟩:=h;refine⟨L,b,hq,hb,es,clk,e1,e2.trans (M.ren_n ρ).symm,e6,fun k=>by rw[M.ren_has];exact e3 k,fun e he=>by rw[M.ren_val];exact(z4p _ _).2 (e4 e he),fun k hk v hv=> ?_⟩;rw[M.ren_has] at hk;rw[M.ren_z] at hv;rw[M.ren_val];exact(z4p _ _).2 (e5 k hk v ((z4p _ _).1 hv))
def Obj.ren_lt {ρ:Nat->Nat}{m m':Nat}(h:∀id,id<m->ρ id<m'){o:Obj}(hl:o.lt m):(o.ren ρ).lt m':=by
 cases o with
 |row r=>
  intro i j s hi hs;have hs':(SV.renL ρ (r.f i))[j]? =some s:=hs;rw[renL_eq,qQ,q6] at hs';obtain⟨s0,hs0,rfl⟩:=hs';exact lt_ren h s0 (hl i j s0 hi hs0)
 |blk _ _=>trivial
 |gone=>trivial
 |mapo _ M=>exact⟨by rw[M.ren_z];exact lt_ren h _ hl.1,fun v=>by rw[M.ren_val];exact lt_ren h _ (hl.2 v)⟩
def find_renOs {ρ:Nat->Nat}:∀{os:List (Nat×Nat×(Nat->Obj))} {id:Nat} {x:Nat×(Nat->Obj)},find (renOs ρ os) id=some x->∃id0 c F,(id0,c,F)∈os/\ρ id0=id/\x=(c,fun k=>(F k).ren ρ)
 |[],_,_,h=>by simp[renOs,find] at h
 |(i,c,F)::os,id,x,h=>by
  simp only[renOs,q8,find] at h
  split at h
  ·rename_i he
   cases h
   exact⟨i,c,F,qo ..,he,rfl⟩
  ·obtain⟨id0,c',F',h1,h2,h3⟩:=find_renOs h;exact⟨id0,c',F',qp _ h1,h2,h3⟩
def look_renOs {ρ:Nat->Nat}:∀{os:List (Nat×Nat×(Nat->Obj))} (_:∀x∈os,∀y∈os,ρ x.1=ρ y.1->x.1=y.1) {id0 k:Nat} {o:Obj},look os id0 k=some o->look (renOs ρ os) (ρ id0) k=some (o.ren ρ)
 |[],_,_,_,_,h=>by simp[look,find] at h
 |(i,c,F)::os,hinj,id0,k,o,h=>by
  simp only[renOs,q8];rw[z19] at h ⊢
  by_cases he:i=id0
  ·subst he;simp only[q9] at h ⊢
   split at h
   ·rename_i hk;obtain⟨rfl,hgn⟩:=Obj.opt_some h;rw[qe hk];exact Obj.opt_of (Obj.ren_gone hgn)
   ·cases h
  ·rw[qc he] at h
   have hne:¬ρ i=ρ id0:=fun hh=>by
    obtain⟨c',F',hf,_⟩:=z1h h;exact he (hinj _ (qo ..) _ (qp _ (z1j hf)) hh)
   rw[qc hne];exact look_renOs (fun x hx y hy=>hinj x (qp _ hx) y (qp _ hy)) h
def look_renOs_inv {ρ:Nat->Nat}{os:List (Nat×Nat×(Nat->Obj))}(hinj:∀x∈os,∀y∈os,ρ x.1=ρ y.1->x.1=y.1){id k:Nat}{o:Obj}(h:look (renOs ρ os) id k=some o):∃id0 o0,ρ id0=id/\look os id0 k=some o0/\o=o0.ren ρ:=by
 have hgn:=z3o h;obtain⟨c,F,hf,hk,rfl⟩:=z1h h;obtain⟨id0,c',F',hm,he,hx⟩:=find_renOs hf
 cases hx
 --the entry that is found at id0
 have:∀{os:List (Nat×Nat×(Nat->Obj))},(id0,c,F')∈os->(find (renOs ρ os) id=some (c,fun k=>(F' k).ren ρ))->(∀x∈os,∀y∈os,ρ x.1=ρ y.1->x.1=y.1)->∃o0,look os id0 k=some o0/\((F' k).ren ρ)=o0.ren ρ:=by
  intro os
  induction os with
  |nil=>intro h;cases h
  |cons y l ih=>
   obtain⟨i,d,E⟩:=y;intro hmem hfind hinj;simp only[renOs,q8,find] at hfind;rw[z19]
   by_cases hi:i=id0
   ·subst hi;rw[qe he] at hfind;simp only[Qx,jn] at hfind;obtain⟨rfl,hE⟩:=hfind;rw[qe rfl,qe hk];have hEk:Obj.ren ρ (E k)=Obj.ren ρ (F' k):=jv hE k;exact⟨_,Obj.opt_of (fun e=>hgn (by show Obj.ren ρ (F' k)=_;rw[<-hEk,e];rfl)),hEk.symm⟩
   ·rw[qc hi];have hne:¬ρ i=id:=fun hh=>hi (hinj _ (qo ..) _ hmem (hh.trans he.symm));rw[qc hne] at hfind
    cases hmem with
    |head=>exact absurd rfl hi
    |tail _ hmem=>exact ih hmem hfind (fun x hx y hy=>hinj x (qp _ hx) y (qp _ hy))
 obtain⟨o0,h1,h2⟩:=this hm hf hinj;exact⟨id0,o0,he,h1,h2⟩
def cren (m0 nxt:Nat)(ρ:Nat->Nat)(id:Nat):Nat:=if id<m0 then ρ id else id-m0+nxt
def z44 (ρ:Nat->Nat):List (Nat×Nat×(Nat->Obj))->List Nat
 |[]=>[]
 |x::l=>if(x.2.2 0).own then ρ x.1::z44 ρ l else z44 ρ l
def mem_ownIds {ρ:Nat->Nat}:∀{os:List (Nat×Nat×(Nat->Obj))} {id:Nat},id∈z44 ρ os↔∃x∈os,(x.2.2 0).own=true/\ρ x.1=id
 |[],id=>by simp[z44]
 |x::l,id=>by
  simp only[z44,qv];have ih:=mem_ownIds (ρ:=ρ) (os:=l) (id:=id)
  split
  ·rename_i h;simp only[qv,ih];exact⟨fun hh=>hh.elim (fun e=>⟨x,.inl rfl,h,e.symm⟩) (fun⟨y,hy,q⟩=>⟨y,.inr hy,q⟩),fun⟨y,hy,q1,q2⟩=>hy.elim (fun e=> .inl (e ▸ q2.symm)) (fun hy=> .inr ⟨y,hy,q1,q2⟩)⟩
  ·rename_i h;rw[ih];exact⟨fun⟨y,hy,q⟩=>⟨y,.inr hy,q⟩,fun⟨y,hy,q1,q2⟩=>hy.elim (fun e=>absurd (e ▸ q1) h) (fun hy=>⟨y,hy,q1,q2⟩)⟩
def after (m0:Nat)(ρ:Nat->Nat)(H0 H:AH)(H':AH):AH:=⟨H.nxt+(H'.nxt-m0),renOs (cren m0 H.nxt ρ) H'.os++dropIds (z44 ρ H0.os) H.os⟩
def find_of_mem:∀{os:List (Nat×Nat×(Nat->Obj))},(os.map (·.1)).Nodup->∀{id:Nat} {x:Nat×(Nat->Obj)},(id,x)∈os->find os id=some x
 |[],_,_,_,h=>by cases h
 |(i,y)::l,hn,id,x,h=>by
  simp only[q8,Jo] at hn;simp only[find]
  cases h with
  |head=>rw[qe rfl]
  |tail _ h=>
   have:i≠id:=fun he=>hn.1 (Qs.2 ⟨_,h,he.symm⟩);rw[qc this];exact find_of_mem hn.2 h
def zj.call {P : Program} {f : FuncId} {args0 : List SV} {H0 : AH} {R : SV -> AH -> Prop} (hF : zj P f args0 H0 R) (ρ : Nat -> Nat) {H : AH}
    (hl0:SV.ltL H0.nxt args0) (hρ:(List.range H0.nxt).all (fun id=>decide (ρ id<H.nxt))=true) (hg:z5o ρ H0.nxt H.os H0.os) (hinj:injB ρ H0.os=true) (hu:ownU H0.os)
    (hnd:(H0.os.map (·.1)).Nodup) (hcnt:∀x∈H0.os,(x.2.2 0).own=true->(find H.os (ρ x.1)).map (·.1)=some x.2.1):
    ASpec P f (SV.renL ρ args0) H (z44 ρ H0.os) (fun s H''=> ∃s0 H',R s0 H'/\s=s0.ren (cren H0.nxt H.nxt ρ)/\H''=after H0.nxt ρ H0 H H'):=by
  intro X β w vs hP hS hd hlt;subst hP;have hρ':∀id,id<H0.nxt->ρ id<H.nxt:=fun id hid=>by simpa using qu.1 hρ id (Qu.2 hid)
  have hinj':=InjOn.of hinj hu
  let Y:Cx:=⟨X.P,0,w,fun id k=> ∃o,look H0.os id k=some o/\o.own=true,H0.nxt,β.via ρ,false⟩
  have hY:St Y (β.via ρ) H0 w:=by
    refine⟨rfl,rfl,rfl,qd _,fun _ _ _=>rfl,fun id k o h=> ?_,fun id k id' k' o o' L L' h h' ho hb hb' he=> ?_,fun _ _ _=>rfl,fun id k o L h ho _=> .inl ⟨(hg.look h).1,o,h,ho⟩,fun id k ho=> ?_,qd _,fun id k o h=>⟨(hg.look h).1,(hg.look h).2.1⟩,⟨fun g hgt=> ?_,fun g hgt=> ?_⟩,qd _⟩
    · obtain⟨_,_,o0,h1,h2⟩:=hg.look h;exact objGives_holds h2 (hS.holds _ _ _ h1)
    · obtain⟨_,_,o0,h1,h2⟩:=hg.look h;obtain⟨_,_,o1,h3,h4⟩:=hg.look h';have:=hS.sep _ _ _ _ _ _ _ _ h1 h3 (z4t h2 ho) hb hb' he;exact⟨hinj' _ _ _ _ _ _ h h' ho this.1,this.2⟩
    · obtain⟨o,h,ho'⟩:=ho;exact⟨(hg.look h).1,o,h,ho'⟩
    · obtain⟨hno,hlt2,htab⟩:=hS.tab hgt;refine⟨hlt2,htab,fun id k L ho hb=> ?_⟩;obtain⟨o,h,ho'⟩:=ho;obtain⟨_,_,o0,h1,h2⟩:=hg.look h;exact hno _ _ o0 L h1 (z4t h2 ho') hb
    · obtain⟨hno,hlt2,htab⟩:=hS.tabB hgt;refine⟨hlt2,htab,fun id k L ho hb=> ?_⟩;obtain⟨o,h,ho'⟩:=ho;obtain⟨_,_,o0,h1,h2⟩:=hg.look h;exact hno _ _ o0 L h1 (z4t h2 ho') hb
  refine(hF Y (β.via ρ) w vs rfl rfl rfl rfl rfl hY ((denL_ren _ _).1 hd) hl0).mono ?_;rintro e w' ⟨v,rfl,β',s0,H',hR,hown,hds,hsl,hS'⟩
  let τ:=cren H0.nxt H.nxt ρ
  let γ:Env:=fun id k=>if id<H.nxt then β id k else β' (id-H.nxt+H0.nxt) k
  have hnx:H0.nxt<=H'.nxt:=hS'.m0
  --the callee's objects,under the caller's names,lie where they lay
  have hγ:γ.via τ=β':=by
    funext id k
    show γ (τ id) k=β' id k
    simp only[τ,cren]
    split
    · rename_i h;simp only[γ];rw[qe (hρ' id h)];exact(hS'.fix id k h).symm
    · rename_i h;simp only[γ];rw[qc (by omega)]
      congr 1;omega
  have hag:Env.agree H.nxt β γ:=fun id k h=>by simp only[γ];rw[qe h]
  have hown':∀id k o,look H'.os id k=some o->o.own=true:=fun id k o h=>by
    obtain⟨c,F,hf,_,rfl⟩:=z1h h;exact(hown _ (z1j hf)).1 k
  --an owned object of the callee's that was handed in
  have hpar:∀id k o,look H'.os id k=some o->id<H0.nxt->∀L,β' id k=some L->∃o0,look H0.os id k=some o0/\o0.own=true/\∃o1,look H.os (ρ id) k=some o1/\o1.own=true/\β (ρ id) k=some L:=fun id k o h hlt2 L hb=>by
    rcases hS'.mine _ _ _ _ h (hown' _ _ _ h) hb with⟨_,o0,h1,h2⟩|⟨h1,_⟩
    · obtain⟨_,_,o1,h3,h4⟩:=hg.look h1;exact⟨o0,h1,h2,o1,h3,z4t h4 h2,by rw[hS'.fix id k hlt2] at hb;exact hb⟩
    · have:Y.m0=H0.nxt:=rfl;omega
  have hnew:∀id k o,look H'.os id k=some o->H0.nxt<=id->∀L,β' id k=some L->w.heap.size<=L.blk:=fun id k o h hge L hb=>by
    rcases hS'.mine _ _ _ _ h (hown' _ _ _ h) hb with⟨h1,_⟩|⟨_,h1⟩
    · have:Y.m0=H0.nxt:=rfl;omega
    · exact h1
  have hentry:∀x∈H'.os,x.1<H0.nxt->ρ x.1∈z44 ρ H0.os/\∃y∈H0.os,y.1=x.1/\y.2.1=x.2.1/\(y.2.2 0).own=true:=fun x hx hlt2=>by
    rcases(hown x hx).2 with h|⟨y,hy,he,hc,ho⟩
    · omega
    · exact⟨mem_ownIds.2 ⟨y,hy,ho,by rw[he]⟩,y,hy,he,hc,ho⟩
  have hτinj:∀x∈H'.os,∀y∈H'.os,τ x.1=τ y.1->x.1=y.1:=fun x hx y hy he=>by
    simp only[τ,cren] at he
    split at he
    · rename_i h1
      split at he
      · rename_i h2;obtain⟨_,x0,hx0,ex,_,ox⟩:=hentry x hx h1;obtain⟨_,y0,hy0,ey,_,oy⟩:=hentry y hy h2;have q:=qu.1 (qu.1 hinj x0 hx0) y0 hy0;simp only[ox,qS,jK,qt,qD,qn,qH,ne_eq] at q;rw[ex,ey] at q;rcases q with q|q
        · exact q
        · exact absurd he q
      · have:=hρ' x.1 h1;omega
    · rename_i h1
      split at he
      · rename_i h2;have:=hρ' y.1 h2;omega
      · omega
  have hp:∀b,b<w.heap.size->¬inW β H (z44 ρ H0.os) b->w'.heap[b]? =w.heap[b]? :=fun b hb hn=>by
    refine hS'.old b hb fun id k o L h _ hbb he=>hn ?_
    by_cases hlt2:id<H0.nxt
    · obtain⟨o0,h1,h2,o1,h3,h4,h5⟩:=hpar id k o h hlt2 L hbb;obtain⟨c,F,hf,hk,rfl⟩:=z1h h1;refine⟨ρ id,k,o1,L,mem_ownIds.2 ⟨_,z1j hf,?_,rfl⟩,h3,h4,h5,he⟩;rw[<-hu _ (z1j hf) k];exact h2
    · have:=hnew id k o h (by omega) L hbb;omega
  --what is looked up in the caller's new knowledge
  have hfr : ∀ id k o, look (renOs τ H'.os ++ dropIds (z44 ρ H0.os) H.os) id k = some o ->
      (∃id0 o0,τ id0=id/\look H'.os id0 k=some o0/\o=o0.ren τ)\/(id∉z44 ρ H0.os/\look H.os id k=some o/\id<H.nxt):=fun id k o h=>by
    rw[look_append] at h
    split at h
    · exact .inl (look_renOs_inv hτinj h)
    · rw[look_dropIds] at h
      split at h
      · cases h
      · exact .inr ⟨by assumption,h,(hS.lt _ _ _ h).1⟩
  have hbk:∀id0 k o0,look H'.os id0 k=some o0->look (renOs τ H'.os++dropIds (z44 ρ H0.os) H.os) (τ id0) k=some (o0.ren τ):=fun id0 k o0 h=>by
    have:=look_renOs hτinj h;rw[look_append];obtain⟨c,F,hf,_⟩:=z1h this;rw[qe (by rw[hf];rfl)];exact this
  have hbk2:∀id k o,id∉z44 ρ H0.os->look H.os id k=some o->look (renOs τ H'.os++dropIds (z44 ρ H0.os) H.os) id k=some o:=fun id k o hn h=>by
    rw[look_append]
    split
    · rename_i hs
      exfalso
      obtain⟨x,hx⟩:=Option.isSome_iff_exists.1 hs;obtain⟨id0,c,F,hm,he,_⟩:=find_renOs hx;have hlt3:=(hS.lt _ _ _ h).1
      by_cases hlt2:id0<H0.nxt
      · have:=(hentry _ hm hlt2).1;have he2:ρ id0=id:=by simpa [τ,cren,hlt2] using he
        rw[he2] at this;exact hn this
      · have he2:id0-H0.nxt+H.nxt=id:=by simpa [τ,cren,hlt2] using he
        omega
    · rw[look_dropIds,qc hn];exact h
  have hτlt:∀id,id<H'.nxt->τ id<H.nxt+(H'.nxt-H0.nxt):=fun id h=>by
    simp only[τ,cren]
    split
    · rename_i h2;have:=hρ' id h2;omega
    · omega
  have hγo:∀id k,id<H.nxt->γ id k=β id k:=fun id k h=>by simp only[γ];rw[qe h]
  have hγn:∀id k,γ (τ id) k=β' id k:=fun id k=>jv (jv hγ id) k;have hblk:∀b,(¬inW β H (z44 ρ H0.os) b)->b<w.heap.size->w'.heap[b]? =w.heap[b]? :=fun b h1 h2=>hp b h2 h1
  have holdW:∀id k o L,id∉z44 ρ H0.os->look H.os id k=some o->β id k=some L->¬inW β H (z44 ρ H0.os) L.blk:=fun id k o L hn h hb ⟨id2,k2,o2,L2,q1,q2,q3,q4,q5⟩=>by
    have:=(hS.sep _ _ _ _ _ _ _ _ q2 h q3 q4 hb q5).1;rw[this] at q1;exact hn q1
  --of a callee's object and an old uQ:the blocks differ
  have hdiff:∀id0 k0 o0 L0,look H'.os id0 k0=some o0->β' id0 k0=some L0->∀id k o L,id∉z44 ρ H0.os->look H.os id k=some o->β id k=some L->L0.blk≠L.blk:=fun id0 k0 o0 L0 h0 hb0 id k o L hn h hb he=>by
    by_cases hlt2:id0<H0.nxt
    · obtain⟨o1,h1,h2,o2,h3,h4,h5⟩:=hpar id0 k0 o0 h0 hlt2 L0 hb0;have:=(hS.sep _ _ _ _ _ _ _ _ h3 h h4 h5 hb he).1;obtain⟨c,F,hf,_,rfl⟩:=z1h h1;refine hn (mem_ownIds.2 ⟨_,z1j hf,?_,this⟩);rw[<-hu _ (z1j hf) k0];exact h2
    · have h1:=hnew id0 k0 o0 h0 (by omega) L0 hb0;have h2:=hS.blk_lt h hb;omega
  --what the callee owns of the caller's,it still has
  have hcov:∀id k o,look H.os id k=some o->id∈z44 ρ H0.os->∃id0,id0<H0.nxt/\ρ id0=id/\∃o2,look H'.os id0 k=some o2:=fun id k o h hm=>by
    obtain⟨⟨xi,xc,xF⟩,hx,hxo,hxe⟩:=mem_ownIds.1 hm;have hc:=hcnt _ hx hxo;obtain⟨c,F,hf,hk,rfl⟩:=z1h h;simp only at hxe;simp only[hxe,hf,jj,Qx] at hc;have hfx:find H0.os xi=some (xc,xF):=find_of_mem hnd hx;have hl1:look H0.os xi k=some (xF k):=(zy hfx (by omega)).trans (Obj.opt_of fun e=>by have:=hu _ hx k;simp only at this hxo;rw[e,hxo] at this;cases this);obtain⟨hlt3,o2,hl2,_⟩:=hS'.keep xi k ⟨_,hl1,by have:=hu _ hx k;simp only at this hxo;rw[this];exact hxo⟩;exact⟨xi,hlt3,hxe,o2,hl2⟩
  refine⟨v,rfl,⟨γ,s0.ren τ,after H0.nxt ρ H0 H H',⟨s0,H',hR,rfl,rfl⟩,?_,?_,?_,hag,?_,?_⟩,⟨hS'.size,fun b h1 h2=>hp b h1 h2⟩⟩
  · rw[z4p,hγ];exact hds
  · exact lt_ren hτlt s0 hsl
  · refine⟨hS'.os.trans hS.os,hS'.tape.trans hS.tape,hS'.output.trans hS.output,qR hS.size hS'.size,fun id k h=> ?_,fun id k o h=> ?_,fun id k id' k' o o' L L' h h' ho hb hb' he=> ?_,fun b hb hn=> ?_,fun id k o L h ho hb=> ?_,fun id k ho=> ?_,?_,fun id k o h=> ?_,hS.tabs,qR hS.drawn hS'.drawn⟩
    · have:=hS.m0;rw[hγo id k (by omega)];exact hS.fix id k h
    · rcases hfr _ _ _ h with⟨id0,o0,rfl,h1,rfl⟩|⟨hn,h1,hlt2⟩
      · rw[hγn];exact Obj.ren_holds (by rw[hγ];exact hS'.holds _ _ _ h1)
      · rw[hγo id k hlt2];have:=((hS.holds _ _ _ h1).agree hag (hS.lt _ _ _ h1).2);exact this.mono hS'.size fun L hL hl=>hp _ hl (holdW _ _ _ _ hn h1 hL)
    · rcases hfr _ _ _ h with⟨id0,o0,rfl,h1,rfl⟩|⟨hn,h1,hlt2⟩
      · rw[hγn] at hb;rcases hfr _ _ _ h' with⟨id0',o0',rfl,h1',rfl⟩|⟨hn',h1',hlt2'⟩
        · rw[hγn] at hb';have:=hS'.sep _ _ _ _ _ _ _ _ h1 h1' (hown' _ _ _ h1) hb hb' he;exact⟨by rw[this.1],this.2⟩
        · rw[hγo _ _ hlt2'] at hb';exact absurd he (hdiff _ _ _ _ h1 hb _ _ _ _ hn' h1' hb')
      · rw[hγo _ _ hlt2] at hb;rcases hfr _ _ _ h' with⟨id0',o0',rfl,h1',rfl⟩|⟨hn',h1',hlt2'⟩
        · rw[hγn] at hb';exact absurd he.symm (hdiff _ _ _ _ h1' hb' _ _ _ _ hn h1 hb)
        · rw[hγo _ _ hlt2'] at hb';exact hS.sep _ _ _ _ _ _ _ _ h1 h1' ho hb hb' he
    · have hbw:b<w.heap.size:=Qc hb hS.size
      have hno:∀id k o L,look H.os id k=some o->o.own=true->β id k=some L->L.blk≠b:=fun id k o L h ho hbb he=>by
        have hlt2:=(hS.lt _ _ _ h).1
        by_cases hm:id∈z44 ρ H0.os
        · obtain⟨id0,h1,h2,o2,h3⟩:=hcov id k o h hm
          have hb2:β' id0 k=some L:=by
            rw[hS'.fix id0 k h1]
            show β (ρ id0) k=some L
            rw[h2];exact hbb
          refine hn _ _ _ L (hbk _ _ _ h3) ?_ (by rw[hγn];exact hb2) he;rw[Obj.ren_own];exact hown' _ _ _ h3
        · exact hn _ _ _ L (hbk2 _ _ _ hm h) ho (by rw[hγo _ _ hlt2];exact hbb) he
      rw[hp b hbw (fun⟨id2,k2,o2,L2,q1,q2,q3,q4,q5⟩=>hno _ _ _ _ q2 q3 q4 q5)];exact hS.old b hb hno
    · rcases hfr _ _ _ h with⟨id0,o0,rfl,h1,rfl⟩|⟨hn,h1,hlt2⟩
      · rw[hγn] at hb
        by_cases hlt2:id0<H0.nxt
        · obtain⟨o1,q1,q2,o2,q3,q4,q5⟩:=hpar id0 k o0 h1 hlt2 L hb;have he:τ id0=ρ id0:=by simp[τ,cren,hlt2]
          rw[he];exact hS.mine _ _ _ _ q3 q4 q5
        · have h3:=hnew id0 k o0 h1 (by omega) L hb;have he:τ id0=id0-H0.nxt+H.nxt:=by simp[τ,cren,hlt2]
          have:=hS.m0;have:=hS.size;exact .inr ⟨by rw[he];omega,by omega⟩
      · rw[hγo _ _ hlt2] at hb;exact hS.mine _ _ _ _ h1 ho hb
    · obtain⟨h1,o,h2,h3⟩:=hS.keep id k ho;refine⟨h1,?_⟩
      by_cases hm:id∈z44 ρ H0.os
      · obtain⟨id0,h4,h5,o2,h6⟩:=hcov id k o h2 hm;have he:τ id0=id:=by simp[τ,cren,h4,h5]
        exact⟨_,he ▸ hbk _ _ _ h6,by rw[Obj.ren_own];exact hown' _ _ _ h6⟩
      · exact⟨o,hbk2 _ _ _ hm h2,h3⟩
    · have:=hS.m0
      show X.m0<=H.nxt+_
      omega
    · rcases hfr _ _ _ h with⟨id0,o0,rfl,h1,rfl⟩|⟨hn,h1,hlt2⟩
      · have:=hS'.lt _ _ _ h1;exact⟨hτlt _ this.1,Obj.ren_lt hτlt this.2⟩
      · have:=hS.lt _ _ _ h1;refine⟨by show id<H.nxt+_;omega,?_⟩
        cases o with
        |row r=>exact fun i j s hi hs=>SV.lt_mono (by show H.nxt<=H.nxt+_;omega) s (this.2 i j s hi hs)
        |blk _ _=>trivial
        |gone=>trivial
        |mapo _ M=>exact⟨SV.lt_mono (by show H.nxt<=H.nxt+_;omega) _ this.2.1,fun v=>SV.lt_mono (by show H.nxt<=H.nxt+_;omega) _ (this.2.2 v)⟩
  · show H.nxt<=H.nxt+_
    omega
  · intro id k o hlt2 h ho;rcases hfr _ _ _ h with⟨id0,o0,he,h1,rfl⟩|⟨hn,h1,_⟩
    · by_cases hlt3:id0<H0.nxt
      · obtain⟨c,F,hf,hk,rfl⟩:=z1h h1;obtain⟨_,⟨yi,yc,yF⟩,hy,hy1,hy2,hy3⟩:=hentry _ (z1j hf) hlt3;simp only at hy1 hy2 hy3;have hfy:find H0.os yi=some (yc,yF):=find_of_mem hnd hy;have hly:look H0.os yi k=some (yF k):=(zy hfy (by omega)).trans (Obj.opt_of fun e=>by have:=hu _ hy k;simp only at this;rw[e,hy3] at this;cases this);obtain⟨_,_,o1,q1,q2⟩:=hg.look hly;have he2:ρ id0=id:=by simpa [τ,cren,hlt3] using he
        rw[hy1,he2] at q1;exact⟨o1,q1,z4t q2 (by have:=hu _ hy k;simp only at this;rw[this];exact hy3)⟩
      · have he2:id0-H0.nxt+H.nxt=id:=by simpa [τ,cren,hlt3] using he
        omega
    · exact⟨o,h1,ho⟩
section
section
variable {P:Program} {wr G dr:Bool} {m0:Nat} {W Wq:List Nat} {H:AH} {fr:Fr} {ops:Array Oper}
@[congr] theorem opdK_c {x:Operand} {k:SV->Prop}:z5k fr G x k=z5k fr G x k:=rfl
@[congr] theorem opdsK_c {x:List Operand} {k:List SV->Prop}:opdsK fr G x k=opdsK fr G x k:=rfl
@[congr] theorem partsK_c {x:List (Nat×Operand)} {k:List (Nat×SV)->Prop}:partsK fr G x k=partsK fr G x k:=rfl
@[congr] theorem optK_c {x:Option Operand} {k:Option SV->Prop}:optK fr G x k=optK fr G x k:=rfl
@[congr] theorem qop_c {op:Op} {k:SV->Prop}:qop P wr dr H W fr G op k=qop P wr dr H W fr G op k:=rfl
@[congr] theorem eop_c {op:Op} {k:SV->AH->Prop}:eop P m0 dr W H fr op k=eop P m0 dr W H fr op k:=rfl
@[congr] theorem stp_c {o:Oper} {K:Fr->AH->Prop}:stp P wr m0 dr W Wq ops o fr H K=stp P wr m0 dr W Wq ops o fr H K:=rfl
@[congr] theorem runL_c {l:List Oper} {K:Fr->AH->Prop}:runL P wr m0 ops l fr H K=runL P wr m0 ops l fr H K:=rfl
@[congr] theorem runO_c {W U:List (List Nat)} {l:List (Nat×Oper)} {K:Fr->AH->Prop}:runO P wr m0 W U ops l fr H K=runO P wr m0 W U ops l fr H K:=rfl
@[congr] theorem grdK_c {g:Nat×Bool} {k:Bool->Prop}:grdK ops fr g k=grdK ops fr g k:=rfl
@[congr] theorem loadK_c {t:TypeId} {s:SV} {k:SV->Prop}:loadK P H W G t s k=loadK P H W G t s k:=rfl
@[congr] theorem binK_c {op:BinOp} {t:TypeId} {x y:SV} {k:SV->Prop}:binK P wr G op t x y k=binK P wr G op t x y k:=rfl
@[congr] theorem binII_c {op:BinOp} {kd kd':IntKind} {a b:Int} {k:SV->Prop}:binII wr G op kd a kd' b k=binII wr G op kd a kd' b k:=rfl
@[congr] theorem binBB_c {op:BinOp} {t:TypeId} {a b:Bool} {k:SV->Prop}:binBB P G op t a b k=binBB P G op t a b k:=rfl
@[congr] theorem binAA_c {op:BinOp} {t:TypeId} {a b:List SV} {k:SV->Prop}:binAA P G op t a b k=binAA P G op t a b k:=rfl
@[congr] theorem intK_c {op:BinOp} {kd:IntKind} {a b:Int} {k:SV->Prop}:intK wr G op kd a b k=intK wr G op kd a b k:=rfl
@[congr] theorem arithK_c {kd:IntKind} {a:Int} {k:SV->Prop}:arithK wr G kd a k=arithK wr G kd a k:=rfl
@[congr] theorem shiftK_c {op:BinOp} {kd:IntKind} {a b:Int} {k:SV->Prop}:shiftK G op kd a b k=shiftK G op kd a b k:=rfl
@[congr] theorem strK_c {op:BinOp} {a b:ByteArray} {k:SV->Prop}:strK G op a b k=strK G op a b k:=rfl
@[congr] theorem unK_c {op:UnOp} {s:SV} {k:SV->Prop}:unK wr G op s k=unK wr G op s k:=rfl
@[congr] theorem convX_c {t t':TypeId} {s:SV} {k:SV->Prop}:convX P H W wr dr G t t' s k=convX P H W wr dr G t t' s k:=rfl
@[congr] theorem bstrK_c {t t':TypeId} {s:SV} {k:SV->Prop}:bstrK P H W dr G t t' s k=bstrK P H W dr G t t' s k:=rfl
@[congr] theorem convK_c {t t':TypeId} {s:SV} {k:SV->Prop}:convK P wr G t t' s k=convK P wr G t t' s k:=rfl
@[congr] theorem faddrK_c {t:TypeId} {f:Nat} {s:SV} {k:SV->Prop}:faddrK P G t f s k=faddrK P G t f s k:=rfl
@[congr] theorem fieldK_c {t:TypeId} {f:Nat} {s:SV} {k:SV->Prop}:fieldK P G t f s k=fieldK P G t f s k:=rfl
@[congr] theorem partK_c {l:List SV} {x:Option (Nat×Option Bool×Nat)} {k:SV->Prop}:partK G l x k=partK G l x k:=rfl
@[congr] theorem iaddrK_c {t:TypeId} {s i:SV} {k:SV->Prop}:iaddrK P H G t s i k=iaddrK P H G t s i k:=rfl
@[congr] theorem indexK_c {t:TypeId} {s i:SV} {k:SV->Prop}:indexK P G t s i k=indexK P G t s i k:=rfl
@[congr] theorem sliceK_c {t:TypeId} {s:SV} {a b c:Option SV} {k:SV->Prop}:sliceK P H G t s a b c k=sliceK P H G t s a b c k:=rfl
@[congr] theorem bndK_c {x:Option SV} {d:Nat} {k:Nat->Prop}:bndK G x d k=bndK G x d k:=rfl
@[congr] theorem lenK_c {t:TypeId} {s:SV} {k:SV->Prop}:lenK P dr H W G t s k=lenK P dr H W G t s k:=rfl
@[congr] theorem mmK_c {f:Int->Int->Int} {l:List SV} {k:SV->Prop}:mmK f l k=mmK f l k:=rfl
@[congr] theorem buildK_c {t:TypeId} {l:List (Nat×SV)} {k:SV->Prop}:buildK P G t l k=buildK P G t l k:=rfl
@[congr] theorem allocK_c {t:TypeId} {k:SV->AH->Prop}:allocK P H t k=allocK P H t k:=rfl
@[congr] theorem boxK_c {t:TypeId} {s:SV} {k:SV->AH->Prop}:boxK H t s k=boxK H t s k:=rfl
@[congr] theorem bsliceK_c {t:TypeId} {n:Nat} {l:List (Nat×SV)} {k:SV->AH->Prop}:bsliceK P H t n l k=bsliceK P H t n l k:=rfl
@[congr] theorem storeK_c {t:TypeId} {a b:SV} {k:SV->AH->Prop}:storeK P H dr W t a b k=storeK P H dr W t a b k:=rfl
@[congr] theorem mkK_c {t:TypeId} {a b:SV} {k:SV->AH->Prop}:mkK P H t a b k=mkK P H t a b k:=rfl
@[congr] theorem mmapK_c {t:TypeId} {k:SV->AH->Prop}:mmapK P H t k=mmapK P H t k:=rfl
@[congr] theorem mputK_c {t:TypeId} {a b c:SV} {k:SV->AH->Prop}:mputK P H dr W t a b c k=mputK P H dr W t a b c k:=rfl
@[congr] theorem mlookK_c {t:TypeId} {a b:SV} {ok:Bool} {k:SV->AH->Prop}:mlookK P H t a b ok k=mlookK P H t a b ok k:=rfl
@[congr] theorem srcK_c {n:Nat} {a:SV} {k:Nat->(Nat->List SV)->Prop}:srcK H n a k=srcK H n a k:=rfl
@[congr] theorem appendK_c {t t':TypeId} {a b:SV} {k:SV->AH->Prop}:appendK P m0 dr W H t t' a b k=appendK P m0 dr W H t t' a b k:=rfl
@[congr] theorem callK_c {f:FuncId} {l:List SV} {k:SV->AH->Prop}:callK P f l H dr W k=callK P f l H dr W k:=rfl
@[congr] theorem resK_c {l:List ResultVar} {k:List SV->Prop}:resK P H fr l k=resK P H fr l k:=rfl
end
def prune (keep:List Nat)(fr:Fr):Fr:=
 match keep with
 |[]=>[]
 |t::l=>match get fr t with
  |some s=>(t,s)::prune l fr
  |none=>prune l fr
def prune_get:∀{keep:List Nat} {fr:Fr} {t:Nat} {s:SV},get (prune keep fr) t=some s->get fr t=some s
 |[],_,_,_,h=>by simp[prune,get] at h
 |u::l,fr,t,s,h=>by
  unfold prune at h
  split at h
  ·rename_i s0 hs0;simp only[get] at h
   split at h
   ·rename_i he
    cases h;subst he
    exact hs0
   ·exact prune_get h
  ·exact prune_get h
def At.prune {X:Cx}{K:Fr->AH->Prop}{keep:List Nat}{a:Act}{w:World}(h:At X (fun fr H=>K (prune keep fr) H) a w):At X K a w:=by
 obtain⟨β,fr,H,h1,h2,h3⟩:=h;exact⟨β,_,H,h1,⟨h2.defers,h2.size,fun t s hs=>h2.get t s (prune_get hs)⟩,h3⟩
section
variable {X:Cx} {Q:Exit->Fr->AH->Prop} {fr:Fr} {H:AH}
def Cw.reg {id:Nat}{l:List Oper}(keep:List Nat)(hd:dstOk X.n l=true)(h:runL X.P X.wrap X.m0 l.toArray l fr H (fun fr H=>Q .normal (prune keep fr) H)):Cw X (.region id l.toArray false) Q fr H:=fun _ _ _ hF hS=>
 wp_region_list (by simpa using runL_ok (Q:=lift X Q) (fun _ _ h=>At.prune (K:=Q .normal) h) _ hd hS hF h)
def Cw.conv {c:Code}{Q':Exit->Fr->AH->Prop}(h:Cw X c Q fr H)(hq:∀e a w,lift X Q e a w->lift X Q' e a w):Cw X c Q' fr H:=fun β a w hF hS=>Jr hq (h β a w hF hS)
def Cw.regDraw {id:Nat}{l:List Oper}(keep ord:List Nat)(A W U:List (List Nat))(l':List (Nat×Oper))(hm:X.P.follows .mixedOrders=true)
  (hd:dstOk X.n l=true) (hlen:ord.length=l.length) (hlt:ord.all (fun i=>decide (i<l.length))=true) (hns:Region.noSelect l.toArray=true) (hA:afterOk l.toArray A=true) (hE:effOk l.toArray A W U=true) (hWn:W.all (fun l=>l.all fun i=>decide (i<H.nxt))=true)
  (hl':(ord.map fun i=>(i,l.toArray.getD i default))=l')
  (hs:sched l.toArray l' (Array.replicate l.length false) false=true)
  (h:runO X.P X.wrap X.m0 W U l.toArray l' fr H (fun fr H=>Q .normal (prune keep fr) H)):Cw X (.region id l.toArray true) Q fr H:=by
 subst hl';refine Cw.conv (Cw.regionDraw (Q:=fun e fr H=>match e with| .normal=>Q .normal (prune keep fr) H|e=>Q e fr H) ord A W U hm (by simpa using hd) (by simpa using hlen) (by simpa using hlt) hns hA hE hWn (by simpa using hs) h) ?_;intro e a w hh
 cases e with
 |normal=>exact At.prune (K:=Q .normal) hh
 |_=>exact hh
end
def zj.ofN {P:Program}{f:FuncId}{fn:Func}{c:Code}{args:List SV}{H0:AH}{R:SV->AH->Prop}(wr:Bool)(n:Nat)(rs:List ResultVar)(hf:P.funcs[f]? =some fn)(hb:fn.body=some c)(hn:(fn.name== "runtime.NumGoroutine")=false)(hnt:fn.ntmps=n)(hrs:fn.results=rs.toArray)(ha:Nat.ble args.length n=true)
  (h:∀w0 own0 β0,Cw ⟨P,n,w0,own0,H0.nxt,β0,wr⟩ c (PostF ⟨P,n,w0,own0,H0.nxt,β0,wr⟩ H0 rs R) (argFr 0 args) H0):zj P f args H0 R:=by
 subst hnt;refine zj.of wr hf hb hn (qb ha) fun w0 own0 β0=> ?_;have:fn.results.toList=rs:=by rw[hrs]
 rw[this];exact h w0 own0 β0
end
section
mutual
def ren_id:∀s:SV,s.ren id=s
 |.agg l=>by simp only[SV.ren,renL_id l]
 |.tup l=>by simp only[SV.ren,renL_id l]
 |.fn f l=>by simp only[SV.ren,renL_id l]
 |.gd g s=>by simp only[SV.ren,ren_id s]
 |.ifc t s=>by simp only[SV.ren,ren_id s]
 |.ptr .. | .slc .. | .mp .. | .int .. | .bool _| .str _| .nilp| .nils| .nilfn| .raw _=>rfl
def renL_id:∀l:List SV,SV.renL id l=l
 |[]=>rfl
 |s::l=>by simp only[SV.renL,ren_id s,renL_id l]
end
def ltL_iff {m:Nat}:∀{l:List SV},SV.ltL m l↔∀(j:Nat) (s:SV),l[j]? =some s->s.lt m
 |[]=>by simp[SV.ltL]
 |a::l=>by
  simp only[SV.ltL,ltL_iff (l:=l)]
  constructor
  ·rintro⟨h1,h2⟩ j s hj
   cases j with
   |zero=>simp at hj;subst hj;exact h1
   |succ j=>exact h2 j s (by simpa using hj)
  ·intro h;exact⟨h 0 a (by simp),fun j s hj=>h (j+1) s (by simpa using hj)⟩
def Obj.lt_row {m:Nat}{r:Row}:(Obj.row r).lt m↔∀i,i<r.n->SV.ltL m (r.f i):=by
 simp only[Obj.lt,ltL_iff];exact⟨fun h i hi j s hs=>h i j s hi hs,fun h i j s hi hs=>h i hi j s hs⟩
def Cs (X:Cx):List Code->(Exit->Fr->AH->Prop)->Fr->AH->Prop
 |[],Q,fr,H=>Q .normal fr H
 |c::l,Q,fr,H=>Cw X c (thenK (fun fr H=>Cs X l Q fr H) Q) fr H
section
variable {X:Cx} {Q:Exit->Fr->AH->Prop} {fr:Fr} {H:AH} {l:List Code}
def Cs.one {c:Code}(h:Cs X [c] Q fr H):Cw X c Q fr H:=Cw.mono h fun e _ _ hh=>by cases e<;>exact hh
def z6 {x y:Code}(h:Cs X (x::y::l) Q fr H):Cs X (.seq x y::l) Q fr H:=Cw.seq fun _ hK=>Cw.mono h fun e fr H hh=>by
 cases e with
 |normal=>exact hK fr H hh
 |_=>exact hh
def zb (h:Q .ret fr H):Cs X (.ret::l) Q fr H:=Cw.ret h
def zk {id:Nat}(h:Q (.exit id) fr H):Cs X (.exit id::l) Q fr H:=Cw.exit h
def z7 (h:Cs X l Q fr H):Cs X (.skip::l) Q fr H:=Cw.skip h
def za (h:Q .normal fr H):Cs X [] Q fr H:=h
def Cs.cond {t:Tmp}{x y:Code}(b:Bool)(hb:get fr t=some (.bool b))(h1:b=true->Cs X (x::l) Q fr H)(h2:b=false->Cs X (y::l) Q fr H):Cs X (.cond (.tmp t) x y::l) Q fr H:=Cw.cond hb h1 h2
def z3v {id:Nat}{ops:List Oper}(keep:List Nat)(hd:dstOk X.n ops=true)(h:∀K:Fr->AH->Prop,(∀fr H,Cs X l Q fr H->K fr H)->runL X.P X.wrap X.m0 ops.toArray ops fr H (fun fr H=>K (prune keep fr) H)):Cs X (.region id ops.toArray false::l) Q fr H:=
 Cw.reg keep hd (h _ fun _ _ h=>h)
def runI (P:Program)(wr:Bool)(m0:Nat)(W U:List (List Nat))(ops:Array Oper)(L:List Oper):List Nat->Fr->AH->(Fr->AH->Prop)->Prop
 |[],fr,H,K=>K fr H
 |i::l,fr,H,K=>match L[i]? with
  |some o=>stp P wr m0 true (W.getD i []) (U.getD i []) ops o fr H (fun fr' H'=>runI P wr m0 W U ops L l fr' H' K)
  |none=>False
@[congr] theorem runI_c {P:Program} {wr:Bool} {m0:Nat} {W U:List (List Nat)} {ops:Array Oper} {L:List Oper} {o:List Nat} {fr:Fr} {H:AH} {K:Fr->AH->Prop}:runI P wr m0 W U ops L o fr H K=runI P wr m0 W U ops L o fr H K:=rfl
def runI_runO {P:Program}{wr:Bool}{m0:Nat}{W U:List (List Nat)}{L:List Oper}:∀{o:List Nat} (_:∀i∈o,i<L.length) {fr:Fr} {H:AH} {K:Fr->AH->Prop},runI P wr m0 W U L.toArray L o fr H K=runO P wr m0 W U L.toArray (o.map fun i=>(i,L.toArray.getD i default)) fr H K
 |[],_,_,_,_=>rfl
 |i::l,h,fr,H,K=>by
  have hi:i<L.length:=h i (qo ..);have h1:L[i]? =some L[i]:=by simp[hi]
  have h2:L.toArray.getD i default=L[i]:=by simp[QY,hi]
  simp only[runI,h1,q8,runO,h2]
  have:(fun fr' H'=>runI P wr m0 W U L.toArray L l fr' H' K)=fun fr' H'=>runO P wr m0 W U L.toArray (l.map fun i=>(i,L.toArray.getD i default)) fr' H' K:=by
   funext fr' H'
   exact runI_runO (fun i hi=>h i (qp _ hi))
  rw[this]
def z1b {P:Program}{wr:Bool}{m0:Nat}{dr:Bool}{W Wq:List Nat}{ops:Array Oper}{o:Oper}{fr:Fr}{H:AH}{K:Fr->AH->Prop}{g:Nat×Bool}(ho:o.guard=some g)(hq:isQ o.op=false)
  (h:grdK ops fr g fun G=>(G=true->eop P m0 dr W H fr o.op (fun s H'=>K (put o.dst s fr) H'))/\(G=false->∃s,K (put o.dst (.gd false s) fr) H)):stp P wr m0 dr W Wq ops o fr H K:=by
 unfold stp;rw[ho];simp only[hq,qz,↓reduceIte];exact h
def z15 {a:Bool}{p q:Prop}(h1:a=true->p)(h2:a=false->q):(a=true->p)/\(a=false->q):=⟨h1,h2⟩
def z13 {P:Program}{wr:Bool}{m0:Nat}{ops:Array Oper}{o:Oper}{l:List Oper}{fr:Fr}{H:AH}{K:Fr->AH->Prop}(h:stp P wr m0 false [] [] ops o fr H (fun fr' H'=>runL P wr m0 ops l fr' H' K)):runL P wr m0 ops (o::l) fr H K:=h
def zr {P:Program}{wr:Bool}{m0:Nat}{ops:Array Oper}{fr:Fr}{H:AH}{K:Fr->AH->Prop}(h:K fr H):runL P wr m0 ops [] fr H K:=h
def runI_cons {P:Program}{wr:Bool}{m0:Nat}{W U:List (List Nat)}{ops:Array Oper}{L:List Oper}{i:Nat}{l:List Nat}{fr:Fr}{H:AH}{K:Fr->AH->Prop}(o:Oper)(w1 w2:List Nat)(hi:L[i]? =some o)(hw1:W.getD i []=w1)(hw2:U.getD i []=w2)(h:stp P wr m0 true w1 w2 ops o fr H (fun fr' H'=>runI P wr m0 W U ops L l fr' H' K)):runI P wr m0 W U ops L (i::l) fr H K:=by
 subst hw1 hw2;simp only[runI,hi];exact h
def z5a {P:Program}{wr:Bool}{m0:Nat}{ops:Array Oper}{l:List Oper}{t:Nat}{z:Bool}{fr:Fr}{H:AH}{K:Fr->AH->Prop}(h:∀b,z=b->runL P wr m0 ops l ((t,.bool b)::fr) H K):runL P wr m0 ops l ((t,.bool z)::fr) H K:=h z rfl
def zz {P:Program}{wr:Bool}{m0:Nat}{W U:List (List Nat)}{ops:Array Oper}{L:List Oper}{fr:Fr}{H:AH}{K:Fr->AH->Prop}(h:K fr H):runI P wr m0 W U ops L [] fr H K:=h
def Cs.regDraw {id:Nat}{ops:List Oper}(keep ord:List Nat)(A W U:List (List Nat))(hm:X.P.follows .mixedOrders=true)
  (hd:dstOk X.n ops=true) (hlen:ord.length=ops.length) (hlt:ord.all (fun i=>decide (i<ops.length))=true) (hns:Region.noSelect ops.toArray=true) (hA:afterOk ops.toArray A=true) (hE:effOk ops.toArray A W U=true) (hWn:W.all (fun l=>l.all fun i=>decide (i<H.nxt))=true)
  (hs:sched ops.toArray (ord.map fun i=>(i,ops.toArray.getD i default)) (Array.replicate ops.length false) false=true)
  (h:∀K:Fr->AH->Prop,(∀fr H,Cs X l Q fr H->K fr H)->runI X.P X.wrap X.m0 W U ops.toArray ops ord fr H (fun fr H=>K (prune keep fr) H)):Cs X (.region id ops.toArray true::l) Q fr H:=
 Cw.regDraw keep ord A W U _ hm hd hlen hlt hns hA hE hWn rfl hs (by
  rw[<-runI_runO (fun i hi=>by simpa using qu.1 hlt i hi)]
  exact h _ fun _ _ h=>h)
def z8 {id:Nat}{c:Code}(h:∀Q':Exit->Fr->AH->Prop,(∀fr H,Cs X l Q fr H->Q' .normal fr H)->(∀fr H,Cs X l Q fr H->Q' (.exit id) fr H)->(∀fr H,Q .ret fr H->Q' .ret fr H)->(∀i fr H,i≠id->Q (.exit i) fr H->Q' (.exit i) fr H)->Cs X [c] Q' fr H):Cs X (.block id c::l) Q fr H:=by
 refine Cw.block (Cs.one (h _ (fun _ _ h=>h) (fun _ _ h=> ?_) (fun _ _ h=>h) fun i _ _ hi h=> ?_))
 ·simp only[inBlk,↓reduceIte];exact h
 ·simp only[inBlk,qc hi];exact h
def zl {σ:Type}{c:Code}(I:σ->Prop)(μ:σ->Nat)(F:σ->Fr)(G:σ->AH)(s0:σ)(h0:I s0){ρ:Nat->Nat}(hg:z4h X ρ fr H (F s0) (G s0))
  (round:∀s,I s->∀Q':Exit->Fr->AH->Prop,(∀fr' H',(∃s',(I s'/\μ s'<μ s)/\∃ρ,z4h X ρ fr' H' (F s') (G s'))->Q' .normal fr' H')->(∀fr H,Q .ret fr H->Q' .ret fr H)->(∀i fr H,Q (.exit i) fr H->Q' (.exit i) fr H)->Cs X [c] Q' (F s) (G s)):Cs X (.loop c::l) Q fr H:=
 Cw.loop I μ F G s0 h0 hg fun s hs=>Cs.one (round s hs _ (fun _ _ ⟨s',⟨h1,h2⟩,h3⟩=>⟨s',h1,h2,h3⟩) (fun _ _ h=>h) fun _ _ _ h=>h)
end
section
variable {X:Cx} {Q:Exit->Fr->AH->Prop} {fr:Fr} {H:AH} {l:List Code}
def Cs.give {c:Code}{fr':Fr}{H':AH}(ρ:Nat->Nat)(hg:z4h X ρ fr H fr' H')(h:Cs X (c::l) Q fr' H'):Cs X (c::l) Q fr H:=Cw.weaken hg h
def z2f {c:Code}(t:Nat)(e:TypeId)(sz:Nat)(f:Nat->List SV)(hn:get fr t=some .nils)(h:Cs X (c::l) Q ((t,.slc true H.nxt 0 0 0)::fr) ⟨H.nxt+1,(H.nxt,uQ (.row ⟨true,false,e,sz,0,f⟩))::H.os⟩):Cs X (c::l) Q fr H:=fun β a w hF hS=>by
 have hag:=Env.agree_set β H.nxt (fun _=>none);refine h (β.set H.nxt fun _=>none) a w ?_ ?_
 ·have hF':=hF.agree (QH H.nxt) hag;refine⟨hF.defers,hF.size,fun u s hs=> ?_⟩;simp only[get] at hs
  split at hs
  ·rename_i he;subst he
   cases hs
   obtain⟨_,v,h1,h2⟩:=hF.get _ _ hn;simp only[den] at h2;refine⟨Qp _,v,h1,?_⟩;simp only[den,z56,↓reduceIte];exact .inl ⟨by unfold Env.set;rw[qe rfl],trivial,trivial,h2⟩
  ·exact hF'.get u s hs
 ·refine St.new' hS (fun k L _ hq=>by cases hq) (fun k k' L L' _ _ hq _ _=>by cases hq) (fun k _=> ?_) (fun k _=> ?_)
  ·exact .inl ⟨rfl,rfl⟩
  ·exact Obj.lt_row.2 fun i hi=>absurd hi (qI _)
def Cs.meet {σ:Type}{t:Tmp}{x y c:Code}(I:σ->Prop)(F:σ->Fr)(G:σ->AH)(b:Bool)(hb:get fr t=some (.bool b))
  (h1:b=true->∀Q':Exit->Fr->AH->Prop,(∀fr' H',(∃s,I s/\∃ρ,z4h X ρ fr' H' (F s) (G s))->Q' .normal fr' H')->(∀fr H,Q .ret fr H->Q' .ret fr H)->(∀i fr H,Q (.exit i) fr H->Q' (.exit i) fr H)->Cs X [x] Q' fr H)
  (h2:b=false->∀Q':Exit->Fr->AH->Prop,(∀fr' H',(∃s,I s/\∃ρ,z4h X ρ fr' H' (F s) (G s))->Q' .normal fr' H')->(∀fr H,Q .ret fr H->Q' .ret fr H)->(∀i fr H,Q (.exit i) fr H->Q' (.exit i) fr H)->Cs X [y] Q' fr H)
  (h3:∀s,I s->Cs X (c::l) Q (F s) (G s)):Cs X (.cond (.tmp t) x y::c::l) Q fr H:=by
 have key:∀fr' H',(∃s,I s/\∃ρ,z4h X ρ fr' H' (F s) (G s))->Cs X (c::l) Q fr' H':=fun fr' H' ⟨s,hs,ρ,hg⟩=>Cs.give ρ hg (h3 s hs);exact Cw.cond hb (fun e=>Cs.one (h1 e _ key (fun _ _ h=>h) fun _ _ _ h=>h)) (fun e=>Cs.one (h2 e _ key (fun _ _ h=>h) fun _ _ _ h=>h))
mutual
def SV.wk:SV->SV->Prop
 |.slc true id k o n,.slc false id' k' o' n'=>id=id'/\k=k'/\o=o'/\n=n'
 |.nils,.slc false _ _ _ n=>n=0
 |.agg l,.agg r=>l=r\/SV.wkL l r
 |a,b=>a=b
def SV.wkL:List SV->List SV->Prop
 |[],[]=>True
 |a::l,b::r=>SV.wk a b/\SV.wkL l r
 |_,_=>False
end
mutual
def SV.wk_den {β:Env}:∀{a b:SV} {v:Value},SV.wk a b->den β a v->den β b v:=by
 intro a b v h hd;unfold SV.wk at h
 split at h
 ·obtain⟨rfl,rfl,rfl,rfl⟩:=h;simp only[den,z56,↓reduceIte,qz] at hd ⊢;rcases hd with⟨h1,h2,h3,h4⟩|⟨L,c,h1,h2,h3,h4,_,h5⟩
  ·exact⟨none,0,by rw[h4,h2],by omega,fun h=>by omega⟩
  ·exact⟨_,_,h5,h4,fun _=>⟨L,h1,by rw[h2,h3];simp⟩⟩
 ·subst h;simp only[den,z56,↓reduceIte,qz] at hd ⊢;exact⟨none,0,hd,qd _,fun h=>by omega⟩
 ·rename_i l r;rcases h with h|h
  ·rw[<-h];exact hd
  ·simp only[den] at hd ⊢;obtain⟨vs,h1,h2⟩:=hd;exact⟨vs,SV.wkL_den h h1,h2⟩
 ·subst h;exact hd
def SV.wkL_den {β:Env}:∀{l r:List SV} {vs:List Value},SV.wkL l r->z2u β l vs->z2u β r vs
 |[],[],_,_,h=>h
 |a::l,b::r,vs,h,hd=>by
  simp only[SV.wkL] at h;simp only[z2u] at hd ⊢;obtain⟨v,vs',h1,h2,h3⟩:=hd;exact⟨v,vs',SV.wk_den h.1 h1,SV.wkL_den h.2 h2,h3⟩
 |[],_::_,_,h,_=>by simp[SV.wkL] at h
 |_::_,[],_,h,_=>by simp[SV.wkL] at h
end
def callK_of {P:Program}{f:FuncId}{args args0:List SV}{H0 H:AH}{R:SV->AH->Prop}{dr:Bool}{W:List Nat}{k:SV->AH->Prop}(hF:zj P f args0 H0 R)(ρ:Nat->Nat)
  (hw:SV.wkL args (SV.renL ρ args0)) (hl1:SV.ltL H.nxt (SV.renL ρ args0)) (hl0:SV.ltL H0.nxt args0) (hρ:(List.range H0.nxt).all (fun id=>decide (ρ id<H.nxt))=true) (hg:z5o ρ H0.nxt H.os H0.os) (hinj:injB ρ H0.os=true) (hu:ownU H0.os)
  (hnd:(H0.os.map (·.1)).Nodup) (hcnt:∀x∈H0.os,(x.2.2 0).own=true->(find H.os (ρ x.1)).map (·.1)=some x.2.1)
  (hW:dr=true->(z44 ρ H0.os).all (fun id=>W.contains id)=true)
  (hk:∀s0 H',R s0 H'->∀s1 H1,s1=s0.ren (cren H0.nxt H.nxt ρ)->H1=after H0.nxt ρ H0 H H'->k s1 H1):callK P f args H dr W k:=by
 refine⟨_,_,fun X β w vs hP hS hd hlt=>zj.call hF ρ hl0 hρ hg hinj hu hnd hcnt X β w vs hP hS (SV.wkL_den hw hd) hl1,fun h id hid=>by simpa using qu.1 (hW h) id hid,?_⟩;rintro s H'' ⟨s0,H',h1,rfl,rfl⟩;exact hk s0 H' h1 _ _ rfl rfl
end
def opdK_mono {fr:Fr}{G:Bool}{x:Operand}{k k':SV->Prop}(h:∀s,k s->k' s)(hh:z5k fr G x k):z5k fr G x k':=by
 unfold z5k at*
 split at hh
 ·split at hh
  ·exact⟨hh.1,h _ hh.2⟩
  ·exact h _ hh
  ·exact hh
 all_goals exact h _ hh
def loadK_mono {P:Program}{H:AH}{W:List Nat}{G:Bool}{t:TypeId}{s:SV}{k k':SV->Prop}(h:∀s,k s->k' s)(hh:loadK P H W G t s k):loadK P H W G t s k':=by
 unfold loadK at*
 split at hh
 ·split at hh
  ·split at hh
   ·refine⟨hh.1,?_⟩;have h2:=hh.2
    split at h2
    ·exact⟨h2.1,h _ h2.2⟩
    ·split at h2
     ·exact h _ h2
     ·exact h2
   ·exact hh
  ·exact hh
 ·split at hh
  ·exact⟨hh.1,h _ hh.2⟩
  ·exact⟨hh.1,h _ hh.2⟩
  ·exact hh
 ·exact hh
def resK_mono {P:Program}{H:AH}{fr:Fr}:∀{rs:List ResultVar} {k k':List SV->Prop},(∀l,k l->k' l)->resK P H fr rs k->resK P H fr rs k'
 |[],_,_,h,hh=>h _ hh
 |.tmp t::l,k,k',h,hh=>by
  simp only[resK] at hh ⊢;exact opdK_mono (fun s hh=>resK_mono (fun r hr=>h _ hr) hh) hh
 |.cell t ty::l,k,k',h,hh=>by
  simp only[resK] at hh ⊢;exact opdK_mono (fun s hh=>loadK_mono (fun s hh=>resK_mono (fun r hr=>h _ hr) hh) hh) hh
def PostF.mk {X:Cx}{H0:AH}{R:SV->AH->Prop}{rs:List ResultVar}{fr:Fr}{H H':AH}{e:Exit}(he:e= .ret\/e= .normal)(h:resK X.P H fr rs fun ss=>(resV ss).lt H'.nxt/\z4h X id [] H [] H'/\OwnAll H0 H'.os/\R (resV ss) H'):PostF X H0 rs R e fr H:=by
 have:resK X.P H fr rs fun ss=> ∃ρ s H',resV ss=s.ren ρ/\s.lt H'.nxt/\z4h X ρ [] H [] H'/\OwnAll H0 H'.os/\R s H':=
  resK_mono (fun ss h=>⟨id,_,_,(ren_id _).symm,h⟩) h
 rcases he with rfl|rfl<;>exact this
def z5y {X:Cx}{H0:AH}{R:SV->AH->Prop}{rs:List ResultVar}{fr:Fr}{H:AH}{e:Exit}(ρ:Nat->Nat)(s:SV)(H':AH)(he:e= .ret\/e= .normal)(h:resK X.P H fr rs fun ss=>resV ss=s.ren ρ/\s.lt H'.nxt/\z4h X ρ [] H [] H'/\OwnAll H0 H'.os/\R s H'):PostF X H0 rs R e fr H:=by
 have:resK X.P H fr rs fun ss=> ∃ρ s H',resV ss=s.ren ρ/\s.lt H'.nxt/\z4h X ρ [] H [] H'/\OwnAll H0 H'.os/\R s H':=
  resK_mono (fun ss h=>⟨ρ,s,H',h⟩) h
 rcases he with rfl|rfl<;>exact this
def zj.ofC {P:Program}{f:FuncId}{fn:Func}{c:Code}{args:List SV}{H0:AH}{R:SV->AH->Prop}(wr:Bool)(n:Nat)(rs:List ResultVar)(hf:P.funcs[f]? =some fn)(hb:fn.body=some c)(hn:(fn.name== "runtime.NumGoroutine")=false)(hnt:fn.ntmps=n)(hrs:fn.results=rs.toArray)(ha:Nat.ble args.length n=true)
  (h:∀w0 own0 β0,∀Q:Exit->Fr->AH->Prop,(∀fr H,PostF ⟨P,n,w0,own0,H0.nxt,β0,wr⟩ H0 rs R .ret fr H->Q .ret fr H)->(∀fr H,PostF ⟨P,n,w0,own0,H0.nxt,β0,wr⟩ H0 rs R .ret fr H->Q .normal fr H)->Cs ⟨P,n,w0,own0,H0.nxt,β0,wr⟩ [c] Q (argFr 0 args) H0):zj P f args H0 R:=
 zj.ofN wr n rs hf hb hn hnt hrs ha fun w0 own0 β0=>Cs.one (h w0 own0 β0 _ (fun _ _ h=>h) fun _ _ h=>h)
end
end Go.Sk
namespace Go.Proofs
open Tryz
open Go.Sk
def zh:z1o prog 22=⟨true,.slice 3,1,24,[]⟩:=by kernel_rfl
def zd:z1o prog 3=⟨true,.int .i64,1,8,[]⟩:=by kernel_rfl
def zf:z2m prog 3=1:=by kernel_rfl
def zo:z3d prog 3=some [.int .i64 0]:=by kernel_rfl
def Tryz.mo:Tryz.prog.follows .mixedOrders=true:=by kernel_rfl
def nth (l:List Int)(i:Nat):Int:=l.getD i 0
def ints (xs:List Int):Nat->List SV:=fun i=>[.int .i64 (nth xs i)]
def z30 {l:List Int}{i:Nat}(h:i<l.length):nth l i=l[i]:=by simp[nth,List.getD,h]
def z1a (xs:List Int):Nat×(Nat->Sk.Obj):=rI 3 1 xs.length (ints xs)
def zu (xs:List Int):Nat×(Nat->Sk.Obj):=rO 3 1 xs.length (ints xs)
def z1p (ρ:Nat->Nat)(xs:List Int):(fun i=>SV.renL ρ (ints xs i))=ints xs:=by
 funext i;simp[ints,SV.renL,SV.ren]
def z20 (ρ:Nat->Nat)(xs:List Int)(i:Nat):SV.renL ρ (ints xs i)=ints xs i:=by
 simp[ints,SV.renL,SV.ren]
def z3p {xs ys:List Int}{i:Nat}(h:i<xs.length):nth (xs++ys) i=nth xs i:=by simp[nth,List.getD,QC h]
def z68 {xs ys:List Int}{i:Nat}(h:¬i<xs.length):nth (xs++ys) i=nth ys (i-xs.length):=by simp[nth,List.getD,QI (J3 h)]
def ints_append (xs ys:List Int):(fun i=>if i<xs.length then ints xs i else ints ys (i-xs.length))=ints (xs++ys):=by
 funext i
 split
 ·rename_i h;simp only[ints,z3p h]
 rename_i h;simp only[ints,z68 h]
def z18 (v:Int):z3y 1 1 [SV.int .i64 v]=ints [v]:=rfl
def z2d (xs ys:List Int):app (ints xs) xs.length (ints ys)=ints (xs++ys):=ints_append xs ys
end Go.Proofs
namespace Go.Sk
open Go.RowKit
structure Sd (b d:Prop):Prop where
 f:d->b
def Sd.and {p q d:Prop}(h:p)(h':Sd q d):Sd (p/\q) d:=⟨fun x=>⟨h,h'.f x⟩⟩
def Sd.rfl {d:Prop}:Sd d d:=⟨id⟩
structure GvQ (X:Cx) (ρ:Nat->Nat) (fr:Fr) (H:AH) (fr1:Fr) (H1:AH):Prop where
 a1:frGives ρ H1.nxt fr fr1
 a2:z5o ρ H1.nxt H.os H1.os
 a4:ownU H1.os
 a7:ownU H.os
 a8:keepB X.m0 H.os H1.os
structure GvR (X:Cx) (ρ:Nat->Nat) (H1:AH):Prop where
 a3:injB ρ H1.os=true
 a5:(List.range X.m0).all (fun id=>ρ id==id)=true
 a6:X.m0<=H1.nxt
 a9:bigB X.m0 ρ H1.os=true
def gvS {X:Cx}{fr:Fr}{H:AH}{fr1:Fr}{H1:AH}(ρ:Nat->Nat)(q:GvQ X ρ fr H fr1 H1)(r:GvR X ρ H1):z4h X ρ fr H fr1 H1:=z4h.mk' ρ q.a1 q.a2 r.a3 q.a4 r.a5 r.a6 q.a7 q.a8 r.a9
structure CaQ (args args0:List SV) (ρ:Nat->Nat) (H0 H:AH) (dr:Bool) (W:List Nat):Prop where
 a1:SV.wkL args (SV.renL ρ args0)
 a2:SV.ltL H.nxt (SV.renL ρ args0)
 a3:SV.ltL H0.nxt args0
 a5:z5o ρ H0.nxt H.os H0.os
 a7:ownU H0.os
 a8:(H0.os.map (·.1)).Nodup
 a9:∀x∈H0.os,(x.2.2 0).own=true->(Sk.find H.os (ρ x.1)).map (·.1)=some x.2.1
 a10:dr=true->(z44 ρ H0.os).all (fun id=>W.contains id)=true
structure CaR (ρ:Nat->Nat) (H0 H:AH):Prop where
 a4:(List.range H0.nxt).all (fun id=>decide (ρ id<H.nxt))=true
 a6:injB ρ H0.os=true
structure AfQ (s e:SV) (H g:AH):Prop where
 s:s=e
 h:H=g
def caS {P:Program}{f:FuncId}{args args0:List SV}{H0 H:AH}{R:SV->AH->Prop}{dr:Bool}{W:List Nat}{k:SV->AH->Prop}(hF:zj P f args0 H0 R)(ρ:Nat->Nat)
  (hk:∀s0 H1,R s0 H1->∀s1 H2,s1=s0.ren (cren H0.nxt H.nxt ρ)->H2=after H0.nxt ρ H0 H H1->k s1 H2) (q:CaQ args args0 ρ H0 H dr W) (r:CaR ρ H0 H):callK P f args H dr W k:=
 callK_of hF ρ q.a1 q.a2 q.a3 r.a4 q.a5 r.a6 q.a7 q.a8 q.a9 q.a10 hk
def c1S {P:Program}{f:FuncId}{args args0:List SV}{H0 H Y g:AH}{X e:SV}{dr:Bool}{W:List Nat}{k:SV->AH->Prop}(hF:zj P f args0 H0 fun s H1=>s=X/\H1=Y)(ρ:Nat->Nat)
  (h:k e g) (q:CaQ args args0 ρ H0 H dr W) (r:CaR ρ H0 H) (b:AfQ (X.ren (cren H0.nxt H.nxt ρ)) e (after H0.nxt ρ H0 H Y) g):callK P f args H dr W k:=
 caS hF ρ (fun s0 H1 hR s1 H2 e1 e2=>by
  obtain⟨rfl,rfl⟩:=hR
  rw[e1,e2,b.s,b.h];exact h) q r
def sg {X:Cx}{Q:Exit->Fr->AH->Prop}{fr:Fr}{H:AH}{l:List Code}{id:Nat}{ops:List Oper}{y:Code}(keep:List Nat)(hd:dstOk X.n ops=true)(h:∀K:Fr->AH->Prop,(∀fr H,Cs X (y::l) Q fr H->K fr H)->runL X.P X.wrap X.m0 ops.toArray ops fr H (fun fr H=>K (prune keep fr) H)):Cs X (.seq (.region id ops.toArray false) y::l) Q fr H:=
 z6 (z3v keep hd h)
def rgS {X:Cx}{Q:Exit->Fr->AH->Prop}{fr fr1:Fr}{H H1:AH}{l:List Code}{id:Nat}{ops:List Oper}(keep:List Nat)(h:Cs X l Q fr1 H1)(hd:dstOk X.n ops=true)(e:∀K:Fr->AH->Prop,K fr1 H1->runL X.P X.wrap X.m0 ops.toArray ops fr H (fun fr H=>K (prune keep fr) H)):Cs X (.region id ops.toArray false::l) Q fr H:=
 z3v keep hd fun K hK=>e K (hK _ _ h)
end Go.Sk
namespace Go.Sk
open Go.RowKit Go.Proofs
def aj3 {a b c:Prop}(a':a)(b':b)(c':c):a/\b/\c:=⟨a',b',c'⟩
def aj4 {a b c d:Prop}(a':a)(b':b)(c':c)(d':d):a/\b/\c/\d:=⟨a',b',c',d'⟩
def aj5 {a b c d e:Prop}(a':a)(b':b)(c':c)(d':d)(e':e):a/\b/\c/\d/\e:=⟨a',b',c',d',e'⟩
def aj6 {a b c d e f:Prop}(a':a)(b':b)(c':c)(d':d)(e':e)(f':f):a/\b/\c/\d/\e/\f:=⟨a',b',c',d',e',f'⟩
def aj7 {a b c d e f g:Prop}(a':a)(b':b)(c':c)(d':d)(e':e)(f':f)(g':g):a/\b/\c/\d/\e/\f/\g:=⟨a',b',c',d',e',f',g'⟩
def aj8 {a b c d e f g h:Prop}(a':a)(b':b)(c':c)(d':d)(e':e)(f':f)(g':g)(h':h):a/\b/\c/\d/\e/\f/\g/\h:=⟨a',b',c',d',e',f',g',h'⟩
def aj9 {a b c d e f g h i:Prop}(a':a)(b':b)(c':c)(d':d)(e':e)(f':f)(g':g)(h':h)(i':i):a/\b/\c/\d/\e/\f/\g/\h/\i:=⟨a',b',c',d',e',f',g',h',i'⟩
def aj {a b:Prop}(x:a)(y:b):a/\b:=⟨x,y⟩
namespace D0
def exE:∀a:Prop,(True/\a)=a:=QQ
def gxE:∀a:Prop,(True/\a)=a:=QQ
def axE:∀a:Prop,(True/\a)=a:=QQ
def oxE:∀a:Prop,(True/\a)=a:=QQ
def sdE {a:Prop}(h:a:=by first|omega|(simp only[In64];omega)|(simp only[qt,qj,qk,qC,qn,qr,qm,qg,qD,qH,Qi,ne_eq,QB,QA,qO,qF,In64];omega)|(simp only[qt,qj,qk,qC,qn,qr,qm,qg,qD,qH,Qi,ne_eq,QB,QA,qO,qF,In64] at*;omega)):a:=h
end D0
def Zo {a c d:Prop}(r:a->c)(h:d)(e:Sd (a) d:=by simp only[stp,isQ,z5k,Sk.get,Sk.put,ofConst,z1z,↓reduceIte,reduceCtorEq,Nat.reduceEqDiff,QQ,and_true,Jb,implies_true,forall_const,imp_self,qz,false_implies,false_and,and_false,Qm,Qq,qop,grdK,j7,QP,jV,beq_true,beq_false,jD,Jh,qL,qS,j6,jF,qj,qn,qr,pickB_bool,Bool.cond_true_left,Bool.cond_false_left,Bool.cond_true_right,Bool.cond_false_right,cond_true,cond_false,and_imp,loadK,Sk.find,uQ,rO,rI,rV,z2v,setF_fam,Kd.agg,jw,List.contains_cons,Nat.reduceBEq,jl,Jq,JF,jK,ite_self,jB,QE,ja,Nat.reduceAdd,Nat.reduceMul,Nat.reduceSub,Nat.reduceLT,Nat.reduceLeDiff,qd,ql,ne_eq,JI,JZ,not_true_eq_false,qq,Int.reduceToNat,QN,JH,JM,Kd.slice.injEq,exists_eq',jj,Qx,jq,List.drop_succ_cons,jb,js,jX,List.drop_nil,jI,QZ,jc,List.append_eq,JT,List.all_nil,spl,okCells,SV.cells,SV.scalar,binK,binII,binBB,intK,arithK,strK,shiftK,binAA,binNil,unK,convX,convK,faddrK,fieldK,partK,iaddrK,indexK,optK,sliceK,bndK,Option.isSome_some,JQ,J4,or_true,true_or,partsK,buildK,fillS,placeS,lenK,z59.len,z34.n,opdsK,mmK,foldInt,eop,copyK,srcK,srcF_zero,setO,clearK,capK,growK,appendK,dropO,allocK,boxK,bsliceK,replZ,storeK,updF,mkK,mmapK,z59.ofKd,z34.ofKd,mputK,z59.add,z59.okKd,z34.put,z34.okKd,z34.okP,mlookK,z59.has,z34.get,z34.z,Jg,Int.reduceBEq,bne_self_eq_false,eq_self,Ql,q9,exE];(repeat(with_reducible apply Sd.and;exact sdE));exact Sd.rfl):c:=r (e.f h)
def Zl {P:Program}{wr:Bool}{m0:Nat}{ops:Array Oper}{o:Oper}{l:List Oper}{fr:Fr}{H:AH}{K:Fr->AH->Prop}(h:stp P wr m0 false [] [] ops o fr H (fun fr' H'=>runL P wr m0 ops l fr' H' K)):runL P wr m0 ops (o::l) fr H K:=h
def Zi {P:Program}{wr:Bool}{m0:Nat}{W U:List (List Nat)}{ops:Array Oper}{L:List Oper}{i:Nat}{l:List Nat}{fr:Fr}{H:AH}{K:Fr->AH->Prop}{o:Oper}(w1 w2:List Nat)(hi:L[i]? =some o:=by exact rfl)(hw1:W.getD i []=w1:=by exact rfl)(hw2:U.getD i []=w2:=by exact rfl)(h:stp P wr m0 true w1 w2 ops o fr H (fun fr' H'=>runI P wr m0 W U ops L l fr' H' K)):runI P wr m0 W U ops L (i::l) fr H K:=runI_cons o w1 w2 hi hw1 hw2 h
def Zpr {a b:Prop}(h:b)(e:a=b:=by simp only[prune,Sk.get,Sk.put,↓reduceIte,Nat.reduceEqDiff];exact rfl):a:=Eq.mpr e h
def Zgr {a b:Prop}(h:b)(e:a=b:=by simp only[grdK,Sk.get,Sk.put,↓reduceIte,Nat.reduceEqDiff,j7,QP,jV,beq_true,beq_false,jD,Jh,qL];exact rfl):a:=Eq.mpr e h
def Znb {a b:Prop}(h:a)(e:a=b:=by simp only[qt,qj,qk,qC,qn,qr,qm,qg,qD,qH,Qi,ne_eq,QB,QA,qO,qF];exact rfl):b:=Eq.mp e h
def Zou {a d:Prop}(h:d)(e:Sd a d:=by simp only[resK,z5k,loadK,QE,qd,jB,Jb,QQ,ne_eq,Sk.get,Sk.find,uQ,rO,rI,rV,jw,QP,jq,jb,js,jX,↓reduceIte,Nat.reduceEqDiff,resV,Kd.agg,Nat.reduceAdd,Nat.reduceLeDiff,ql,oxE];(repeat(with_reducible apply Sd.and;exact sdE));exact Sd.rfl):a:=e.f h
def Zs {a:Prop}(h:a:=by simp[SV.wkL,SV.wk,frGives,z5o,Sk.get,Sk.find,uQ,rO,rI,rV,z1e.eq_1,z1e.eq_2,z1e.eq_3,z4a,renL_id,ren_id,SV.renL,SV.ren,Obj.lt_row,SV.ltL,SV.lt,ownU,keepB,z44,OwnAll,Obj.own.eq_1,Obj.own.eq_2,Obj.own.eq_3,Obj.own.eq_4,gxE]):a:=h
def Zsx {a:Prop}(h:a:=by simp[SV.wkL,SV.wk,frGives,z5o,Sk.get,Sk.find,uQ,rO,rI,rV,z1e.eq_1,z1e.eq_2,z1e.eq_3,z4a,renL_id,ren_id,SV.renL,SV.ren,Obj.lt_row,SV.ltL,SV.lt,ownU,keepB,z44,OwnAll,Obj.own.eq_1,Obj.own.eq_2,Obj.own.eq_3,Obj.own.eq_4,gxE,xE]):a:=h
def Zt {s e:SV}{H g:AH}(q:AfQ s e H g:=by constructor<;>(simp only[fam_zero,after,cren,id,dropO,reduceCtorEq,Nat.reduceEqDiff,JI,Nat.zero_ne_one,renOs,dropIds,z44,uQ,rO,rI,rV,Obj.own.eq_1,Obj.own.eq_2,Obj.own.eq_3,Obj.own.eq_4,Obj.ren.eq_1,Obj.ren.eq_2,Obj.ren_blk,Row.ren,SV.ren,SV.renL,q8,QU,jI,QZ,↓reduceIte,Nat.reduceLT,Nat.reduceAdd,Nat.reduceSub,ja,qz,axE];exact rfl)):AfQ s e H g:=q
def Zaf {s e e1:SV}{H g g1:AH}(h1:s=e)(h2:H=g)(q:AfQ e e1 g g1:=by exact Zt):s=e1/\H=g1:=⟨h1.trans q.s,h2.trans q.h⟩
def Zca {P:Program}{f:FuncId}{args args0:List SV}{H0 H:AH}{R:SV->AH->Prop}{dr:Bool}{W:List Nat}{k:SV->AH->Prop}(hF:zj P f args0 H0 R)(ρ:Nat->Nat)(hk:∀s0 H1,R s0 H1->∀s1 H2,s1=s0.ren (cren H0.nxt H.nxt ρ)->H2=after H0.nxt ρ H0 H H1->k s1 H2)(q:CaQ args args0 ρ H0 H dr W:=by constructor<;>exact Zs)(r:CaR ρ H0 H:=by exact⟨rfl,rfl⟩):callK P f args H dr W k:=caS hF ρ hk q r
def Zc1 {P:Program}{f:FuncId}{args args0:List SV}{H0 H Y g:AH}{X e:SV}{dr:Bool}{W:List Nat}{k:SV->AH->Prop}(hF:zj P f args0 H0 fun s H1=>s=X/\H1=Y)(ρ:Nat->Nat)(h:k e g)(q:CaQ args args0 ρ H0 H dr W:=by constructor<;>exact Zs)(r:CaR ρ H0 H:=by exact⟨rfl,rfl⟩)(b:AfQ (X.ren (cren H0.nxt H.nxt ρ)) e (after H0.nxt ρ H0 H Y) g:=by exact Zt):callK P f args H dr W k:=c1S hF ρ h q r b
def Zg {X:Cx}{fr:Fr}{H:AH}{fr1:Fr}{H1:AH}(ρ:Nat->Nat)(q:GvQ X ρ fr H fr1 H1:=by constructor<;>exact Zs)(r:GvR X ρ H1:=by exact⟨rfl,rfl,qb rfl,rfl⟩):z4h X ρ fr H fr1 H1:=gvS ρ q r
def Zgx {X:Cx}{fr:Fr}{H:AH}{fr1:Fr}{H1:AH}(ρ:Nat->Nat)(q:GvQ X ρ fr H fr1 H1:=by constructor<;>exact Zsx)(r:GvR X ρ H1:=by exact⟨rfl,rfl,qb rfl,rfl⟩):z4h X ρ fr H fr1 H1:=gvS ρ q r
def Zad {a d:Prop}(h:d)(e:Sd a d:=by(repeat(with_reducible apply Sd.and;exact sdE));exact Sd.rfl):a:=e.f h
def Zcn {X:Cx}{Q:Exit->Fr->AH->Prop}{fr:Fr}{H:AH}{l:List Code}{t:Tmp}{x y:Code}{b:Bool}{p n:Prop}(h1:p->Cs X (x::l) Q fr H)(h2:n->Cs X (y::l) Q fr H)(hb:get fr t=some (.bool b):=by exact rfl)(e1:(b=true)=p:=by simp only[qt,qj,qk,qC,qn,qr,qm,qg,qD,qH,Qi,ne_eq,QB,QA,qO,qF];exact rfl)(e2:(b=false)=n:=by simp only[qt,qj,qk,qC,qn,qr,qm,qg,qD,qH,Qi,ne_eq,QB,QA,qO,qF];exact rfl):Cs X (.cond (.tmp t) x y::l) Q fr H:=Cs.cond b hb (fun h=>h1 (Eq.mp e1 h)) fun h=>h2 (Eq.mp e2 h)
def Zcm {X:Cx}{Q:Exit->Fr->AH->Prop}{fr:Fr}{H:AH}{l:List Code}{t:Tmp}{x y:Code}{b:Bool}(h1:b=true->Cs X (x::l) Q fr H)(h2:b=false->Cs X (y::l) Q fr H)(hb:get fr t=some (.bool b):=by exact rfl):Cs X (.cond (.tmp t) x y::l) Q fr H:=Cs.cond b hb h1 h2
def Zf {P:Program}{f:FuncId}{fn:Func}{c:Code}{args:List SV}{H0:AH}{R:SV->AH->Prop}{fr:Fr}(wr:Bool)(n:Nat)(rs:List ResultVar)(hf:P.funcs[f]? =some fn)(hnt:fn.ntmps=n)(hrs:fn.results=rs.toArray)(h:∀w0 own0 β0,∀Q:Exit->Fr->AH->Prop,(∀fr H,PostF ⟨P,n,w0,own0,H0.nxt,β0,wr⟩ H0 rs R .ret fr H->Q .ret fr H)->(∀fr H,PostF ⟨P,n,w0,own0,H0.nxt,β0,wr⟩ H0 rs R .ret fr H->Q .normal fr H)->Cs ⟨P,n,w0,own0,H0.nxt,β0,wr⟩ [c] Q fr H0)(hb:fn.body=some c:=by exact rfl)(hn:(fn.name== "runtime.NumGoroutine")=false:=by exact rfl)(ha:Nat.ble args.length n=true:=by exact rfl)(e:argFr 0 args=fr:=by simp only[argFr];exact rfl):zj P f args H0 R:=
 zj.ofC wr n rs hf hb hn hnt hrs ha fun w o b Q h1 h2=>(show argFr 0 args=fr from e) ▸ h w o b Q h1 h2
def ws:Nat->List (Nat×List Nat)->List (List Nat)
 |_,[]=>[]
 |i,(j,x)::l=>List.replicate (j-i) []++x::ws (j+1) l
def Zk {P:Program}{wr:Bool}{m0:Nat}{ops:Array Oper}{fr:Fr}{H:AH}{K' C K:Fr->AH->Prop}{F:Fr}{G:AH}(hK:∀fr H,C fr H->K fr H)(h:C F G)(e:K' fr H=K F G:=by simp only[prune,Sk.get,Sk.put,↓reduceIte,Nat.reduceEqDiff];exact rfl):runL P wr m0 ops [] fr H K':=Eq.mpr e (hK F G h)
def Zob {X:Cx}{H0:AH}{R:SV->AH->Prop}{rs:List ResultVar}{fr:Fr}{H:AH}{z:Exit}(H':AH){b c u d:Prop}(h:d)(he:z= .ret\/z= .normal:=by exact .inl rfl)(e:Sd (resK X.P H fr rs fun ss=>(resV ss).lt H'.nxt/\z4h X id [] H [] H'/\OwnAll H0 H'.os/\R (resV ss) H') (b/\c/\u/\d):=by simp only[resK,z5k,loadK,QE,qd,jB,Jb,QQ,ne_eq,Sk.get,Sk.find,uQ,rO,rI,rV,jw,QP,jq,jb,js,jX,↓reduceIte,Nat.reduceEqDiff,resV,Kd.agg,Nat.reduceAdd,Nat.reduceLeDiff,ql,oxE];(repeat(with_reducible apply Sd.and;exact sdE));exact Sd.rfl)(hb:b:=by exact Zs)(hc:c:=by exact Zg id)(hu:u:=by exact Zs):PostF X H0 rs R z fr H:=PostF.mk he (e.f ⟨hb,hc,hu,h⟩)
def Zor {X:Cx}{H0:AH}{R:SV->AH->Prop}{rs:List ResultVar}{fr:Fr}{H:AH}{z:Exit}(ρ:Nat->Nat)(s:SV)(H':AH){a b c u d:Prop}(h:d)(he:z= .ret\/z= .normal:=by exact .inl rfl)(e:Sd (resK X.P H fr rs fun ss=>resV ss=s.ren ρ/\s.lt H'.nxt/\z4h X ρ [] H [] H'/\OwnAll H0 H'.os/\R s H') (a/\b/\c/\u/\d):=by simp only[resK,z5k,loadK,QE,qd,jB,Jb,QQ,ne_eq,Sk.get,Sk.find,uQ,rO,rI,rV,jw,QP,jq,jb,js,jX,↓reduceIte,Nat.reduceEqDiff,resV,Kd.agg,Nat.reduceAdd,Nat.reduceLeDiff,ql,oxE];(repeat(with_reducible apply Sd.and;exact sdE));exact Sd.rfl)(ha:a:=by exact Zs)(hb:b:=by exact Zs)(hc:c:=by exact Zg _)(hu:u:=by exact Zs):PostF X H0 rs R z fr H:=z5y ρ s H' he (e.f ⟨ha,hb,hc,hu,h⟩)
def Zkl {P:Program}{wr:Bool}{m0:Nat}{ops:Array Oper}{l:List Oper}{fr:Fr}{H:AH}{K' C K:Fr->AH->Prop}{F:Fr}{G:AH}(hK:∀fr H,C fr H->K fr H)(h:C F G)(e:K F G->runL P wr m0 ops l fr H K':=by(intro hh;(repeat(refine Zo Zl ?_));exact zr (Zpr hh))):runL P wr m0 ops l fr H K':=e (hK F G h)
def Zki {P:Program}{wr:Bool}{m0:Nat}{W U:List (List Nat)}{ops:Array Oper}{L:List Oper}{l:List Nat}{fr:Fr}{H:AH}{K' C K:Fr->AH->Prop}{F:Fr}{G:AH}(hK:∀fr H,C fr H->K fr H)(h:C F G)(e:K F G->runI P wr m0 W U ops L l fr H K':=by(intro hh;(repeat(refine Zo (Zi [] []) ?_));exact zz (Zpr hh))):runI P wr m0 W U ops L l fr H K':=e (hK F G h)
def Zd {a d:Prop}{P:Program}{f:FuncId}{args args0:List SV}{H0 H Y g:AH}{X e:SV}{dr:Bool}{W:List Nat}{k:SV->AH->Prop}(r:a->d)(hF:zj P f args0 H0 fun s H1=>s=X/\H1=Y)(ρ:Nat->Nat)(h:k e g)(x:Sd a (callK P f args H dr W k):=by simp only[stp,isQ,z5k,Sk.get,Sk.put,ofConst,z1z,↓reduceIte,reduceCtorEq,Nat.reduceEqDiff,QQ,and_true,Jb,implies_true,forall_const,imp_self,qz,false_implies,false_and,and_false,Qm,Qq,qop,grdK,j7,QP,jV,beq_true,beq_false,jD,Jh,qL,qS,j6,jF,qj,qn,qr,pickB_bool,Bool.cond_true_left,Bool.cond_false_left,Bool.cond_true_right,Bool.cond_false_right,cond_true,cond_false,and_imp,loadK,Sk.find,uQ,rO,rI,rV,z2v,setF_fam,Kd.agg,jw,List.contains_cons,Nat.reduceBEq,jl,Jq,JF,jK,ite_self,jB,QE,ja,Nat.reduceAdd,Nat.reduceMul,Nat.reduceSub,Nat.reduceLT,Nat.reduceLeDiff,qd,ql,ne_eq,JI,JZ,not_true_eq_false,qq,Int.reduceToNat,QN,JH,JM,Kd.slice.injEq,exists_eq',jj,Qx,jq,List.drop_succ_cons,jb,js,jX,List.drop_nil,jI,QZ,jc,List.append_eq,JT,List.all_nil,spl,okCells,SV.cells,SV.scalar,binK,binII,binBB,intK,arithK,strK,shiftK,binAA,binNil,unK,convX,convK,faddrK,fieldK,partK,iaddrK,indexK,optK,sliceK,bndK,Option.isSome_some,JQ,J4,or_true,true_or,partsK,buildK,fillS,placeS,lenK,z59.len,z34.n,opdsK,mmK,foldInt,eop,copyK,srcK,srcF_zero,setO,clearK,capK,growK,appendK,dropO,allocK,boxK,bsliceK,replZ,storeK,updF,mkK,mmapK,z59.ofKd,z34.ofKd,mputK,z59.add,z59.okKd,z34.put,z34.okKd,z34.okP,mlookK,z59.has,z34.get,z34.z,Jg,Int.reduceBEq,bne_self_eq_false,eq_self,Ql,q9,exE];(repeat(with_reducible apply Sd.and;exact sdE));exact Sd.rfl)(q:CaQ args args0 ρ H0 H dr W:=by constructor<;>exact Zs)(t:CaR ρ H0 H:=by exact⟨rfl,rfl⟩)(b:AfQ (X.ren (cren H0.nxt H.nxt ρ)) e (after H0.nxt ρ H0 H Y) g:=by exact Zt):d:=r (x.f (Zc1 hF ρ h q t b))
def Zoc {X:Cx}{H0:AH}{R:SV->AH->Prop}{rs:List ResultVar}{fr:Fr}{H:AH}{z:Exit}(H':AH){b c u d:Prop}(he:z= .ret\/z= .normal:=by exact .inl rfl)(e:Sd (resK X.P H fr rs fun ss=>(resV ss).lt H'.nxt/\z4h X id [] H [] H'/\OwnAll H0 H'.os/\R (resV ss) H') (b/\c/\u/\d):=by simp only[resK,z5k,loadK,QE,qd,jB,Jb,QQ,ne_eq,Sk.get,Sk.find,uQ,rO,rI,rV,jw,QP,jq,jb,js,jX,↓reduceIte,Nat.reduceEqDiff,resV,Kd.agg,Nat.reduceAdd,Nat.reduceLeDiff,ql,oxE];(repeat(with_reducible apply Sd.and;exact sdE));exact Sd.rfl)(hb:b:=by exact Zs)(hc:c:=by exact Zg id)(hu:u:=by exact Zs)(h:d:=by first|trivial|exact⟨rfl,trivial⟩|rfl):PostF X H0 rs R z fr H:=PostF.mk he (e.f ⟨hb,hc,hu,h⟩)
def Zos {X:Cx}{H0:AH}{R:SV->AH->Prop}{rs:List ResultVar}{fr:Fr}{H:AH}{z:Exit}(ρ:Nat->Nat)(s:SV)(H':AH){a b c u d:Prop}(he:z= .ret\/z= .normal:=by exact .inl rfl)(e:Sd (resK X.P H fr rs fun ss=>resV ss=s.ren ρ/\s.lt H'.nxt/\z4h X ρ [] H [] H'/\OwnAll H0 H'.os/\R s H') (a/\b/\c/\u/\d):=by simp only[resK,z5k,loadK,QE,qd,jB,Jb,QQ,ne_eq,Sk.get,Sk.find,uQ,rO,rI,rV,jw,QP,jq,jb,js,jX,↓reduceIte,Nat.reduceEqDiff,resV,Kd.agg,Nat.reduceAdd,Nat.reduceLeDiff,ql,oxE];(repeat(with_reducible apply Sd.and;exact sdE));exact Sd.rfl)(ha:a:=by exact Zs)(hb:b:=by exact Zs)(hc:c:=by exact Zg _)(hu:u:=by exact Zs)(h:d:=by first|trivial|exact⟨rfl,trivial⟩|rfl):PostF X H0 rs R z fr H:=z5y ρ s H' he (e.f ⟨ha,hb,hc,hu,h⟩)
def iS (i:Nat):(i:Int)+1=((i+1:Nat):Int):=by omega
def Zrg {X:Cx}{Q:Exit->Fr->AH->Prop}{fr fr1:Fr}{H H1:AH}{l:List Code}{id:Nat}{ops:List Oper}(keep:List Nat)(h:Cs X l Q fr1 H1)(hd:dstOk X.n ops=true:=by exact rfl)(e:∀K:Fr->AH->Prop,K fr1 H1->runL X.P X.wrap X.m0 ops.toArray ops fr H (fun fr H=>K (prune keep fr) H):=by(intro K hK;(repeat(refine Zo Zl ?_));exact zr (Zpr hK))):Cs X (.region id ops.toArray false::l) Q fr H:=rgS keep h hd e
def Zrs {X:Cx}{Q:Exit->Fr->AH->Prop}{fr fr1:Fr}{H H1:AH}{l:List Code}{id:Nat}{ops:List Oper}{y:Code}(keep:List Nat)(h:Cs X (y::l) Q fr1 H1)(hd:dstOk X.n ops=true:=by exact rfl)(e:∀K:Fr->AH->Prop,K fr1 H1->runL X.P X.wrap X.m0 ops.toArray ops fr H (fun fr H=>K (prune keep fr) H):=by(intro K hK;(repeat(refine Zo Zl ?_));exact zr (Zpr hK))):Cs X (.seq (.region id ops.toArray false) y::l) Q fr H:=z6 (rgS keep h hd e)
def aftC (ops:List Oper):List (List Nat):=
 ops.foldl (fun A o=>A++[o.after.foldl (fun s e=>if e.on<A.length && Region.binds .any e then e.on::(A.getD e.on []++s) else s) []]) []
def Zrd {X:Cx}{Q:Exit->Fr->AH->Prop}{fr:Fr}{H:AH}{l:List Code}{id:Nat}{ops:List Oper}(keep ord:List Nat)(W U:List (List Nat))(h:∀K:Fr->AH->Prop,(∀fr H,Cs X l Q fr H->K fr H)->runI X.P X.wrap X.m0 W U ops.toArray ops ord fr H (fun fr H=>K (prune keep fr) H))(hm:X.P.follows .mixedOrders=true:=by exact Tryz.mo)(hd:dstOk X.n ops=true:=by exact rfl)(hlen:ord.length=ops.length:=by exact rfl)(hlt:ord.all (fun i=>decide (i<ops.length))=true:=by exact rfl)(hns:Region.noSelect ops.toArray=true:=by kernel_rfl)(hA:afterOk ops.toArray (aftC ops)=true:=by kernel_rfl)(hE:effOk ops.toArray (aftC ops) W U=true:=by kernel_rfl)(hWn:W.all (fun l=>l.all fun i=>decide (i<H.nxt))=true:=by exact rfl)
  (hs:sched ops.toArray (ord.map fun i=>(i,ops.toArray.getD i default)) (Array.replicate ops.length false) false=true:=by kernel_rfl):Cs X (.region id ops.toArray true::l) Q fr H:=
 Cs.regDraw keep ord (aftC ops) W U hm hd hlen hlt hns hA hE hWn hs h
def Zrq {X:Cx}{Q:Exit->Fr->AH->Prop}{fr fr1:Fr}{H H1:AH}{l:List Code}{id:Nat}{ops:List Oper}(keep ord:List Nat)(h:Cs X l Q fr1 H1)(hm:X.P.follows .mixedOrders=true:=by exact Tryz.mo)(hd:dstOk X.n ops=true:=by exact rfl)(hlen:ord.length=ops.length:=by exact rfl)(hlt:ord.all (fun i=>decide (i<ops.length))=true:=by exact rfl)(hns:Region.noSelect ops.toArray=true:=by kernel_rfl)(hA:afterOk ops.toArray (aftC ops)=true:=by kernel_rfl)(hE:effOk ops.toArray (aftC ops) [] []=true:=by kernel_rfl)
  (hs:sched ops.toArray (ord.map fun i=>(i,ops.toArray.getD i default)) (Array.replicate ops.length false) false=true:=by kernel_rfl) (e:∀K:Fr->AH->Prop,K fr1 H1->runI X.P X.wrap X.m0 [] [] ops.toArray ops ord fr H (fun fr H=>K (prune keep fr) H):=by(intro K hK;(repeat(refine Zo (Zi [] []) ?_));exact zz (Zpr hK))):Cs X (.region id ops.toArray true::l) Q fr H:=
 Zrd keep ord [] [] (fun K hK=>e K (hK _ _ h)) hm hd hlen hlt hns hA hE rfl hs
end Go.Sk
namespace Go.Proofs
open Tryz
open Go.Sk
section
def tmod_fix {v n:Int}(hn:0<n):(if v.tmod n<0 then v.tmod n+n else v.tmod n)=v%n:=by
 have h1:=Int.tmod_eq_emod (a:=v) (b:=n);have h2:=J7 v (by omega:n≠0);have h3:=Int.emod_lt_of_pos v hn
 split at h1<;>(simp only[h1];split<;>omega)
def ComAm.exE:=aj3 @zd @zf @zo
def ComAm.gxE:= @ints.eq_1
open ComAm (gxE exE)
open D0 (oxE sdE)
def mod_spec (v n:Int)(hn:0<n)(hb:n<=1000000000000):zj prog 44 [.int .i64 v,.int .i64 n] ⟨0,[]⟩ (fun s H'=>s= .int .i64 (v%n)/\H'=⟨0,[]⟩):=by
 have h0:=tmod_fix (v:=v) hn;have h1:=Int.tmod_lt_of_pos v hn;refine Zf false 15 [.tmp 4] func44 ntmps44 results44 fun w0 own0 β0 Q hQ hQn=> ?_;refine Zrs [0,1] ?_;refine Zrs [1,5] (z6 ?_);refine Zrs [1,5,10] ?_;refine Zcm ?_ ?_
 ·intro h10
  try replace h10:=Znb h10
  refine z3v [5] rfl ?_;intro K hK;iterate 3 (refine Zo Zl ?_)
  have h2: -n<=v.tmod n:=by have:=J7 v (by omega:n≠0);rw[qe h10] at h0;omega
  refine Zad ?_;refine Zkl hK ?_;clear hK K;refine Zrs [4] (zb (hQ _ _ ?_));refine Zob ⟨0,[]⟩ ?_;rw[qe h10] at h0;exact⟨by rw[h0],trivial⟩
 intro h10
 try replace h10:=Znb h10
 refine z7 (Zrs [4] (zb (hQ _ _ ?_)));refine Zob ⟨0,[]⟩ ?_;rw[qc (by omega)] at h0;exact⟨by rw[h0],trivial⟩
end
section
def Tryz.tyTape:z1o prog 71=⟨true,.struct,2,32,[(0,some false,1),(1,some false,1)]⟩:=by kernel_rfl
def Tryz.szTape:z2m prog 71=2:=by kernel_rfl
def Tryz.zTape:z3d prog 71=some [.nils,.int .i64 0]:=by kernel_rfl
def z16 (id m at_:Nat):Nat×(Nat->Sk.Obj):=rV 71 2 1 (fun _=>[.slc false id 0 0 m,.int .i64 at_])
def ec0:=aj3 @Tryz.tyTape @Tryz.szTape @Tryz.zTape
def ComBm.exE:=aj8 @zh @zd @zf @zo ec0 @z1a.eq_1 @ints.eq_1 @z16.eq_1
def ComBm.gxE:=aj4 @ints.eq_1 @z1a.eq_1 @zu.eq_1 @z16.eq_1
def ComBm.axE:=aj8 @zh @zd @zf @zo ec0 @z1a.eq_1 @z16.eq_1 @z1p
open ComBm (gxE axE exE)
open D0 (sdE oxE)
def new_spec (ls:List Int)(hx:ls.length<=9223372036854775807):zj prog 10 [.slc false 0 0 0 ls.length] ⟨1,[(0,z1a ls)]⟩ (fun s H'=> ∃m,m<=ls.length/\s= .ptr 1 0 0 0/\H'=⟨2,[(1,z16 0 m 0)]⟩):=by
 refine Zf false 11 [.tmp 2] func10 ntmps10 results10 fun w0 own0 β0 Q hQ hQn=> ?_;refine Zrs [0] (z6 ?_);refine Zrs [0,5] ?_;refine Zcm ?_ ?_
 ·intro h5
  try replace h5:=Znb h5
  refine Zrg [0] ?_;refine Zrs [2] (zb (hQ _ _ ?_));refine Zob ⟨2,[(1,z16 0 600 0)]⟩ ?_;exact⟨600,by omega,by trivial⟩
 intro h5
 try replace h5:=Znb h5
 refine z7 (Zrs [2] (zb (hQ _ _ ?_)));refine Zob ⟨2,[(1,z16 0 ls.length 0)]⟩ ?_;exact⟨ls.length,by omega,by trivial⟩
def z2x (ls:List Int)(m at_:Nat)(n:Int)(hx:ls.length<=9223372036854775807)(hm:m<=ls.length)(ha:at_<=m)(hn:n<=1000000000):
  zj prog 14 [.ptr 0 0 0 0,.int .i64 n] ⟨2,[(0,z16 1 m at_),(1,z1a ls)]⟩
   (fun s H'=> ∃(v:Int) (at':Nat),at'<=m/\0<=v/\(1<=n->v<n)/\(n<1->v=0)/\s= .int .i64 v/\H'=⟨2,[(0,z16 1 m at')]⟩):=by
 refine Zf false 39 [.tmp 4] func14 ntmps14 results14 fun w0 own0 β0 Q hQ hQn=> ?_;refine Zrs [0,1] (z6 (z6 ?_));refine Zrq [0,1,18] [0,1,2,3,4,5,6,7,8,9,10,11,12,13] ?_;refine Zcm ?_ ?_
 ·intro h18
  try replace h18:=Znb h18
  refine Zrs [4] (zb (hQ _ _ ?_));refine Zob ⟨2,[(0,z16 1 m at_)]⟩ ?_;exact⟨0,at_,ha,by omega,by omega,fun _=>rfl,by trivial,by trivial⟩
 intro h18
 try replace h18:=Znb h18
 refine z7 (Zrs [0,1] (z6 ?_));refine Zrd [4] [0,1,2,3,4,5,6,7,8,9,10,11,12,13] [] [] ?_;intro K hK;iterate 12 (refine Zo (Zi [] []) ?_)
 refine Zd (Zi [] []) (mod_spec (nth ls at_) n (by omega) (by omega)) (fun _=>0) ?_;refine Zki hK ?_;clear hK K;refine zb (hQ _ _ ?_);refine Zob ⟨2,[(0,z16 1 m (at_+1))]⟩ ?_;exact⟨_,at_+1,by omega,J7 _ (by omega),fun _=>Int.emod_lt_of_pos _ (by omega),by omega,rfl,by trivial⟩
def bool_spec (ls:List Int)(m at_:Nat)(n:Int)(hx:ls.length<=9223372036854775807)(hm:m<=ls.length)(ha:at_<=m)(hn:n<=1000000000)(hn0: -1000<=n):
  zj prog 23 [.ptr 0 0 0 0,.int .i64 n] ⟨2,[(0,z16 1 m at_),(1,z1a ls)]⟩
   (fun s H'=> ∃(b:Bool) (at':Nat),at'<=m/\s= .bool b/\H'=⟨2,[(0,z16 1 m at')]⟩):=by
 refine Zf false 11 [.tmp 4] func23 ntmps23 results23 fun w0 own0 β0 Q hQ hQn=> ?_;refine Zrs [0,1] ?_;refine sg [4] rfl ?_;intro K hK;iterate 3 (refine Zo Zl ?_)
 refine Zca (z2x ls m at_ n hx hm ha hn) (id) ?_;rintro s0 H0 ⟨v,at',h1,h2,h3,h4,rfl,rfl⟩ s1 H1 hs1 hH1;obtain⟨hs2,hH2⟩:=Zaf hs1 hH1;clear hs1 hH1;subst hs2 hH2;refine Zad ?_;refine Zkl hK ?_;clear hK K;refine zb (hQ _ _ ?_);refine Zob ⟨2,[(0,z16 1 m at')]⟩ ?_;exact⟨_,at',h1,rfl,by trivial⟩
def pick_spec (ls xs:List Int)(m at_:Nat)(hx:ls.length<=9223372036854775807)(hm:m<=ls.length)(ha:at_<=m)(hn:xs.length<=1000000)(hn0:0<xs.length):
  zj prog 13 [.ptr 0 0 0 0,.slc false 2 0 0 xs.length] ⟨3,[(0,z16 1 m at_),(1,z1a ls),(2,z1a xs)]⟩
   (fun s H'=> ∃(i at':Nat),at'<=m/\i<xs.length/\s= .int .i64 (nth xs i)/\H'=⟨3,[(0,z16 1 m at')]⟩):=by
 refine Zf false 12 [.tmp 4] func13 ntmps13 results13 fun w0 own0 β0 Q hQ hQn=> ?_;refine Zrs [0,1] ?_;refine sg [4] rfl ?_;intro K hK;iterate 5 (refine Zo Zl ?_)
 refine Zca (z2x ls m at_ xs.length hx hm ha (by omega)) (id) ?_;rintro s0 H0 ⟨v,at',h1,h2,h3,h4,rfl,rfl⟩ s1 H1 hs1 hH1;obtain⟨hs2,hH2⟩:=Zaf hs1 hH1;clear hs1 hH1;subst hs2 hH2;refine Zad ?_;have hv:=h3 (by omega);refine Zkl hK ?_;clear hK K;refine zb (hQ _ _ ?_);refine Zob ⟨3,[(0,z16 1 m at')]⟩ ?_;exact⟨v.toNat,at',h1,by omega,rfl,by trivial⟩
end
section
def zg:z1o prog 9=⟨true,.string,1,16,[]⟩:=by kernel_rfl
def zp:z2m prog 9=1:=by kernel_rfl
def Tryz.tyLets:z1o prog 127=⟨true,.array 6 9,6,96,[]⟩:=by kernel_rfl
def zm:z1o prog 60=⟨true,.int .u32,1,4,[]⟩:=by kernel_rfl
def Tryz.tabLets:tabG prog 0=true:=by kernel_rfl
def rowsOf_three (a b c:Int):z3y 1 3 [SV.int .i64 a,SV.int .i64 b,SV.int .i64 c]=ints [a,b,c]:=rfl
def rep (s:ByteArray):Nat->ByteArray
 |0=>⟨#[]⟩
 |n+1=>rep s n++s
def rep_size (s:ByteArray):∀n,(rep s n).size=n*s.size
 |0=>by simp only[rep,Nat.zero_mul];rfl
 |n+1=>by rw[rep,ByteArray.size_append,rep_size s n,qV,ju]
def ComCm.exE:=aj9 @zh @zd @zf @zo ec0 @zg @Tryz.tyLets @zp (aj5 @zm @z1a.eq_1 @ints.eq_1 @z16.eq_1 @rowsOf_three)
def ComCm.axE:=aj9 @zh @zd @zf @zo ec0 @zg @Tryz.tyLets @zp (aj5 @zm @z1a.eq_1 @z16.eq_1 @rowsOf_three @z1p)
def ComCm.sdE {a:Prop}(h:a:=by first|exact D0.sdE|exact⟨Tryz.tabLets,by omega⟩):a:=h
open ComBm (gxE)
open ComCm (axE sdE exE)
open D0 (oxE)
def long_spec (s:ByteArray)(n:Nat)(hs:s.size<=1)(hn:n<=1000):zj prog 82 [.str s,.int .i64 n] ⟨0,[]⟩ (fun v H1=>v= .str (rep s n)/\H1=⟨0,[]⟩):=by
 refine Zf false 16 [.tmp 4] func82 ntmps82 results82 fun w0 own0 β0 Q hQ hQn=> ?_;refine Zrs [0,1] ?_;refine Zrs [0,1,5] (z6 ?_);refine Zrs [0,1,5,6] ?_;refine z8 fun Q0 hN0 hX0 hR0 hE0=> ?_;refine zl (σ:=Nat) (fun i=>i<=n) (fun i=>n-i) (fun i=>[(0,.str s),(1,.int .i64 n),(5,.str (rep s i)),(6,.int .i64 i)]) (fun _=>⟨0,[]⟩) 0 (by omega) (ρ:=id) (have xE:=aj @rep.eq_1 @rep.eq_2;Zgx id) ?_;rintro i hi QL1 hL1 hRL1 hEL1;refine z6 (Zrs [0,1,5,6,9] ?_);refine Zcm ?_ ?_
 ·intro h9;replace h9:=Znb h9;have hr:=rep_size s i;have hm:i*s.size<=i*1:=Jj i hs;refine z7 (z6 ?_);refine z8 fun Q1 hN1 hX1 hR1 hE1=> ?_;refine Zrg [0,1,5,6] (za (hN1 _ _ ?_));refine Zrg [0,1,5,6] (za (hL1 _ _ ?_));refine⟨i+1,⟨by omega,by omega⟩,id,(have xE:=aj @rep.eq_1 @rep.eq_2;Zgx id)⟩
 intro h9
 try replace h9:=Znb h9
 refine zk (hEL1 _ _ _ (hX0 _ _ (Zrs [4] (zb (hQ _ _ ?_)))));refine Zob ⟨0,[]⟩ ?_;have:i=n:=by omega
 subst this;exact⟨rfl,by trivial⟩
def let_size {j:Nat}(h:j<6):(letters.getD j default).size=1:=by
 have e:j=0\/j=1\/j=2\/j=3\/j=4\/j=5:=by omega
 rcases e with rfl|rfl|rfl|rfl|rfl|rfl<;>rfl
def key_spec (ls:List Int)(m at_:Nat)(hx:ls.length<=9223372036854775807)(hm:m<=ls.length)(ha:at_<=m):
  zj prog 41 [.ptr 0 0 0 0] ⟨2,[(0,z16 1 m at_),(1,z1a ls)]⟩
   (fun s H1=> ∃(k:ByteArray) (at1:Nat),at1<=m/\k.size<=64/\s= .str k/\H1=⟨2,[(0,z16 1 m at1)]⟩):=by
 refine Zf false 30 [.tmp 2] func41 ntmps41 results41 fun w0 own0 β0 Q hQ hQn=> ?_;refine Zrs [0] (z6 ?_);refine sg [0,6] rfl ?_;intro K hK;refine Zo Zl ?_;refine Zo Zl ?_;refine Zca (z2x ls m at_ 12 hx hm ha (by omega)) (id) ?_;rintro s0 H0 ⟨v,at1,h1,h2,h3,h4,rfl,rfl⟩ s1 H1 hs1 hH1;obtain⟨hs2,hH2⟩:=Zaf hs1 hH1;clear hs1 hH1;subst hs2 hH2;refine Zad ?_;refine Zk hK ?_;clear hK K;refine z8 fun Q0 hN0 hX0 hR0 hE0=> ?_;refine Zrs [0,6,7] ?_;refine Zcm ?_ ?_
 ·intro h7
  try replace h7:=Znb h7
  refine sg [2] rfl ?_;intro K hK;refine Zo Zl ?_;refine Zo Zl ?_;refine Zca (z2x ls m at1 6 hx hm h1 (by omega)) (id) ?_;rintro s0 H0 ⟨u,at2,g1,g2,g3,g4,rfl,rfl⟩ s1 H1 hs1 hH1;obtain⟨hs2,hH2⟩:=Zaf hs1 hH1;clear hs1 hH1;subst hs2 hH2;refine Zad ?_;have g5:=g3 (by omega);refine Zo Zl ?_;have hls:=let_size (j:=u.toNat) (by omega);refine Zad ?_;refine Zo Zl ?_;refine Zd Zl (long_spec (letters.getD u.toNat default) 64 (by omega) (by omega)) (id) ?_;refine Zkl hK ?_;clear hK K;refine zb (hR0 _ _ (hQ _ _ ?_));refine Zob ⟨2,[(0,z16 1 m at2)]⟩ ?_;exact⟨_,at2,g1,by rw[rep_size];omega,rfl,by trivial⟩
 intro h7
 try replace h7:=Znb h7
 refine Zrs [0,14] ?_;refine Zcm ?_ ?_
 ·intro h14
  try replace h14:=Znb h14
  refine Zrs [2] (zb (hR0 _ _ (hQ _ _ ?_)));refine Zob ⟨2,[(0,z16 1 m at1)]⟩ ?_;exact⟨_,at1,h1,by show(0:Nat)<=64;omega,rfl,by trivial⟩
 intro h14
 try replace h14:=Znb h14
 refine z7 (za (hN0 _ _ (Zrs [0,3] (z6 ?_))));refine sg [0,3,4] rfl ?_;intro K hK;refine Zo Zl ?_;refine Zo Zl ?_;refine Zca (z2x ls m at1 3 hx hm h1 (by omega)) (id) ?_;rintro s0 H0 ⟨u,at2,g1,g2,g3,g4,rfl,rfl⟩ s1 H1 hs1 hH1;obtain⟨hs2,hH2⟩:=Zaf hs1 hH1;clear hs1 hH1;subst hs2 hH2;refine Zad ?_;have g5:=g3 (by omega);iterate 2 (refine Zo Zl ?_)
 refine zr ?_;refine Zpr ?_;have hst:at2<=m/\((⟨#[]⟩:ByteArray).size:Int)+((1+u).toNat:Nat)<=10:=⟨g1,by show(0:Int)+_<=10;omega⟩;refine hK _ _ ?_;clear hK K;refine z8 fun Q1 hN1 hX1 hR1 hE1=> ?_;refine zl (σ:=ByteArray×Nat×Nat) (fun σ=>σ.2.1<=m/\(σ.1.size:Int)+σ.2.2<=10) (fun σ=>σ.2.2) (fun σ=>[(0,.ptr 0 0 0 0),(3,.str σ.1),(4,.int .i64 σ.2.2)]) (fun σ=>⟨2,[(0,z16 1 m σ.2.1),(1,z1a ls)]⟩) (⟨#[]⟩,at2,(1+u).toNat) hst (ρ:=id) (by rw[show 1+u=((1+u).toNat:Int) by omega];exact(Zg id)) ?_;rintro⟨k,at3,c⟩ hi QL1 hL1 hRL1 hEL1;refine z6 (Zrs [0,3,4,20] ?_);refine Zcm ?_ ?_
 ·intro h20;replace h20:=Znb h20;have hi1:at3<=m:=hi.1;have hi2:(k.size:Int)+c<=10:=hi.2;refine z7 (z6 ?_);refine z8 fun Q2 hN2 hX2 hR2 hE2=> ?_;refine z3v [0,3,4] rfl ?_;intro K hK;iterate 3 (refine Zo Zl ?_)
  refine Zca (z2x ls m at3 6 hx hm hi1 (by omega)) (id) ?_;rintro s0 H0 ⟨z,at4,f1,f2,f3,f4,rfl,rfl⟩ s1 H1 hs1 hH1;obtain⟨hs2,hH2⟩:=Zaf hs1 hH1;clear hs1 hH1;subst hs2 hH2;refine Zad ?_;have f5:=f3 (by omega);have hls:=let_size (j:=z.toNat) (by omega);refine Zkl hK ?_;clear hK K;refine za (hN2 _ _ (Zrg [0,3,4] (za (hL1 _ _ ?_))));refine⟨(k++letters.getD z.toNat default,at4,c-1),⟨⟨f1,by simp only[ByteArray.size_append];omega⟩,by simp only;omega⟩,id,(have xE:((c-1:Nat):Int)=(c:Int)-1:=(by omega);Zgx id)⟩
 intro h20
 try replace h20:=Znb h20
 refine zk (hEL1 _ _ _ (hX1 _ _ (Zrs [2] (zb (hQ _ _ ?_)))));refine Zob ⟨2,[(0,z16 1 m at3)]⟩ ?_;have hi2:(k.size:Int)+c<=10:=hi.2;exact⟨k,at3,hi.1,by omega,rfl,by trivial⟩
def wrap32 {n:Int}(h:0<=n/\n<=4294967295):IntKind.u32.wrap n=n:=by
 simp only[IntKind.wrap,IntKind.bits,IntKind.signed];simp;omega
def word_spec (ls:List Int)(m at_:Nat)(hx:ls.length<=9223372036854775807)(hm:m<=ls.length)(ha:at_<=m):
  zj prog 42 [.ptr 0 0 0 0] ⟨2,[(0,z16 1 m at_),(1,z1a ls)]⟩
   (fun s H1=> ∃(w:Int) (at1:Nat),at1<=m/\0<=w/\w<=65535/\s= .int .u32 w/\H1=⟨2,[(0,z16 1 m at1)]⟩):=by
 refine Zf false 19 [.tmp 2] func42 ntmps42 results42 fun w0 own0 β0 Q hQ hQn=> ?_;refine Zrs [0] (z6 ?_);refine sg [0,4] rfl ?_;intro K hK;refine Zo Zl ?_;refine Zo Zl ?_;refine Zca (z2x ls m at_ 6 hx hm ha (by omega)) (id) ?_;rintro s0 H0 ⟨v,at1,h1,h2,h3,h4,rfl,rfl⟩ s1 H1 hs1 hH1;obtain⟨hs2,hH2⟩:=Zaf hs1 hH1;clear hs1 hH1;subst hs2 hH2;refine Zad ?_;refine Zk hK ?_;clear hK K;refine z8 fun Q0 hN0 hX0 hR0 hE0=> ?_;refine Zrs [0,4,5] ?_;refine Zcm ?_ ?_
 ·intro h5
  try replace h5:=Znb h5
  refine sg [2] rfl ?_;intro K hK;refine Zo Zl ?_;refine Zo Zl ?_;refine Zca (z2x ls m at1 65536 hx hm h1 (by omega)) (id) ?_;rintro s0 H0 ⟨u,at2,g1,g2,g3,g4,rfl,rfl⟩ s1 H1 hs1 hH1;obtain⟨hs2,hH2⟩:=Zaf hs1 hH1;clear hs1 hH1;subst hs2 hH2;refine Zad ?_;have g5:=g3 (by omega);refine Zo Zl ?_;rw[wrap32 (n:=u) (by omega)];refine Zad ?_;refine Zkl hK ?_;clear hK K;refine zb (hR0 _ _ (hQ _ _ ?_));refine Zob ⟨2,[(0,z16 1 m at2)]⟩ ?_;exact⟨u,at2,g1,by omega,by omega,rfl,by trivial⟩
 intro h5
 try replace h5:=Znb h5
 refine Zrs [0,10] ?_;refine Zcm ?_ ?_
 ·intro h10
  try replace h10:=Znb h10
  refine sg [2] rfl ?_;intro K hK;iterate 3 (refine Zo Zl ?_)
  refine Zca (pick_spec ls [0,65535,32768] m at1 hx hm h1 (by simp) (by simp)) (id) ?_;rintro s0 H0 ⟨pi,at2,g1,g2,rfl,rfl⟩ s1 H1 hs1 hH1;obtain⟨hs2,hH2⟩:=Zaf hs1 hH1;clear hs1 hH1;subst hs2 hH2;refine Zad ?_
  have g3:0<=nth [0,65535,32768] pi/\nth [0,65535,32768] pi<=65535:=by
   have e:pi=0\/pi=1\/pi=2:=by simp only[QN,JH] at g2;omega
   rcases e with rfl|rfl|rfl<;>simp[nth]
  refine Zo Zl ?_;rw[wrap32 (n:=nth [0,65535,32768] pi) (by omega)];refine Zad ?_;refine Zkl hK ?_;clear hK K;refine zb (hR0 _ _ (hQ _ _ ?_));refine Zob ⟨2,[(0,z16 1 m at2)]⟩ ?_;exact⟨_,at2,g1,g3.1,g3.2,rfl,by trivial⟩
 intro h10
 try replace h10:=Znb h10
 refine z7 (za (hN0 _ _ (sg [2] rfl ?_)));intro K hK;refine Zo Zl ?_;refine Zo Zl ?_;refine Zca (z2x ls m at1 8 hx hm h1 (by omega)) (id) ?_;rintro s0 H0 ⟨u,at2,g1,g2,g3,g4,rfl,rfl⟩ s1 H1 hs1 hH1;obtain⟨hs2,hH2⟩:=Zaf hs1 hH1;clear hs1 hH1;subst hs2 hH2;refine Zad ?_;have g5:=g3 (by omega);refine Zo Zl ?_;rw[wrap32 (n:=u) (by omega)];refine Zad ?_;refine Zkl hK ?_;clear hK K;refine zb (hQ _ _ ?_);refine Zob ⟨2,[(0,z16 1 m at2)]⟩ ?_;exact⟨u,at2,g1,by omega,by omega,rfl,by trivial⟩
end
section
def zi:z1o prog 62=⟨true,.struct,3,32,[(0,some false,1),(1,some false,1),(2,some false,1)]⟩:=by kernel_rfl
def Tryz.szNode:z2m prog 62=3:=by kernel_rfl
def zn:z3d prog 62=some [.int .i64 0,.str ⟨#[]⟩,.int .u32 0]:=by kernel_rfl
def Tryz.tyNodes:z1o prog 23=⟨true,.slice 62,1,24,[]⟩:=by kernel_rfl
structure Nd where
 id:Int
 key:ByteArray
 word:Int
deriving DecidableEq
def Nd.sv (x:Nd):List SV:=[.int .i64 x.id,.str x.key,.int .u32 x.word]
def noNd:Nd:=⟨0,⟨#[]⟩,0⟩
def nd (l:List Nd)(i:Nat):Nd:=l.getD i noNd
def nds (l:List Nd):Nat->List SV:=fun i=>(nd l i).sv
def z4z {l:List Nd}{i:Nat}(h:i<l.length):nd l i=l[i]:=by simp[nd,List.getD,h]
def z5s {xs ys:List Nd}{i:Nat}(h:i<xs.length):nd (xs++ys) i=nd xs i:=by simp[nd,List.getD,QC h]
def nd_append_ge {xs ys:List Nd}{i:Nat}(h:¬i<xs.length):nd (xs++ys) i=nd ys (i-xs.length):=by simp[nd,List.getD,QI (J3 h)]
def app_nds (xs ys:List Nd):app (nds xs) xs.length (nds ys)=nds (xs++ys):=by
 funext i
 simp only[app,nds]
 split
 ·rename_i h;rw[z5s h]
 rename_i h;rw[nd_append_ge h]
def rowsOf_nd (a:Int)(k:ByteArray)(w:Int):z3y 3 1 [SV.int .i64 a,SV.str k,SV.int .u32 w]=nds [⟨a,k,w⟩]:=by
 funext i
 cases i with
 |zero=>rfl
 |succ i=>rfl
def z21 (ρ:Nat->Nat)(l:List Nd):(fun i=>SV.renL ρ (nds l i))=nds l:=by
 funext i;simp[nds,Nd.sv,SV.renL,SV.ren]
def nds_ren' (ρ:Nat->Nat)(l:List Nd)(i:Nat):SV.renL ρ (nds l i)=nds l i:=jv (z21 ρ l) i
def z4e (m:Nat)(l:List Nd)(i:Nat):SV.ltL m (nds l i):=by simp[nds,Nd.sv,SV.ltL,SV.lt]
def inNds (l:List Nd):Nat×(Nat->Sk.Obj):=rI 62 3 l.length (nds l)
def ownNds (l:List Nd):Nat×(Nat->Sk.Obj):=rO 62 3 l.length (nds l)
def z5l (x y:ByteArray):sEq x y=decide (x=y):=by
 unfold sEq
 by_cases h:x=y
 ·subst h;simp
 rw[qG h,qH];intro he;apply h
 cases x with
 |mk a=>cases y with
  |mk b=>
   have h1:(⟨a⟩:ByteArray).toList=a.toList:=jy _;have h2:(⟨b⟩:ByteArray).toList=b.toList:=jy _;rw[h1,h2] at he
   congr 1
   exact JA.1 he
def okKey (k:ByteArray):Bool:=decide (k.size<=64)
def okWord (w:Int):Bool:=decide (w<65536)
def ComNm.exE:=aj3 @zg @zm @zd
open ComAm (gxE)
open ComNm (exE)
open D0 (oxE sdE)
def validKey_spec (k:ByteArray):zj prog 84 [.str k] ⟨0,[]⟩ (fun s H1=>s= .bool (okKey k)/\H1=⟨0,[]⟩):=by
 refine Zf false 6 [.tmp 2] func84 ntmps84 results84 fun w0 own0 β0 Q hQ hQn=> ?_;refine Zrs [0] ?_;refine Zrs [2] (zb (hQ _ _ ?_));refine Zob ⟨0,[]⟩ ?_;refine⟨?_,by trivial⟩
 congr 1
 rw[qY];simp only[okKey,qt,qj,qk,qC,qn,qr,qm,qg,qD,qH,Qi,ne_eq,QB,QA,qO,qF];omega
def z5f (k:ByteArray):zj prog 123 [.str k] ⟨0,[]⟩ (fun s H1=>s= .bool (okKey k)/\H1=⟨0,[]⟩):=by
 refine Zf false 6 [.tmp 2] func123 ntmps123 results123 fun w0 own0 β0 Q hQ hQn=> ?_;refine Zrs [0] ?_;refine Zrs [2] (zb (hQ _ _ ?_));refine Zob ⟨0,[]⟩ ?_;refine⟨?_,by trivial⟩
 congr 1
 rw[qY];simp only[okKey,qt,qj,qk,qC,qn,qr,qm,qg,qD,qH,Qi,ne_eq,QB,QA,qO,qF];omega
def validWord_spec (w:Int):zj prog 85 [.int .u32 w] ⟨0,[]⟩ (fun s H1=>s= .bool (okWord w)/\H1=⟨0,[]⟩):=by
 refine Zf false 5 [.tmp 2] func85 ntmps85 results85 fun w0 own0 β0 Q hQ hQn=> ?_;refine Zrs [0] ?_;refine Zrs [2] (zb (hQ _ _ ?_));refine Zob ⟨0,[]⟩ ?_;refine⟨?_,by trivial⟩
 congr 1
 rw[qY];simp only[okWord,qt,qj,qk,qC,qn,qr,qm,qg,qD,qH,Qi,ne_eq,QB,QA,qO,qF];omega
def refValidWord_spec (w:Int):zj prog 124 [.int .u32 w] ⟨0,[]⟩ (fun s H1=>s= .bool (okWord w)/\H1=⟨0,[]⟩):=by
 refine Zf false 5 [.tmp 2] func124 ntmps124 results124 fun w0 own0 β0 Q hQ hQn=> ?_;refine Zrs [0] ?_;refine Zrs [2] (zb (hQ _ _ ?_));refine Zob ⟨0,[]⟩ ?_;exact⟨rfl,by trivial⟩
end
end Go.Proofs
namespace Go.Sk
open Go.RowKit
def scEq (P:Program)(t:TypeId):SV->SV->Prop
 |.int k _,.int k' _=>k=k'/\∃q,P.underlying t=some (.int q)
 |.bool _,.bool _=>P.underlying t=some .bool
 |.str _,.str _=>P.underlying t=some .string
 |_,_=>False
def okEq (P:Program):List (Bool×TypeId×Nat)->Nat->List SV->List SV->Prop
 |[],_,[],[]=>True
 |(b,t,off)::fs,i,a::la,c::lb=>(b=false/\off=i/\isAggT P t=some false/\scEq P t a c)/\okEq P fs (i+1) la lb
 |_,_,_,_=>False
def eqL_cons (a b:SV)(l r:List SV):eqL (a::l) (b::r)=(eqS a b && eqL l r):=by
 cases l<;>cases r<;>simp[eqL]
def run_part {P:Program}{t:TypeId}(ha:isAggT P t=some false)(pre:List Value)(v:Value)(r:List Value)(w:World):(part t (pre++v::r).toArray pre.length).run P w= .ok v w:=by
 unfold isAggT at ha
 cases hu:P.underlying t with
 |none=>rw[hu] at ha;cases ha
 |some d=>
  rw[hu] at ha;simp only[jj,Qx] at ha;simp[part,z65 hu,ha]
def run_scEq {P:Program}{β:Env}{t:TypeId}{a c:SV}{va vc:Value}(h:scEq P t a c)(ha:den β a va)(hc:den β c vc)(d:Nat)(w:World):(Op.equalIn (d+1) t va vc).run P w= .ok (eqS a c) w:=by
 unfold scEq at h
 split at h
 ·obtain⟨rfl,q,hq⟩:=h;simp only[den] at ha hc;subst ha hc;exact J9 w d t _ q _ _ hq
 ·simp only[den] at ha hc;subst ha hc;exact run_equalIn_bool' w d t _ _ h
 ·simp only[den] at ha hc;subst ha hc;rw[run_equalIn_string w d t _ _ h,<-beq_toListBytes]
  rfl
 ·exact h.elim
def run_eqFields {P:Program}{β:Env}(d:Nat)(w:World):∀(fs:List Field) (la lb:List SV) (pre pre' ra rb:List Value),okEq P (fs.map fun f=>(f.name== "_",f.type,f.offset)) pre.length la lb->pre.length=pre'.length->z2u β la ra->z2u β lb rb->
  (Op.eqFields (d+1) (pre++ra).toArray (pre'++rb).toArray fs).run P w= .ok (eqL la lb) w
 |[],[],[],_,_,_,_,_,_,_,_=>by simp[Op.eqFields,eqL]
 |f::fs,a::la,c::lb,pre,pre',ra,rb,h,hl,ha,hc=>by
  simp only[q8,okEq] at h;obtain⟨⟨h1,h2,h3,h4⟩,h5⟩:=h;simp only[z2u] at ha hc;obtain⟨va,ra,hva,hra,rfl⟩:=ha;obtain⟨vc,rc,hvc,hrc,rfl⟩:=hc;have hn:f.name≠ "_" :=by simpa using h1
  have p1:=run_part h3 pre va ra w;have p2:=run_part h3 pre' vc rc w;rw[<-h2] at p1;rw[<-hl,<-h2] at p2;have ih:=run_eqFields d w fs la lb (pre++[va]) (pre'++[vc]) ra rc (by simpa using h5) (by simp[hl]) hra hrc;simp only[QF,List.singleton_append] at ih;simp only[Op.eqFields,qe hn,qM,p1,p2,qA,run_scEq h4 hva hvc,eqL_cons]
  cases eqS a c with
  |false=>simp
  |true=>simpa using ih
 |[],[],_::_,_,_,_,_,h,_,_,_=>by simp[okEq] at h
 |[],_::_,[],_,_,_,_,h,_,_,_=>by simp[okEq] at h
 |[],_::_,_::_,_,_,_,_,h,_,_,_=>by simp[okEq] at h
 |_::_,[],_,_,_,_,_,h,_,_,_=>by simp[okEq] at h
 |_::_,_::_,[],_,_,_,_,h,_,_,_=>by simp[okEq] at h
def EqT.of {P:Program}{t:TypeId}{la lb:List SV}(fs:List (Bool×TypeId×Nat))(hg:P.eqGuardType P.depth t=false)(hh:P.stoodInHeld t=false)(hu:P.underlying t=some (.struct (P.fieldsOf t)))
  (hf:((P.fieldsOf t).toList.map fun f=>(f.name== "_",f.type,f.offset))=fs) (h:okEq P fs 0 la lb):EqT P t la lb:=by
 intro β xs ys hx hy x y op w _;simp only[qM,run_eqGuard_agg w op t x y _ _ hg,qA]
 show(Op.equalIn (9999+1) t _ _).run P w=_
 rw[JS w 9999 t _ _ hu hh];subst hf;exact run_eqFields 9998 w _ la lb [] [] xs ys h rfl hx hy
end Go.Sk
namespace Go.Sk
def St.tell {X:Cx}{β:Env}{H:AH}{w:World}(hS:St X β H w){id:Nat}{F:Nat->Obj}{r:Row}(hf:find H.os id=some (1,F))(hr:F 0= .row r)(hv:r.var=true)(hn:r.n=1)(ho:r.own=true){l':List SV}
  (hlen:l'.length=r.sz) (hsc:∀s∈l',s.scalar=true) (hd:∀vs,z2u β (r.f 0) vs->z2u β l' vs) (hlt:SV.ltL H.nxt l'):
  St X β ⟨H.nxt,setO H.os id 0 (.row {r with f:=fun _=>l'})⟩ w:=by
 have hl:=zy hf (jB.2 rfl);rw[hr] at hl;rcases hS.holds _ _ _ hl with⟨h0,_⟩|⟨L,hb,h1,h2,h3,h4⟩
 ·omega
 refine St.upd hS hl ho hb (o':= .row {r with f:=fun _=>l'}) ho (z3c _ _ _ _ _ hl) ⟨rfl,rfl,rfl,rfl,rfl,fun _ _=>rfl⟩ ?_ (Obj.lt_row.2 fun i _=>hlt);refine .inr ⟨L,rfl,h1,h2,fun i hi=> ?_,h4⟩
 have hi0:i=0:=by
  have:i<r.n:=hi;omega
 subst hi0;obtain⟨q1,q2⟩:=h3 0 (by omega)
 let g:Nat->Value:=fun j=>(w.cell? ⟨L.blk,L.off+0*L.sz+j,none⟩).getD undef
 have hg:∀(j:Nat) (s:SV),(r.f 0)[j]? =some s->den β s (g j)/\w.cell? ⟨L.blk,L.off+0*L.sz+j,none⟩=some (g j):=fun j s hs=>by
  obtain⟨_,v,hv,hdv⟩:=q2 j s hs;have:g j=v:=by simp only[g];rw[hv];rfl
  rw[this];exact⟨hdv,hv⟩
 have hdl:=hd _ (denL_mk (r.f 0) g fun j s hs=>(hg j s hs).1);refine⟨hlen,fun j s hs=>⟨hsc s (qW hs),?_⟩⟩;obtain⟨v,hv1,hv2⟩:=z4k hdl j s hs
 have hj:j<(r.f 0).length:=by
  have:=(qZ.1 hs).1;have hlen':l'.length=r.sz:=hlen;rw[hlen'] at this;rw[q1];exact this
 rw[qQ,jk hj] at hv1
 cases hv1
 exact⟨_,(hg j _ (qJ hj)).2,hv2⟩
def z2g {X:Cx}{Q:Exit->Fr->AH->Prop}{fr:Fr}{H:AH}{l:List Code}{c:Code}(id j:Nat)(e:TypeId)(sz:Nat)(f:Nat->List SV){F:Nat->Obj}{r:Row}(hf:find H.os id=some (1,F))(hr:F 0= .row r)(hv:r.var=true)(hn:r.n=1)(ho:r.own=true)
  (hs:(r.f 0).all SV.scalar=true) (hlen:(r.f 0).length=r.sz) (hj:(r.f 0)[j]? =some .nils) (hlt:id<H.nxt) (hrl:SV.ltL H.nxt (r.f 0))
  (h:Cs X (c::l) Q fr ⟨H.nxt+1,setO ((H.nxt,uQ (.row ⟨true,false,e,sz,0,f⟩))::H.os) id 0 (.row {r with f:=fun _=>(r.f 0).set j (.slc true H.nxt 0 0 0)})⟩):Cs X (c::l) Q fr H:=fun β a w hF hS=>by
 have hag:=Env.agree_set β H.nxt (fun _=>none)
 have hS1:St X (β.set H.nxt fun _=>none) ⟨H.nxt+1,(H.nxt,uQ (.row ⟨true,false,e,sz,0,f⟩))::H.os⟩ w:=by
  refine St.new' hS (fun k L _ hq=>by cases hq) (fun k k' L L' _ _ hq _ _=>by cases hq) (fun k _=> ?_) (fun k _=> ?_)
  ·exact .inl ⟨rfl,rfl⟩
  ·exact Obj.lt_row.2 fun i hi=>absurd hi (qI _)
 refine h (β.set H.nxt fun _=>none) a w (hF.agree (QH H.nxt) hag) (hS1.tell (F:=F) (r:=r) ?_ hr hv hn ho ?_ ?_ ?_ ?_)
 ·show find ((H.nxt,_)::H.os) id=_
  simp only[find];rw[qc (by omega)];exact hf
 ·rw[qy];exact hlen
 ·intro s hs';rcases List.mem_or_eq_of_mem_set hs' with h1|h1
  ·exact qu.1 hs s h1
  ·subst h1;rfl
 ·intro vs hd;have hl2:=z2k hd
  have hvs:vs=(List.range ((r.f 0).set j (.slc true H.nxt 0 0 0)).length).map (fun q=>vs.getD q undef):=by
   apply Qw
   ·simp[hl2]
   ·intro q h1 h2;simp[h1]
  rw[hvs];refine denL_mk _ _ fun q s hq=> ?_;rw[Jw] at hq
  split at hq
  ·rename_i he;subst he
   split at hq
   ·cases hq
    obtain⟨v,hv1,hv2⟩:=z4k hd _ _ hj;simp only[den] at hv2;subst hv2;simp only[den,z56,↓reduceIte];refine .inl ⟨by unfold Env.set;rw[qe rfl],trivial,trivial,?_⟩;simp[List.getD,hv1]
   ·cases hq
  ·obtain⟨v,hv1,hv2⟩:=z4k hd _ _ hq;have:vs.getD q undef=v:=by simp[List.getD,hv1]
   rw[this];exact hv2
 ·refine SV.ltL_of_get fun q s hq=> ?_;rw[Jw] at hq
  split at hq
  ·split at hq
   ·cases hq;exact Qp _
   ·cases hq
  ·exact SV.lt_mono (QH _) s (SV.ltL_get hrl q s hq)
def opdK_gd {fr:Fr}{G:Bool}{t:Nat}{s:SV}{k:SV->Prop}(h:get fr t=some (.gd G s))(hk:k s):z5k fr G (.tmp t) k:=by
 unfold z5k;simp only[h];exact⟨fun h=>h,hk⟩
def stp_max4 {P:Program}{wr:Bool}{m0:Nat}{dr:Bool}{W Wq:List Nat}{ops:Array Oper}{o:Oper}{fr:Fr}{H:AH}{K:Fr->AH->Prop}{g:Nat×Bool}{G:Bool}{t1 t2 t3 t4 d:Nat}{ats:Array TypeId}{a b c e:Int}
  (hop:o.op= .call {callee:= .builtin .max,args:=⟨[.tmp t1,.tmp t2,.tmp t3,.tmp t4]⟩,argTypes:=ats}) (hd:o.dst=some d) (hg:o.guard=some g) (hG:∀k:Bool->Prop,k G->grdK ops fr g k)
  (h1:get fr t1=some (.gd G (.int .i64 a))) (h2:get fr t2=some (.gd G (.int .i64 b))) (h3:get fr t3=some (.gd G (.int .i64 c))) (h4:get fr t4=some (.gd G (.int .i64 e)))
  (h:∀x,x=max (max (max a b) c) e->K ((d,.gd G (.int .i64 x))::fr) H):stp P wr m0 dr W Wq ops o fr H K:=by
 unfold stp;rw[hg];refine hG _ ?_;rw[hop,qe (show isQ _=true from rfl),hd];unfold qop
 show opdsK fr G [.tmp t1,.tmp t2,.tmp t3,.tmp t4] _
 exact opdK_gd h1 (opdK_gd h2 (opdK_gd h3 (opdK_gd h4 (h _ rfl))))
def grd_var {ops:Array Oper}{fr:Fr}{j t:Nat}{b w G:Bool}(o:Oper)(ho:ops[j]? =some o)(hd:o.dst=some t)(hf:get fr t=some (.bool b))(hG:(b==w)=G):∀k:Bool->Prop,k G->grdK ops fr (j,w) k:=fun k hk=>by
 subst hG;unfold grdK;rw[ho];simp only[hd,hf];exact hk
end Go.Sk
namespace Go.Sk
open Go.RowKit
section
def aft_new' {X:Cx}{β:Env}{H:AH}{w:World}(hS:St X β H w){e:TypeId}{var:Bool}{sz n:Nat}{f:Nat->List SV}{cs:List SV}{vs:List Value}{s:SV}{v:Value}{k:SV->AH->Prop}
  (hl:cs.length=n*sz) (hm:n<=maxLen) (hd:z2u β cs vs) (hlt:SV.ltL H.nxt cs) (hsc:∀s∈cs,s.scalar=true)
  (hf:∀i,i<n->(f i).length=sz/\∀j,j<sz->(f i)[j]? =cs[i*sz+j]?)
  (hv:∀β':Env,β' H.nxt 0=some ⟨w.heap.size,0,sz,n⟩->den β' s v) (hsl:s.lt (H.nxt+1))
  (hk:k s ⟨H.nxt+1,(H.nxt,uQ (.row ⟨true,var,e,sz,n,f⟩))::H.os⟩):
  ∃β' s H',k s H'/\den β' s v/\s.lt H'.nxt/\St X β' H' (w.alloc (.cells vs.toArray e))/\Env.agree H.nxt β β'/\H.nxt<H'.nxt/\Sub H H'/\∀k L,β' H.nxt k=some L->w.heap.size<=L.blk:=by
 have hag:=Env.agree_set β H.nxt (fun _=>some ⟨w.heap.size,0,sz,n⟩);refine⟨β.set H.nxt (fun _=>some ⟨w.heap.size,0,sz,n⟩),s,_,hk,hv _ (by unfold Env.set;rw[qe rfl]),hsl,?_,hag,Qp _,sub_cons _ _ _ fun _ _ _ h=>h,fun k L he=> ?_⟩
 ·refine St.new hS ((Blw.refl _ w).alloc (qd _) _) (fun k L _ he=>by cases he;exact qd _) (fun k k' _ _ h h' _ _ _=>by omega) (fun k _=> ?_) (fun k _=>row_lt (SV.ltL_mono (QH _) _ hlt) hf);exact row_holds_new hl hm (z4y hag cs vs hlt hd) hsc hf
 ·unfold Env.set at he;rw[qe rfl] at he;cases he;exact qd _
def allocK_new {X:Cx}{β:Env}{H:AH}{w:World}(hS:St X β H w){e:TypeId}{k:SV->AH->Prop}(h:allocK X.P H e k):
  ∃v w',(Instr.alloc e true (.tuple #[])).run X.P w= .ok v w'/\(∃β' s H',k s H'/\den β' s v/\s.lt H'.nxt/\St X β' H' w'/\Env.agree H.nxt β β'/\H.nxt<H'.nxt/\Sub H H'/\∀k L,β' H.nxt k=some L->w.heap.size<=L.blk)/\Blw w.heap.size w w':=by
 unfold allocK at h
 split at h
 ·rename_i z hz;obtain⟨zv,hzr,rfl⟩:=zeroOf_run hz;refine⟨.pointer (some ⟨w.heap.size,0,none⟩),w.alloc (.cells zv.cells e),?_,?_,(Blw.refl _ w).alloc (qd _) _⟩
  ·simp only[Instr.alloc,qM,hzr w,qA,newVar,newRow,J0,Qh]
   rfl
  ·have:=aft_new' (vs:=zv.cells.toList) hS (n:=1) (by simp) (by simp[maxLen]) (z49 β _) (z4u _ _) (fun s hs=>(qu.1 h.1) s hs) (one_row _) (v:= .pointer (some ⟨w.heap.size,0,none⟩)) (fun β' hb=>by simp only[den];exact⟨_,hb,by simp⟩) (Qp _) h.2;simpa using this
 ·exact h.elim
def isNew (ops:Array Oper)(i:Nat):Bool:=match ops[i]? with
 |some o=>o.guard.isNone && (match o.op with| .alloc _=>true|_=>false)
 |none=>false
def stp_new {X:Cx}{β:Env}{H:AH}{w:World}(hS:St X β H w){W Wq:List Nat}{fr:Fr}{a:Act}(hF:FrOk X β H.nxt fr a){ops:Array Oper}{o:Oper}(hd:∀t,o.dst=some t->t<X.n){K:Fr->AH->Prop}{e:TypeId}(hg:o.guard=none)(ho:o.op= .alloc e)
  (h:stp X.P X.wrap X.m0 true W Wq ops o fr H K) {Q:Exit->Act->World->Prop}:
  o.wp X.P a w (fun a' w'=> ∃β' fr' H',K fr' H'/\FrOk X β' H'.nxt fr' a'/\St X β' H' w'/\Env.agree H.nxt β β'/\H.nxt<H'.nxt/\Sub H H'/\(∀k L,β' H.nxt k=some L->w.heap.size<=L.blk)/\Kp w (fun _=>False) w') Q:=by
 unfold stp at h;rw[hg,ho] at h;simp only[isQ,qz,↓reduceIte,eop] at h;obtain⟨v,w',hr,⟨β',s,H',h1,h2,h3,h4,h5,h6,h7,h8⟩,hB⟩:=allocK_new hS h;unfold Oper.wp;rw[show execOp a.eval o=(do pure (.value (<-Instr.alloc e true (.tuple #[])))) from by simp only[execOp,ho]];simp only[qM,hr,qA,Qh,Oper.upon];exact⟨β',_,H',h1,(hF.agree (Nat.le_of_lt h6) h5).put hd h3 h2,h4,h5,h6,h7,h8,.of_below hB⟩
inductive Plan where
 |done
 |op (i:Nat) (p:Plan)
 |two (i j:Nat) (p q:Plan)
 |three (i j k:Nat) (p q r:Plan)
 |four (i j k m:Nat) (p q r t:Plan)
def Plan.len:Plan->Nat
 |.done=>0
 |.op _ p=>p.len+1
 |.two _ _ p _=>p.len+1
 |.three _ _ _ p _ _=>p.len+1
 |.four _ _ _ _ p _ _ _=>p.len+1
def anyW (l:List Nat):Bool:=l.contains 999999
def wOf (W:List (List Nat))(i:Nat)(H:AH)(N:List Nat):List Nat:=if anyW (W.getD i []) then List.range H.nxt else W.getD i []++N
def stpI (P:Program)(wr:Bool)(m0:Nat)(W U:List (List Nat))(ops:Array Oper)(N:List Nat)(i:Nat)(fr:Fr)(H:AH)(K:Fr->AH->Prop):Prop:=
 match ops[i]? with
 |some o=>stp P wr m0 true (wOf W i H N) (U.getD i []) ops o fr H K
 |none=>False
def newN (ops:Array Oper)(i:Nat)(H:AH)(N:List Nat):List Nat:=if isNew ops i then H.nxt::N else N
def runT (P:Program)(wr:Bool)(m0:Nat)(W U:List (List Nat))(ops:Array Oper):Plan->List Nat->Fr->AH->(Fr->AH->Prop)->Prop
 |.done,_,fr,H,K=>K fr H
 |.op i p,N,fr,H,K=>stpI P wr m0 W U ops N i fr H fun fr' H'=>runT P wr m0 W U ops p (newN ops i H N) fr' H' K
 |.two i j p q,N,fr,H,K=>(stpI P wr m0 W U ops N i fr H fun fr' H'=>runT P wr m0 W U ops p (newN ops i H N) fr' H' K)/\(stpI P wr m0 W U ops N j fr H fun fr' H'=>runT P wr m0 W U ops q (newN ops j H N) fr' H' K)
 |.three i j k p q r,N,fr,H,K=>(stpI P wr m0 W U ops N i fr H fun fr' H'=>runT P wr m0 W U ops p (newN ops i H N) fr' H' K)/\(stpI P wr m0 W U ops N j fr H fun fr' H'=>runT P wr m0 W U ops q (newN ops j H N) fr' H' K)/\(stpI P wr m0 W U ops N k fr H fun fr' H'=>runT P wr m0 W U ops r (newN ops k H N) fr' H' K)
 |.four i j k m p q r t,N,fr,H,K=>(stpI P wr m0 W U ops N i fr H fun fr' H'=>runT P wr m0 W U ops p (newN ops i H N) fr' H' K)/\(stpI P wr m0 W U ops N j fr H fun fr' H'=>runT P wr m0 W U ops q (newN ops j H N) fr' H' K)/\(stpI P wr m0 W U ops N k fr H fun fr' H'=>runT P wr m0 W U ops r (newN ops k H N) fr' H' K)/\(stpI P wr m0 W U ops N m fr H fun fr' H'=>runT P wr m0 W U ops t (newN ops m H N) fr' H' K)
@[congr] theorem runT_c {P:Program} {wr:Bool} {m0:Nat} {W U:List (List Nat)} {ops:Array Oper} {p:Plan} {N:List Nat} {fr:Fr} {H:AH} {K:Fr->AH->Prop}:runT P wr m0 W U ops p N fr H K=runT P wr m0 W U ops p N fr H K:=rfl
def opQ (ops:Array Oper)(i:Nat):Bool:=match ops[i]? with|some o=>isQ o.op|none=>false
def opL (ops:Array Oper)(i:Nat):Bool:=match ops[i]? with|some o=>isLoad o.op|none=>false
def effOkT (ops:Array Oper)(A Wf Uq:List (List Nat)):Bool:=
 (List.range ops.size).all fun j=>match ops[j]? with
  |some o=>isQ o.op||(List.range ops.size).all fun i=> !opL ops i||(A.getD j []).contains i||(!anyW (Wf.getD j []) && (Wf.getD j []).all fun id=>(Uq.getD i []).contains id)
  |none=>true
def z5t (ops:Array Oper):Plan->Array Bool->Bool->Bool
 |.done,listed,_=>(Region.ready .any ops listed).isEmpty
 |.op i p,listed,dirty=>
  (if opQ ops i then
   if dirty && opL ops i then Region.ready .any ops listed==[i]
   else(Region.ready .any ops listed).contains i && Region.free .any ops listed i
  else Region.ready .any ops listed==[i]) && z5t ops p (listed.setIfInBounds i true) (dirty|| !opQ ops i)
 |.two i j p q,listed,dirty=>Region.ready .any ops listed==[i,j] && (p.len==q.len) && z5t ops p (listed.setIfInBounds i true) (dirty|| !opQ ops i) && z5t ops q (listed.setIfInBounds j true) (dirty|| !opQ ops j)
 |.three i j k p q r,listed,dirty=>Region.ready .any ops listed==[i,j,k] && (p.len==q.len) && (p.len==r.len) && z5t ops p (listed.setIfInBounds i true) (dirty|| !opQ ops i) && z5t ops q (listed.setIfInBounds j true) (dirty|| !opQ ops j) && z5t ops r (listed.setIfInBounds k true) (dirty|| !opQ ops k)
 |.four i j k m p q r t,listed,dirty=>Region.ready .any ops listed==[i,j,k,m] && (p.len==q.len) && (p.len==r.len) && (p.len==t.len) && z5t ops p (listed.setIfInBounds i true) (dirty|| !opQ ops i) && z5t ops q (listed.setIfInBounds j true) (dirty|| !opQ ops j) && z5t ops r (listed.setIfInBounds k true) (dirty|| !opQ ops k) && z5t ops t (listed.setIfInBounds m true) (dirty|| !opQ ops m)
section
variable {X:Cx} {ops:Array Oper} {K:Fr->AH->Prop} {Q:Exit->Act->World->Prop} {A Wf Uq:List (List Nat)} {w1:World} {β1:Env} {H1:AH}
def AtT (X:Cx)(w1:World)(β1:Env)(H1:AH)(β:Env)(H:AH)(w:World)(dirty:Bool)(N:List Nat):Prop:=
 St X β H w/\(dirty=false->w=w1/\β=β1/\H=H1)/\Env.agree H1.nxt β1 β/\H1.nxt<=H.nxt/\Sub H1 H/\w1.heap.size<=w.heap.size/\∀id∈N,id<H.nxt/\∀k L,β id k=some L->w1.heap.size<=L.blk
def SW (w1:World)(β1:Env)(H1:AH)(Wf:List (List Nat))(j:Nat)(w w':World):Prop:=Kp w (fun b=>anyW (Wf.getD j [])=true\/inW β1 H1 (Wf.getD j []) b\/w1.heap.size<=b) w'
def forced (hWn:∀j,anyW (Wf.getD j [])=false->∀id∈Wf.getD j [],id<H1.nxt){listed:Array Bool}{dirty:Bool}{β:Env}{H:AH}{w:World}{fr:Fr}{a:Act}{N:List Nat}(hd:dstOk X.n ops.toList=true){fuel:Nat}{i:Nat}
  (hA:AtT X w1 β1 H1 β H w dirty N) (hF:FrOk X β H.nxt fr a) {k:Fr->AH->Prop} (h:stpI X.P X.wrap X.m0 Wf Uq ops N i fr H k)
  (next:∀β' H' w' fr' a',AtT X w1 β1 H1 β' H' w' (dirty|| !opQ ops i) (newN ops i H N)->FrOk X β' H'.nxt fr' a'->k fr' H'->wpAnyG X.P ops Q (SW w1 β1 H1 Wf) (z5j ops) fuel (listed.setIfInBounds i true) a' w'):
  wpOp X.P ops Q i (fun a' w'=>((z5j ops i=true->w'=w)/\SW w1 β1 H1 Wf i w w')/\wpAnyG X.P ops Q (SW w1 β1 H1 Wf) (z5j ops) fuel (listed.setIfInBounds i true) a' w') a w:=by
 obtain⟨hS,hnd,hag,hle,hsub,hwz,hN⟩:=hA;unfold stpI at h
 cases ho:ops[i]? with
 |none=>rw[ho] at h;exact h.elim
 |some o=>
  rw[ho] at h;simp only at h;have hom:o∈ops.toList:=by have:=jG ho;simpa using this
  have hdo:∀t,o.dst=some t->t<X.n:=dstOk_spec hd hom
  cases hq:isQ o.op with
  |true=>
   have hisq:z5j ops i=true:=by unfold z5j;rw[ho];exact hq
   have hoq:opQ ops i=true:=by unfold opQ;rw[ho];exact hq
   have hnn:newN ops i H N=N:=by
    unfold newN isNew;rw[ho]
    cases hop:o.op<;>simp_all[isQ]
   obtain⟨v,fr',hy,hk,hF'⟩:=stp_quiet (C:=fun w'=>w'=w) hS hF hdo hq (fun _ w' hw'=>by rw[hw'];exact Kp.refl _ _) h;refine hy.wpOp ho rfl ⟨⟨fun _=>rfl,Kp.refl _ _⟩,next β H w fr' _ ⟨hS,?_,hag,hle,hsub,hwz,?_⟩ hF' hk⟩
   ·rw[hoq];simpa using hnd
   ·rw[hnn];exact hN
  |false=>
   have hisq:z5j ops i=false:=by unfold z5j;rw[ho];exact hq
   have hoq:opQ ops i=false:=by unfold opQ;rw[ho];exact hq
   have hdt:(dirty|| !opQ ops i)=true:=by rw[hoq];simp
   rw[hdt] at next
   by_cases hnew:isNew ops i=true
   ·have hnn:newN ops i H N=H.nxt::N:=by unfold newN;rw[qe hnew]
    rw[hnn] at next
    have hn2:o.guard=none/\∃e,o.op= .alloc e:=by
     unfold isNew at hnew;rw[ho] at hnew;simp only[qj,Option.isNone_iff_eq_none] at hnew;refine⟨hnew.1,?_⟩;have h2:=hnew.2
     split at h2
     ·rename_i e he;exact⟨e,he⟩
     ·cases h2
    obtain⟨hg,e,hop⟩:=hn2;have he:=stp_new (Q:=Q) hS hF hdo hg hop h;unfold wpOp;rw[ho];simp only;rw[qe (by simp[Region.wanted,hg])];refine .inl (Ja (fun a' w' hp=> ?_) he);obtain⟨β',fr',H',hk,hF',hS',hag',hle',hsub',hfr,hkp'⟩:=hp;refine⟨⟨fun hh=>(by rw[hisq] at hh;cases hh),hkp'.mono fun b hb=>hb.elim⟩,next β' H' w' fr' a' ⟨hS',fun hh=>(by cases hh),hag.trans hag' hle,qR hle (Nat.le_of_lt hle'),hsub.trans hsub' hle,qR hwz hkp'.1,?_⟩ hF' hk⟩;intro id hid;rcases qv.1 hid with rfl|hid
    ·exact⟨hle',fun k L hL=>qR hwz (hfr k L hL)⟩
    ·obtain⟨q1,q2⟩:=hN id hid;exact⟨Nat.lt_trans q1 hle',fun k L hL=>q2 k L (by rw[<-hag' id k q1];exact hL)⟩
   ·have hnn:newN ops i H N=N:=by unfold newN;rw[qc hnew]
    rw[hnn] at next;have he:=stp_eff (Q:=Q) hS hF hdo hq h;unfold wpOp;rw[ho];simp only
    split at he
    ·rename_i hw;rw[qe hw];refine .inl (Ja (fun a' w' hp=> ?_) he);obtain⟨β',fr',H',hk,hF',hS',hag',hle',hsub',hkp'⟩:=hp
     have hkp2:SW w1 β1 H1 Wf i w w':=(hkp' rfl).mono fun b hin=>by
      cases hany:anyW (Wf.getD i []) with
      |true=>exact .inl rfl
      |false=>
       obtain⟨id,k,o',L,hm,hlk,how,hbb,hblk⟩:=hin;rw[wOf,hany,qc qh] at hm;rcases Qa.1 hm with hm|hm
       ·obtain⟨o0,q1,q2⟩:=hsub id k o' (hWn i hany id hm) hlk how;exact .inr (.inl ⟨id,k,o0,L,hm,q1,q2,by rw[<-hag id k (hWn i hany id hm)];exact hbb,hblk⟩)
       ·exact .inr (.inr (by rw[<-hblk];exact(hN id hm).2 k L hbb))
     refine⟨⟨fun hh=>(by rw[hisq] at hh;cases hh),hkp2⟩,next β' H' w' fr' a' ⟨hS',fun hh=>(by cases hh),hag.trans hag' hle,qR hle hle',hsub.trans hsub' hle,qR hwz hkp2.1,fun id hid=> ?_⟩ hF' hk⟩;obtain⟨q1,q2⟩:=hN id hid;exact⟨Qc q1 hle',fun k L hL=>q2 k L (by rw[<-hag' id k q1];exact hL)⟩
    ·rename_i hw;rw[qc hw];obtain⟨fr',hk,hF'⟩:=he;exact⟨⟨fun hh=>(by rw[hisq] at hh;cases hh),Kp.refl _ _⟩,next β H w fr' _ ⟨hS,fun hh=>(by cases hh),hag,hle,hsub,hwz,hN⟩ hF' hk⟩
def runT_ok (hQ:∀a w,At X K a w->Q .normal a w)(hQp:∀c a w,¬Q (.panic c) a w)
  (hns:Region.noSelect ops=true) (hA:afterOk ops A=true) (hE:effOkT ops A Wf Uq=true) (hWn:∀j,anyW (Wf.getD j [])=false->∀id∈Wf.getD j [],id<H1.nxt) (hd:dstOk X.n ops.toList=true):
  ∀(p:Plan) (listed:Array Bool) (dirty:Bool) {N:List Nat} {β:Env} {H:AH} {w:World} {fr:Fr} {a:Act},z5t ops p listed dirty=true->Closed ops listed->
   AtT X w1 β1 H1 β H w dirty N->FrOk X β H.nxt fr a->
   runT X.P X.wrap X.m0 Wf Uq ops p N fr H K->wpAnyG X.P ops Q (SW w1 β1 H1 Wf) (z5j ops) p.len listed a w
 |.done,listed,dirty,N,β,H,w,fr,a,hs,_,hT,hF,h=>⟨by simpa [z5t] using hs,hQ _ _ ⟨β,fr,H,h,hF,hT.1⟩⟩
 |.two i j p q,listed,dirty,N,β,H,w,fr,a,hs,hcl,hT,hF,h=>by
  simp only[z5t,qj,qD] at hs;obtain⟨⟨⟨hrd,hl⟩,hs1⟩,hs2⟩:=hs;simp only[runT] at h;refine⟨fun h0=>(by rw[hrd] at h0;cases h0),fun x hx=> ?_⟩;have hcx:=hcl.set hx;rw[hrd] at hx;simp only[qv,QJ,jU] at hx;rcases hx with rfl|rfl
  ·exact forced hWn hd hT hF h.1 fun β' H' w' fr' a' hT' hF' hk=>runT_ok hQ hQp hns hA hE hWn hd p _ _ hs1 hcx hT' hF' hk
  ·refine forced hWn hd hT hF h.2 fun β' H' w' fr' a' hT' hF' hk=> ?_;rw[hl];exact runT_ok hQ hQp hns hA hE hWn hd q _ _ hs2 hcx hT' hF' hk
 |.three i j k p q r,listed,dirty,N,β,H,w,fr,a,hs,hcl,hT,hF,h=>by
  simp only[z5t,qj,qD] at hs;obtain⟨⟨⟨⟨⟨hrd,hl⟩,hl2⟩,hs1⟩,hs2⟩,hs3⟩:=hs;simp only[runT] at h;refine⟨fun h0=>(by rw[hrd] at h0;cases h0),fun x hx=> ?_⟩;have hcx:=hcl.set hx;rw[hrd] at hx;simp only[qv,QJ,jU] at hx;rcases hx with rfl|rfl|rfl
  ·exact forced hWn hd hT hF h.1 fun β' H' w' fr' a' hT' hF' hk=>runT_ok hQ hQp hns hA hE hWn hd p _ _ hs1 hcx hT' hF' hk
  ·refine forced hWn hd hT hF h.2.1 fun β' H' w' fr' a' hT' hF' hk=> ?_;rw[hl];exact runT_ok hQ hQp hns hA hE hWn hd q _ _ hs2 hcx hT' hF' hk
  ·refine forced hWn hd hT hF h.2.2 fun β' H' w' fr' a' hT' hF' hk=> ?_;rw[hl2];exact runT_ok hQ hQp hns hA hE hWn hd r _ _ hs3 hcx hT' hF' hk
 |.four i j k m p q r t,listed,dirty,N,β,H,w,fr,a,hs,hcl,hT,hF,h=>by
  simp only[z5t,qj,qD] at hs;obtain⟨⟨⟨⟨⟨⟨⟨hrd,hl⟩,hl2⟩,hl3⟩,hs1⟩,hs2⟩,hs3⟩,hs4⟩:=hs;simp only[runT] at h;refine⟨fun h0=>(by rw[hrd] at h0;cases h0),fun x hx=> ?_⟩;have hcx:=hcl.set hx;rw[hrd] at hx;simp only[qv,QJ,jU] at hx;rcases hx with rfl|rfl|rfl|rfl
  ·exact forced hWn hd hT hF h.1 fun β' H' w' fr' a' hT' hF' hk=>runT_ok hQ hQp hns hA hE hWn hd p _ _ hs1 hcx hT' hF' hk
  ·refine forced hWn hd hT hF h.2.1 fun β' H' w' fr' a' hT' hF' hk=> ?_;rw[hl];exact runT_ok hQ hQp hns hA hE hWn hd q _ _ hs2 hcx hT' hF' hk
  ·refine forced hWn hd hT hF h.2.2.1 fun β' H' w' fr' a' hT' hF' hk=> ?_;rw[hl2];exact runT_ok hQ hQp hns hA hE hWn hd r _ _ hs3 hcx hT' hF' hk
  ·refine forced hWn hd hT hF h.2.2.2 fun β' H' w' fr' a' hT' hF' hk=> ?_;rw[hl3];exact runT_ok hQ hQp hns hA hE hWn hd t _ _ hs4 hcx hT' hF' hk
 |.op i p,listed,dirty,N,β,H,w,fr,a,hs,hcl,hT,hF,h=>by
  simp only[z5t,qj] at hs;obtain⟨hs1,hs2⟩:=hs;simp only[runT] at h
  have uQ:Region.ready .any ops listed=[i]->wpAnyG X.P ops Q (SW w1 β1 H1 Wf) (z5j ops) (p.len+1) listed a w:=fun hrd=>by
   refine⟨fun h0=>(by rw[hrd] at h0;cases h0),fun x hx=> ?_⟩;have hcx:=hcl.set hx;rw[hrd] at hx;simp only[qv,QJ,jU] at hx;subst hx;exact forced hWn hd hT hF h fun β' H' w' fr' a' hT' hF' hk=>runT_ok hQ hQp hns hA hE hWn hd p _ _ hs2 hcx hT' hF' hk
  split at hs1
  ·rename_i hq0
   split at hs1
   ·exact uQ (by simpa using hs1)
   ·rename_i hnf;simp only[qj] at hs1;obtain⟨hr,hfree⟩:=hs1;have hr':i∈Region.ready .any ops listed:=by simpa using hr
    have hcx:=hcl.set hr';have hisq:z5j ops i=true:=by unfold opQ at hq0;unfold z5j;exact hq0
    rw[hq0] at hs2;simp only[qS,jl] at hs2;obtain⟨hS,hnd,hag,hle,hsub,hwz,hN⟩:=hT
    have hnn:newN ops i H N=N:=by
     unfold newN isNew;unfold opQ at hq0
     cases ho':ops[i]? with
     |none=>rfl
     |some o'=>rw[ho'] at hq0;cases hop:o'.op<;>simp_all[isQ]
    rw[hnn] at h;unfold stpI at h
    cases ho:ops[i]? with
    |none=>rw[ho] at h;exact h.elim
    |some o=>
     rw[ho] at h;simp only at h;have hq:isQ o.op=true:=by unfold opQ at hq0;rw[ho] at hq0;exact hq0
     have hom:o∈ops.toList:=by have:=jG ho;simpa using this
     have hdo:∀t,o.dst=some t->t<X.n:=dstOk_spec hd hom
     have rest:∀v fr',runT X.P X.wrap X.m0 Wf Uq ops p N fr' H K->FrOk X β H.nxt fr' (a.put o.dst v)->wpAnyG X.P ops Q (SW w1 β1 H1 Wf) (z5j ops) p.len (listed.setIfInBounds i true) (a.put o.dst v) w:=
      fun v fr' hk hF'=>runT_ok hQ hQp hns hA hE hWn hd p _ dirty hs2 hcx ⟨hS,hnd,hag,hle,hsub,hwz,hN⟩ hF' hk
     by_cases hld:isLoad o.op=true
     ·have hol:opL ops i=true:=by unfold opL;rw[ho];exact hld
      have hdf:dirty=false:=by
       cases dirty with
       |false=>rfl
       |true=>simp[hol] at hnf
      obtain⟨rfl,rfl,rfl⟩:=hnd hdf;obtain⟨v,fr',hy,hk,hF'⟩:=stp_quiet (C:=Kp w (inW β H (Uq.getD i []))) hS hF hdo hq (fun _ w' hw'=>hw') h;refine wpAnyG_first (T:=Kp w (inW β H (Uq.getD i []))) ho hisq (jQ hns) (fun c a w hh=>absurd hh (hQp c _ w)) ?_ (fun _=>Kp.refl _ _) p.len listed a w hcl (Jd ho hfree) hr' hy (Kp.refl _ _) (rest v fr' hk hF');intro listed' hcl' hun j hj hji w2 w3 hT hjq hSw
      by_cases hjq1:z5j ops j=true
      ·rw[hjq hjq1];exact hT
      ·obtain⟨_,oj,hoj,hall⟩:=JR.1 hj;have hjs:j<ops.size:=(q7.1 hoj).1;have his:i<ops.size:=(q7.1 ho).1;have h1:=qu.1 hE j (Qu.2 hjs);simp only[hoj,qt] at h1;rcases h1 with h1|h1
       ·exact absurd (by unfold z5j;rw[hoj];exact h1) hjq1
       ·have h2:=qu.1 h1 i (Qu.2 his);simp only[hol,qS,jK,qt,qj] at h2;rcases h2 with h2|h2
        ·exfalso
         have h3:=afterOk_listed hA hcl' (j+1) j (Qp _) oj hoj hall i (by simpa using h2);rw[getD_down hun] at h3
         cases h3
        ·refine⟨qR hT.1 hSw.1,fun b hb hnb=> ?_⟩;rw[<-hT.2 b hb hnb];refine hSw.2 b (Qc hb hT.1) fun hor=> ?_;rcases hor with hor|hor|hor
         ·have h3:=h2.1;rw[hor] at h3;cases h3
         ·exact hnb (hor.mono fun id hid=>by simpa using qu.1 h2.2 id hid)
         ·omega
     ·obtain⟨v,fr',hy,hk,hF'⟩:=stp_quiet (C:=fun _=>True) hS hF hdo hq (fun he=>by
      rcases he with⟨t,x,he⟩|he
      ·rw[he] at hld;exact absurd rfl hld
      ·cases he) h
      exact wpAnyG_first (T:=fun _=>True) ho hisq (jQ hns) (fun c a w hh=>absurd hh (hQp c _ w)) (fun _ _ _ _ _ _ _ _ _ _ _=>trivial) (fun _=>Kp.refl _ _) p.len listed a w hcl (Jd ho hfree) hr' hy trivial (rest v fr' hk hF')
  ·exact uQ (by simpa using hs1)
end
variable {X:Cx} {Q:Exit->Fr->AH->Prop} {fr:Fr} {H:AH} {l:List Code}
def Cs.regTree {c:Code}{id:Nat}{ops:List Oper}(keep:List Nat)(p:Plan)(A W U:List (List Nat))(hm:X.P.follows .mixedOrders=true)
  (hd:dstOk X.n ops=true) (hlen:p.len=ops.length) (hns:Region.noSelect ops.toArray=true) (hA:afterOk ops.toArray A=true) (hE:effOkT ops.toArray A W U=true) (hWn:W.all (fun l=>anyW l||l.all fun i=>decide (i<H.nxt))=true)
  (hs:z5t ops.toArray p (Array.replicate ops.length false) false=true)
  (h:∀K:Fr->AH->Prop,(∀fr H,Cs X (c::l) Q fr H->K fr H)->(∀fr H F G ρ,z4h X ρ fr H F G->K F G->K fr H)->runT X.P X.wrap X.m0 W U ops.toArray p [] fr H (fun fr H=>K (prune keep fr) H)):Cs X (.region id ops.toArray true::c::l) Q fr H:=by
 have h1:=h (fun fr H=>Cs X (c::l) Q fr H) (fun _ _ h=>h) (fun fr H F G ρ hg hk=>Cs.give ρ hg hk)
 have h2:Cw X (.region id ops.toArray true) (fun e fr H=>match e with| .normal=>Cs X (c::l) Q (prune keep fr) H|e=>Q e fr H) fr H:=fun β a w hF hS=>by
  refine JU hm (wpAny_of_G (S:=SW w.drew β H W) (isq:=z5j ops.toArray) _ _ _ _ ?_)
  have:=runT_ok (X:=X) (ops:=ops.toArray) (Q:=lift X (fun e fr H=>match e with| .normal=>Cs X (c::l) Q (prune keep fr) H|e=>Q e fr H)) (fun _ _ h=>h) (fun _ _ _ h=>h) hns hA hE (w1:=w.drew) (β1:=β) (H1:=H) (fun j hany id hid=>by
   rcases Qo j W.length with hj|hj
   ·rw[List.getD,qJ hj] at hid hany;have h3:=qu.1 hWn _ (qK hj);simp only[J5] at hid hany;rw[hany,jK] at h3;simpa using qu.1 h3 id hid
   ·rw[List.getD,qP hj] at hid
    cases hid) (by simpa using hd) p (Array.replicate ops.length false) false (N:=[]) (a:=a) hs (fun j oj _ hl=>by
    exfalso
    rcases Qo j ops.length with h'|h'
    ·simp[h'] at hl
    ·simp[h'] at hl) ⟨hS.drew,fun _=>⟨rfl,rfl,rfl⟩,Env.agree.refl _ _,qd _,Sub.refl _,qd _,fun _ h=>by cases h⟩ hF h1
  rw[hlen] at this;simpa using this
 refine Cw.conv h2 ?_;intro e a w hh
 cases e with
 |normal=>exact At.prune (K:=fun fr H=>Cs X (c::l) Q fr H) hh
 |_=>exact hh
def runT_op {P:Program}{wr:Bool}{m0:Nat}{W U:List (List Nat)}{ops:List Oper}{N:List Nat}{i:Nat}{p:Plan}{fr:Fr}{H:AH}{K:Fr->AH->Prop}(o:Oper)(w1 w2 N1:List Nat)(hi:ops[i]? =some o)(hw1:wOf W i H N=w1)(hw2:U.getD i []=w2)(hN1:newN ops.toArray i H N=N1)
  (h:stp P wr m0 true w1 w2 ops.toArray o fr H (fun fr' H'=>runT P wr m0 W U ops.toArray p N1 fr' H' K)):runT P wr m0 W U ops.toArray (.op i p) N fr H K:=by
 subst hw1 hw2 hN1;simp only[runT,stpI,j7,hi];exact h
def z2e {P:Program}{wr:Bool}{m0:Nat}{W U:List (List Nat)}{ops:Array Oper}{N:List Nat}{i j:Nat}{p q:Plan}{fr:Fr}{H:AH}{K:Fr->AH->Prop}
  (h1:runT P wr m0 W U ops (.op i p) N fr H K) (h2:runT P wr m0 W U ops (.op j q) N fr H K):runT P wr m0 W U ops (.two i j p q) N fr H K:=⟨h1,h2⟩
def runT_three {P:Program}{wr:Bool}{m0:Nat}{W U:List (List Nat)}{ops:Array Oper}{N:List Nat}{i j k:Nat}{p q r:Plan}{fr:Fr}{H:AH}{K:Fr->AH->Prop}
  (h1:runT P wr m0 W U ops (.op i p) N fr H K) (h2:runT P wr m0 W U ops (.op j q) N fr H K) (h3:runT P wr m0 W U ops (.op k r) N fr H K):runT P wr m0 W U ops (.three i j k p q r) N fr H K:=⟨h1,h2,h3⟩
def z14 {P:Program}{wr:Bool}{m0:Nat}{W U:List (List Nat)}{ops:Array Oper}{N:List Nat}{fr:Fr}{H:AH}{K:Fr->AH->Prop}(h:K fr H):runT P wr m0 W U ops .done N fr H K:=h
end
def EqIn (P:Program)(K:Nat)(t:TypeId)(la lb:List SV):Prop:=
 ∀(d:Nat),K<=d->∀(β:Env) (xs ys:List Value),z2u β la xs->z2u β lb ys->∀w:World,(Op.equalIn d t (.agg xs.toArray) (.agg ys.toArray)).run P w= .ok (eqL la lb) w
inductive FldsEq (P:Program) (K:Nat):List (Bool×TypeId×Nat)->Nat->List SV->List SV->Prop where
 |nil (i:Nat):FldsEq P K [] i [] []
 |sc {t:TypeId} {fs:List (Bool×TypeId×Nat)} {i:Nat} {a c:SV} {la lb:List SV} (h1:isAggT P t=some false) (h2:scEq P t a c) (h:FldsEq P K fs (i+1) la lb):FldsEq P K ((false,t,i)::fs) i (a::la) (c::lb)
 |ag {t:TypeId} {fs:List (Bool×TypeId×Nat)} {i n:Nat} {la1 lb1 la lb:List SV} (h1:isAggT P t=some true) (h2:z2m P t=n) (h3:n≠0) (h4:la1.length=n) (h5:lb1.length=n) (h6:EqIn P K t la1 lb1) (h:FldsEq P K fs (i+n) la lb):
   FldsEq P K ((false,t,i)::fs) i (la1++la) (lb1++lb)
def eqL_append:∀(a c b d:List SV),a.length=c.length->eqL (a++b) (c++d)=(eqL a c && eqL b d)
 |[],[],b,d,_=>by simp[eqL]
 |x::a,y::c,b,d,h=>by
  rw[QZ,QZ,eqL_cons,eqL_cons,eqL_append a c b d (by simpa using h),Bool.and_assoc]
 |[],_::_,_,_,h=>by simp at h
 |_::_,[],_,_,h=>by simp at h
def denL_split {β:Env}:∀{l l':List SV} {vs:List Value},z2u β (l++l') vs->∃u v,vs=u++v/\z2u β l u/\z2u β l' v
 |[],_,vs,h=>⟨[],vs,rfl,rfl,h⟩
 |s::l,l',vs,h=>by
  simp only[QZ,z2u] at h;obtain⟨v,r,hv,hr,rfl⟩:=h;obtain⟨u,u',rfl,h1,h2⟩:=denL_split hr;exact⟨v::u,u',rfl,⟨v,u,hv,h1,rfl⟩,h2⟩
def run_partA {P:Program}{t:TypeId}{n:Nat}(ha:isAggT P t=some true)(hn:z2m P t=n)(h0:n≠0)(pre u r:List Value)(hu:u.length=n)(w:World):(part t (pre++(u++r)).toArray pre.length).run P w= .ok (.agg u.toArray) w:=by
 obtain⟨inf,hi,hi2⟩:=z4c (P:=P) (t:=t) (by omega);unfold isAggT at ha
 cases hd:P.underlying t with
 |none=>simp[hd] at ha
 |some d=>
  have hda:(kdOf d).agg=true:=by simpa [hd] using ha
  have hs:inf.size=u.length:=by omega
  simp[part,z65 hd,hda,z23 hi,hs,List.extract_eq_take_drop]
def run_eqFieldsN {P:Program}{β:Env}{K:Nat}(d:Nat)(hK:K<=d)(h1K:1<=d)(w:World):∀(fs:List Field) (la lb:List SV) (pre pre' ra rb:List Value),FldsEq P K (fs.map fun f=>(f.name== "_",f.type,f.offset)) pre.length la lb->pre.length=pre'.length->z2u β la ra->z2u β lb rb->
  (Op.eqFields d (pre++ra).toArray (pre'++rb).toArray fs).run P w= .ok (eqL la lb) w
 |[],la,lb,pre,pre',ra,rb,h,hl,ha,hc=>by
  cases h
  simp[Op.eqFields,eqL]
 |f::fs,la,lb,pre,pre',ra,rb,h,hl,ha,hc=>by
  simp only[q8] at h
  generalize hb:(f.name== "_")=bb at h
  generalize ho:f.offset=oo at h
  generalize ht:f.type=tt at h
  cases h with
  |sc h1 h2 h5=>
   simp only[z2u] at ha hc;obtain⟨va,ra,hva,hra,rfl⟩:=ha;obtain⟨vc,rc,hvc,hrc,rfl⟩:=hc;have hn:f.name≠ "_" :=by simpa using hb
   have p1:=run_part h1 pre va ra w;have p2:=run_part h1 pre' vc rc w;rw[<-hl] at p2;have ih:=run_eqFieldsN d hK h1K w fs _ _ (pre++[va]) (pre'++[vc]) ra rc (by simpa using h5) (by simp[hl]) hra hrc;simp only[QF,List.singleton_append] at ih;obtain⟨d',rfl⟩:∃d',d=d'+1:=⟨d-1,by omega⟩;simp only[Op.eqFields,qe hn,ht,ho,qM,p1,p2,qA,run_scEq h2 hva hvc,eqL_cons]
   cases eqS _ _ with
   |false=>simp
   |true=>simpa using ih
  |ag h1 h2 h3 h4 h5 h6 h7=>
   obtain⟨u,ra,rfl,hu,hra⟩:=denL_split ha;obtain⟨u',rc,rfl,hu',hrc⟩:=denL_split hc;have hn:f.name≠ "_" :=by simpa using hb
   have hul:=z2k hu;have hul':=z2k hu';have p1:=run_partA h1 h2 h3 pre u ra (by omega) w;have p2:=run_partA h1 h2 h3 pre' u' rc (by omega) w;rw[<-hl] at p2;have ih:=run_eqFieldsN d hK h1K w fs _ _ (pre++u) (pre'++u') ra rc (by rw[qX,hul,h4];exact h7) (by simp[hl];omega) hra hrc;simp only[QF] at ih;simp only[Op.eqFields,qe hn,ht,ho,qM,p1,p2,qA,h6 d hK β u u' hu hu' w];rw[eqL_append _ _ _ _ (by omega)]
   cases eqL _ _ with
   |false=>simp
   |true=>simpa using ih
def EqIn.of {P:Program}{t:TypeId}{la lb:List SV}(K:Nat)(hK:1<=K)(fs:List (Bool×TypeId×Nat))(hh:P.stoodInHeld t=false)(hu:P.underlying t=some (.struct (P.fieldsOf t)))
  (hf:((P.fieldsOf t).toList.map fun f=>(f.name== "_",f.type,f.offset))=fs) (h:FldsEq P K fs 0 la lb):EqIn P (K+1) t la lb:=by
 intro d hd β xs ys hx hy w;obtain⟨d',rfl⟩:∃d',d=d'+1:=⟨d-1,by omega⟩;rw[JS w d' t _ _ hu hh];subst hf;exact run_eqFieldsN d' (by omega) (by omega) w _ la lb [] [] xs ys h rfl hx hy
def EqIn.top {P:Program}{t:TypeId}{la lb:List SV}{K:Nat}(hK:K<=10000)(hg:P.eqGuardType P.depth t=false)(h:EqIn P K t la lb):EqT P t la lb:=by
 intro β xs ys hx hy x y op w _;simp only[qM,run_eqGuard_agg w op t x y _ _ hg,qA];exact h 10000 hK β xs ys hx hy w
end Go.Sk
