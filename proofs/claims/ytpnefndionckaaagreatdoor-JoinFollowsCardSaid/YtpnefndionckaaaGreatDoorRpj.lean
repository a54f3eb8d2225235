/-
  Walks and plain facts, joined: part 10 of 18.
  Conditions: those that each statement names.
-/
import Derived.Test.YtpnefndionckaaaGreatDoorRpg
import Derived.Test.YtpnefndionckaaaGreatDoorRpi
set_option linter.unusedSimpArgs false
set_option linter.unusedVariables false
set_option linter.defProp false
set_option maxRecDepth 4000
namespace Go.Proofs
open Tryz
open Go.Sk
structure Ly where
 lvl:Int
 wd:Int
 ids:List Int
 cs:List Cl
 ps:List Pr
deriving DecidableEq
structure Cb where
 kind:Int
 node:Int
 lvl:Int
deriving DecidableEq
structure Fo where
 ns:List Nd
 ht:Int
 ly:List Ly
 cb:List Cb
deriving DecidableEq
def noLy:Ly:=⟨0,0,[],[],[]⟩
def noCb:Cb:=⟨0,0,0⟩
def noFo:Fo:=⟨[],0,[],[]⟩
def lyA (L:List Ly)(i:Nat):Ly:=L.getD i noLy
def cbA (C:List Cb)(i:Nat):Cb:=C.getD i noCb
def lyA_lt {l:List Ly}{i:Nat}(h:i<l.length):lyA l i=l[i]:=by simp[lyA,List.getD,h]
def cbA_lt {l:List Cb}{i:Nat}(h:i<l.length):cbA l i=l[i]:=by simp[cbA,List.getD,h]
def lyA_set_eq {l:List Ly}{i:Nat}{x:Ly}(h:i<l.length):lyA (l.set i x) i=x:=by simp[lyA,List.getD,h]
def lyA_set_ne {l:List Ly}{i j:Nat}{x:Ly}(h:i≠j):lyA (l.set i x) j=lyA l j:=by simp[lyA,List.getD,jP h]
def z4x {l:List Cb}{i:Nat}{x:Cb}(h:i<l.length):cbA (l.set i x) i=x:=by simp[cbA,List.getD,h]
def cbA_set_ne {l:List Cb}{i j:Nat}{x:Cb}(h:i≠j):cbA (l.set i x) j=cbA l j:=by simp[cbA,List.getD,jP h]
def z37 (ns:List Nd)(h:Nat):List (Int×List Nd):=(List.range (h+1)).flatMap fun(n:Nat)=>(z54 (z4w ns) (n:Int)).map fun c=>((n:Int),c)
def shA (S:List (Int×List Nd))(i:Nat):Int×List Nd:=S.getD i (0,[])
def shA_lt {S:List (Int×List Nd)}{i:Nat}(h:i<S.length):shA S i=S[i]:=by simp[shA,List.getD,h]
def mem_shpL {ns:List Nd}{h:Nat}{x:Int×List Nd}:x∈z37 ns h↔∃n:Nat,n<=h/\x.1=n/\x.2∈z54 (z4w ns) n:=by
 simp only[z37,List.mem_flatMap,Qu,Qs]
 constructor
 ·rintro⟨n,hn,c,hc,rfl⟩;exact⟨n,by omega,rfl,hc⟩
 rintro⟨n,hn,h1,h2⟩;exact⟨n,by omega,x.2,h2,by rw[<-h1]⟩
def cls_disj {lv:Int}(h16:lv<=16)(l:List Nd):(z54 l lv).Pairwise fun c d=> ∀x∈c,x∉d:=by
 have h:=(clsN_ok h16 l).1
 have:∀c∈z54 l lv,∀x∈c,z4f x.word (hdN c).word lv=true:=fun c hc x hx=>by
  rw[h.eq c hc,grpW,jH] at hx;exact hx.2
 refine List.Pairwise.imp_of_mem ?_ h.pw;intro c d hc hd hs x h1 h2;have:=sameW_trans (sameW_symm (this c hc x h1)) (this d hd x h2);rw[hs] at this;cases this
def shpL_pw (ns:List Nd):∀h:Nat,h<=16->(z37 ns h).Pairwise fun a b=>a.1=b.1->∀x∈a.2,x∉b.2:=fun h h16=>by
 unfold z37;rw[List.pairwise_flatMap];refine⟨fun n hn=> ?_,?_⟩
 ·rw[Qu] at hn;rw[jN];refine(cls_disj (lv:=(n:Int)) (by omega) (z4w ns)).imp ?_;intro a b hh _;exact hh
 refine List.Pairwise.imp ?_ List.pairwise_lt_range;intro a b hab x hx y hy e;simp only[Qs] at hx hy;obtain⟨_,_,rfl⟩:=hx;obtain⟨_,_,rfl⟩:=hy;dsimp only at e;omega
structure LyOk (x:Ly) (s:Int×List Nd) (m:Nat):Prop where
 lvl:x.lvl=s.1
 ids:x.ids=s.2.map (·.id)
 len:x.cs.length=s.2.length+2
 key:∀k,k<s.2.length->(cl x.cs (k+2)).key=(nd s.2 k).key
 wd:x.wd=(hdN s.2).word
 pn:x.ps.length=m
structure Fsh (fo:Fo):Prop where
 ck:z1t fo.ns=0
 sm:fo.ns.length<=20
 h0:0<=fo.ht
 h16:fo.ht<=16
 m1:1<=fo.cb.length
 m8:fo.cb.length<=8
 len:fo.ly.length=(z37 fo.ns fo.ht.toNat).length
 at_:∀i,i<fo.ly.length->LyOk (lyA fo.ly i) (shA (z37 fo.ns fo.ht.toNat) i) fo.cb.length
def idI (ids:List Int)(v:Int):Int:=idxB ids.length fun q=>decide (nth ids q=v)
def plP (L:List Ly)(id lv:Int)(i:Nat):Bool:=(lyA L i).lvl==lv && decide (0<=idI (lyA L i).ids id)
def plI (L:List Ly)(id lv:Int):Int:=idxB L.length (plP L id lv)
def plK (L:List Ly)(id lv:Int):Int:=if plI L id lv<0 then 0 else idI (lyA L (plI L id lv).toNat).ids id+2
def idI_mem {ids:List Int}{v:Int}(h:0<=idI ids v):∃k,k<ids.length/\idI ids v=k/\nth ids k=v:=by
 rcases z3j ids.length fun q=>decide (nth ids q=v) with⟨h1,_⟩|⟨j,h1,h2,h3,_⟩
 ·unfold idI at h;omega
 exact⟨j,h2,h1,jO h3⟩
def idI_of {ids:List Int}{v:Int}{k:Nat}(h:k<ids.length)(e:nth ids k=v):0<=idI ids v:=by
 rcases z3j ids.length fun q=>decide (nth ids q=v) with⟨_,h2⟩|⟨j,h1,_⟩
 ·have:=h2 k h;rw[qg] at this;exact absurd e this
 unfold idI;omega
def idI_at {ids:List Int}{v:Int}{k:Nat}(hd:ids.Nodup)(h:k<ids.length)(e:nth ids k=v):idI ids v=k:=by
 obtain⟨j,h1,h2,h3⟩:=idI_mem (idI_of h e);rw[h2];rw[z30 h] at e;rw[z30 h1] at h3;have hp:=Qd.1 hd;rcases ji j k with g|g|g
 ·exact absurd (h3.trans e.symm) (hp j k h1 h g)
 ·omega
 exact absurd (e.trans h3.symm) (hp k j h h1 g)
section
variable {fo:Fo}
def Fsh.cls (h:Fsh fo){i:Nat}(hi:i<fo.ly.length):∃n:Nat,(n:Int)<=fo.ht/\(shA (z37 fo.ns fo.ht.toNat) i).1=n/\(shA (z37 fo.ns fo.ht.toNat) i).2∈z54 (z4w fo.ns) n:=by
 rw[shA_lt (by rw[<-h.len];exact hi)];obtain⟨n,h1,h2,h3⟩:=mem_shpL.1 (qK (l:=z37 fo.ns fo.ht.toNat) (n:=i) (by rw[<-h.len];exact hi));have:=h.h0;exact⟨n,by omega,h2,h3⟩
def cls_sub {lv:Int}(h16:lv<=16){l c:List Nd}(hc:c∈z54 l lv):c.Sublist l:=by
 rw[(clsN_ok h16 l).1.eq c hc];exact List.filter_sublist
def ids_inj {ns:List Nd}(hc:z1t ns=0){x y:Nd}(hx:x∈ns)(hy:y∈ns)(e:x.id=y.id):x=y:=by
 obtain⟨i,hi,rfl⟩:=Qk hx;obtain⟨j,hj,rfl⟩:=Qk hy;have hp:=((good_iff ns).1 hc).2.2;rcases ji i j with h|h|h
 ·exact absurd e (twinN_false (Qd.1 hp i j hi hj h)).1
 ·subst h;rfl
 exact absurd e.symm (twinN_false (Qd.1 hp j i hj hi h)).1
def ids_nodup {ns:List Nd}(hc:z1t ns=0):(ns.map (·.id)).Nodup:=by
 rw[Ji,jN];exact((good_iff ns).1 hc).2.2.imp fun h=>(twinN_false h).1
def Fsh.sub (h:Fsh fo){i:Nat}(hi:i<fo.ly.length):(shA (z37 fo.ns fo.ht.toNat) i).2.Sublist (z4w fo.ns):=by
 obtain⟨n,h1,_,h3⟩:=h.cls hi;exact cls_sub (by have:=h.h16;omega) h3
def Fsh.mem (h:Fsh fo){i:Nat}(hi:i<fo.ly.length){x:Nd}(hx:x∈(shA (z37 fo.ns fo.ht.toNat) i).2):x∈fo.ns:=
 (z26 fo.ns).mem_iff.2 ((h.sub hi).subset hx)
def Fsh.idn (h:Fsh fo){i:Nat}(hi:i<fo.ly.length):(lyA fo.ly i).ids.Nodup:=by
 rw[(h.at_ i hi).ids];exact ids_nodup (good_sub (h.sub hi) (good_perm (z26 _) h.ck))
structure At (fo:Fo) (x:Nd) (lv:Int) (i k:Nat):Prop where
 hi:i<fo.ly.length
 hk:k<(lyA fo.ly i).ids.length
 lvl:(lyA fo.ly i).lvl=lv
 ide:nth (lyA fo.ly i).ids k=x.id
 nde:nd (shA (z37 fo.ns fo.ht.toNat) i).2 k=x
 cel:k+2<(lyA fo.ly i).cs.length
 key:(cl (lyA fo.ly i).cs (k+2)).key=x.key
 pI:plI fo.ly x.id lv=i
 pK:plK fo.ly x.id lv=k+2
 mm:x∈fo.ns
 l0:0<=lv
 lh:lv<=fo.ht
def Fsh.uniq (h:Fsh fo){i j:Nat}(hi:i<fo.ly.length)(hj:j<fo.ly.length){x:Nd}(h1:x∈(shA (z37 fo.ns fo.ht.toNat) i).2)(h2:x∈(shA (z37 fo.ns fo.ht.toNat) j).2)
  (he:(shA (z37 fo.ns fo.ht.toNat) i).1=(shA (z37 fo.ns fo.ht.toNat) j).1):i=j:=by
 have hp:=shpL_pw fo.ns fo.ht.toNat (by have:=h.h16;omega);have hi':i<(z37 fo.ns fo.ht.toNat).length:=by rw[<-h.len];exact hi
 have hj':j<(z37 fo.ns fo.ht.toNat).length:=by rw[<-h.len];exact hj
 rw[shA_lt hi'] at h1 he;rw[shA_lt hj'] at h2 he;rcases ji i j with g|g|g
 ·exact absurd h2 (Qd.1 hp i j hi' hj' g he x h1)
 ·exact g
 exact absurd h1 (Qd.1 hp j i hj' hi' g he.symm x h2)
def Fsh.mk_at (h:Fsh fo){i k:Nat}(hi:i<fo.ly.length)(hk:k<(lyA fo.ly i).ids.length):At fo (Go.Proofs.nd (shA (z37 fo.ns fo.ht.toNat) i).2 k) (lyA fo.ly i).lvl i k:=by
 have hA:=h.at_ i hi;obtain⟨n,n1,n2,n3⟩:=h.cls hi;have hk':k<(shA (z37 fo.ns fo.ht.toNat) i).2.length:=by rw[hA.ids,qx] at hk;exact hk
 have hx:Go.Proofs.nd (shA (z37 fo.ns fo.ht.toNat) i).2 k∈(shA (z37 fo.ns fo.ht.toNat) i).2:=nd_mem hk'
 have hid:nth (lyA fo.ly i).ids k=(Go.Proofs.nd (shA (z37 fo.ns fo.ht.toNat) i).2 k).id:=by
  rw[z30 hk,z4z hk'];simp only[hA.ids,jA]
 have hmem:=h.mem hi hx
 have hI:plI fo.ly (Go.Proofs.nd (shA (z37 fo.ns fo.ht.toNat) i).2 k).id (lyA fo.ly i).lvl=i:=by
  refine idxB_at ?_ hi fun q hq=> ?_
  ·rw[plP,qj,qD,qm];exact⟨rfl,idI_of hk hid⟩
  rw[plP,JB]
  by_cases g:(lyA fo.ly q).lvl=(lyA fo.ly i).lvl
  ·right
   rw[qg];intro g2;obtain⟨j,j1,_,j3⟩:=idI_mem g2;have hqi:q<fo.ly.length:=by omega
   have hB:=h.at_ q hqi;have hj':j<(shA (z37 fo.ns fo.ht.toNat) q).2.length:=by rw[hB.ids,qx] at j1;exact j1
   have hy:Go.Proofs.nd (shA (z37 fo.ns fo.ht.toNat) q).2 j∈(shA (z37 fo.ns fo.ht.toNat) q).2:=nd_mem hj'
   have e1:(Go.Proofs.nd (shA (z37 fo.ns fo.ht.toNat) q).2 j).id=(Go.Proofs.nd (shA (z37 fo.ns fo.ht.toNat) i).2 k).id:=by
    rw[<-j3,z30 j1,z4z hj'];simp only[hB.ids,jA]
   have e2:=ids_inj h.ck (h.mem hqi hy) hmem e1;rw[e2] at hy;have:=h.uniq hqi hi hy hx (by rw[<-hB.lvl,<-hA.lvl];exact g);omega
  left;simpa using g
 refine⟨hi,hk,rfl,hid,rfl,by have:=hA.len;omega,hA.key k hk',hI,?_,hmem,by rw[hA.lvl,n2];omega,by rw[hA.lvl,n2];exact n1⟩;rw[plK,hI,qc (by omega),qq,idI_at (h.idn hi) hk hid]
def Fsh.place (h:Fsh fo){x:Nd}(hx:x∈fo.ns){lv:Int}(l0:0<=lv)(lh:lv<=fo.ht):∃i k,At fo x lv i k:=by
 have h16:=h.h16;obtain⟨c,hc,hxc⟩:=(clsN_ok (lv:=lv) (by omega) (z4w fo.ns)).2 x ((z26 fo.ns).mem_iff.1 hx);have hm:(lv,c)∈z37 fo.ns fo.ht.toNat:=mem_shpL.2 ⟨lv.toNat,by omega,by dsimp only;omega,by dsimp only;rw[show((lv.toNat:Nat):Int)=lv by omega];exact hc⟩;obtain⟨i,hi,hie⟩:=Qk hm;have hi':i<fo.ly.length:=by rw[h.len];exact hi
 obtain⟨k,hk,hke⟩:=Qk hxc;have hs:shA (z37 fo.ns fo.ht.toNat) i=(lv,c):=by rw[shA_lt hi,hie]
 have hA:=h.at_ i hi';have hk':k<(lyA fo.ly i).ids.length:=by rw[hA.ids,hs,qx];exact hk
 have:=h.mk_at hi' hk';rw[hA.lvl,hs] at this;rw[show Go.Proofs.nd c k=x by rw[z4z hk,hke]] at this;exact⟨i,k,this⟩
def At.inj (h:Fsh fo){x y:Nd}{lv lw:Int}{i k:Nat}(a:At fo x lv i k)(b:At fo y lw i k):x=y/\lv=lw:=⟨a.nde.symm.trans b.nde,a.lvl.symm.trans b.lvl⟩
end
end Go.Proofs
namespace Go.Sk
open Go.RowKit
def mvM (ρ:Nat->Nat)(f:Nat)(ms:Nat->Option Nat):Pn:=fun id k=>if id=f then(match ms k with|some a=>(a,0)|none=>(ρ id,k)) else(ρ id,k)
def zw (π:Pn)(m:Nat)(os:List (Nat×Nat×(Nat->Obj))):List (Nat×Nat×(Nat->Obj))->Prop
 |[]=>True
 |(id,c',F')::l=>(∀k,k<c'->F' k≠ .gone->∃o,look os (π id k).1 (π id k).2=some o/\zt π o (F' k)/\(F' k).lt m)/\id<m/\zw π m os l
def zw.get {π:Pn}{m:Nat}{os:List (Nat×Nat×(Nat->Obj))}:∀{os':List (Nat×Nat×(Nat->Obj))},zw π m os os'->∀id c' F',(id,c',F')∈os'->∀k,k<c'->F' k≠ .gone->
  id<m/\(F' k).lt m/\∃o,look os (π id k).1 (π id k).2=some o/\zt π o (F' k)
 |[],_,_,_,_,hm=>by cases hm
 |(i,c1,F1)::l,h,id,c',F',hm=>by
  obtain⟨h1,h2,h3⟩:=h
  cases hm with
  |head=>
   intro k hk hg;obtain⟨o,q1,q2,q3⟩:=h1 k hk hg;exact⟨h2,q3,o,q1,q2⟩
  |tail _ hm=>exact zw.get h3 id c' F' hm
structure MsOk (X:Cx) (ρ:Nat->Nat) (ms:Nat->Option Nat) (os':List (Nat×Nat×(Nat->Obj))):Prop where
 inj:∀k k' a,ms k=some a->ms k'=some a->k=k'
 out:∀k a,ms k=some a->(os'.all fun x=> !(ρ x.1==a))=true/\X.m0<=a
def z5n.mkM {X:Cx}{fr:Fr}{H:AH}{fr':Fr}{H':AH}(ρ:Nat->Nat)(f:Nat)(ms:Nat->Option Nat)(hs:MsOk X ρ ms H'.os)(h1:frGivesP (mvM ρ f ms) H'.nxt fr fr')(h2:zw (mvM ρ f ms) H'.nxt H.os H'.os)(h3:injB ρ H'.os=true)(h3u:ownU H'.os)
  (h4:(List.range X.m0).all (fun id=>ρ id==id)=true)
  (h5:X.m0<=H'.nxt) (h5f:X.m0<=f) (h6:∀x∈H.os,x.1<X.m0->∀k,(x.2.2 k).own=(x.2.2 0).own) (h7:keepB X.m0 H.os H'.os) (h8:bigB X.m0 ρ H'.os=true):z5n X (mvM ρ f ms) fr H fr' H' where
 fr:=frGivesP_ok h1
 os id k o' hl:=by
  have hg:=z3o hl;obtain⟨c,F,hf,hk,rfl⟩:=z1h hl;exact h2.get _ _ _ (z1j hf) k hk hg
 inj id k o id' k' o' hl hl' ho he:=by
  have hna:∀{id k:Nat} {o:Obj} {j a:Nat},look H'.os id k=some o->ms j=some a->ρ id≠a:=fun {id k o j a} h g e=>by
   obtain⟨c,F,hf,hk,rfl⟩:=z1h h;have:=qu.1 (hs.out j a g).1 _ (z1j hf);simp[e] at this
  have hij:InjOn ρ H'.os:= .of h3 h3u
  have hv:∀i j,mvM ρ f ms i j=(ρ i,j)\/∃a,i=f/\ms j=some a/\mvM ρ f ms i j=(a,0):=fun i j=>by
   unfold mvM
   split
   ·rename_i e
    cases g:ms j with
    |none=>exact .inl rfl
    |some a=>exact .inr ⟨a,e,rfl,rfl⟩
   ·exact .inl rfl
  rcases hv id k with e1|⟨a,g1,g2,e1⟩<;>rcases hv id' k' with e2|⟨b,g3,g4,e2⟩<;>rw[e1,e2] at he<;>simp only[jn] at he
  ·exact⟨hij _ _ _ _ _ _ hl hl' ho he.1,he.2⟩
  ·exact absurd he.1 (hna hl g4)
  ·exact absurd he.1.symm (hna hl' g2)
  ·have:=he.1;subst this;exact⟨g1.trans g3.symm,hs.inj k k' _ g2 g4⟩
 fix id k hid:=by
  have:=qu.1 h4 id (Qu.2 hid);unfold mvM;rw[qc (by omega)];rw[qD] at this;rw[this]
 m0:=h5
 keep id k hid ho:=by
  obtain⟨o,ho1,ho2⟩:=ho;obtain⟨c,F,hf,hk,rfl⟩:=z1h ho1;have:=h7 _ (z1j hf) hid (by have:=h6 _ (z1j hf) hid k;simp only at this;rw[<-this];exact ho2);simp only at this
  split at this
  ·rename_i c' F' hf';exact⟨F' k,(zy hf' (by omega)).trans (Obj.opt_of fun e=>by have:=this.2 k;rw[e] at this;cases this),this.2 k⟩
  ·exact this.elim
 big id k o h0 hl ho:=by
  obtain⟨c,F,hf,hk,rfl⟩:=z1h hl;have h9:=qu.1 h8 _ (z1j hf);have h10:=h3u _ (z1j hf) k;simp only[qt,qm,qn] at h9;simp only at h10;rw[<-h10,ho] at h9
  have h11:X.m0<=ρ id:=by
   rcases h9 with(h9|h9)|h9
   ·omega
   ·exact h9
   ·cases h9
  unfold mvM
  split
  ·cases g:ms k with
   |none=>exact h11
   |some a=>exact(hs.out k a g).2
  ·exact h11
def zc {ρ:Nat->Nat}{f:Nat}{ms:Nat->Option Nat}{m:Nat}{os l:List (Nat×Nat×(Nat->Obj))}{id c:Nat}{F:Nat->Obj}{o':Obj}(hid:id≠f)(hf:find os (ρ id)=some (c,F))(hc:0<c)(h:zt (mvM ρ f ms) (F 0) o')(hl:o'.lt m)(hm:id<m)(ht:zw (mvM ρ f ms) m os l):zw (mvM ρ f ms) m os ((id,uQ o')::l):=by
 refine⟨fun k hk _=> ?_,hm,ht⟩
 have hk0:k=0:=by
  have:k<1:=hk;omega
 subst hk0;have e:mvM ρ f ms id 0=(ρ id,0):=qc hid;rw[e];exact⟨F 0,(zy hf hc).trans (Obj.opt_of (z2h h)),h,hl⟩
def zw.consF {ρ:Nat->Nat}{f:Nat}{ms:Nat->Option Nat}{m:Nat}{os l:List (Nat×Nat×(Nat->Obj))}{c c':Nat}{o o':Bool}{e e':TypeId}{sz sz':Nat}{G G':Nat->Obj}(hf:find os (ρ f)=some (c,fam o e sz G))(h0:0<c)(h1:(o'=true->o=true/\e'=e)/\sz'=sz)(hz:ms 0=none)
  (h:∀i,i+1<c'->match ms (i+1) with
   |some a=> ∃ca Fa,find os a=some (ca,Fa)/\0<ca/\zt (mvM ρ f ms) (Fa 0) (G' i)/\(G' i).lt m
   |none=>i+1<c/\zt (mvM ρ f ms) (G i) (G' i)/\(G' i).lt m) (hm:f<m) (ht:zw (mvM ρ f ms) m os l):zw (mvM ρ f ms) m os ((f,(c',fam o' e' sz' G'))::l):=by
 refine⟨fun k hk _=> ?_,hm,ht⟩
 cases k with
 |zero=>
  have e9:mvM ρ f ms f 0=(ρ f,0):=by unfold mvM;rw[qe rfl,hz]
  rw[e9]
  have q:zt (mvM ρ f ms) (fam o e sz G 0) (fam o' e' sz' G' 0):=by
   simp only[fam,zt,ze];exact⟨h1.1,h1.2,qd _,fun i hi=>absurd hi (qI _)⟩
  exact⟨_,(zy hf h0).trans (Obj.opt_of (z2h q)),q,fun i j s hi _=>absurd hi (qI _)⟩
 |succ i=>
  have:=h i hk
  cases g:ms (i+1) with
  |some a=>
   rw[g] at this;obtain⟨ca,Fa,q1,q2,q3,q4⟩:=this;have e:mvM ρ f ms f (i+1)=(a,0):=by unfold mvM;rw[qe rfl,g]
   rw[e];exact⟨Fa 0,(zy q1 q2).trans (Obj.opt_of (z2h q3)),q3,q4⟩
  |none=>
   rw[g] at this;obtain⟨q1,q2,q3⟩:=this;have e:mvM ρ f ms f (i+1)=(ρ f,i+1):=by unfold mvM;rw[qe rfl,g]
   rw[e];exact⟨G i,(zy hf q1).trans (Obj.opt_of (z2h q2)),q2,q3⟩
def zw.consO {ρ:Nat->Nat}{f:Nat}{ms:Nat->Option Nat}{m:Nat}{os l:List (Nat×Nat×(Nat->Obj))}{id c c':Nat}{o o':Bool}{e e':TypeId}{sz sz':Nat}{G G':Nat->Obj}(hid:id≠f)(hf:find os (ρ id)=some (c,fam o e sz G))
  (h1:(o'=true->o=true/\e'=e)/\sz'=sz) (h0:0<c) (hc:c'<=c) (h:∀i,i+1<c'->zt (mvM ρ f ms) (G i) (G' i)/\(G' i).lt m) (hm:id<m) (ht:zw (mvM ρ f ms) m os l):zw (mvM ρ f ms) m os ((id,(c',fam o' e' sz' G'))::l):=by
 refine⟨fun k hk _=> ?_,hm,ht⟩;have e0:mvM ρ f ms id k=(ρ id,k):=qc hid;rw[e0]
 cases k with
 |zero=>
  have q:zt (mvM ρ f ms) (fam o e sz G 0) (fam o' e' sz' G' 0):=by
   simp only[fam,zt,ze];exact⟨h1.1,h1.2,qd _,fun i hi=>absurd hi (qI _)⟩
  exact⟨_,(zy hf h0).trans (Obj.opt_of (z2h q)),q,fun i j s hi _=>absurd hi (qI _)⟩
 |succ i=>
  obtain⟨q1,q2⟩:=h i hk;exact⟨G i,(zy hf (by omega)).trans (Obj.opt_of (z2h q1)),q1,q2⟩
structure GmR (X:Cx) (ρ:Nat->Nat) (f:Nat) (H1:AH):Prop where
 a3:injB ρ H1.os=true
 a5:(List.range X.m0).all (fun id=>ρ id==id)=true
 a6:X.m0<=H1.nxt
 a6f:X.m0<=f
 a9:bigB X.m0 ρ H1.os=true
def gmS {X:Cx}{fr:Fr}{H:AH}{fr1:Fr}{H1:AH}(ρ:Nat->Nat)(f:Nat)(ms:Nat->Option Nat)(hs:MsOk X ρ ms H1.os)(a2:zw (mvM ρ f ms) H1.nxt H.os H1.os)(q:GpQ X (mvM ρ f ms) fr H fr1 H1)(r:GmR X ρ f H1):z5n X (mvM ρ f ms) fr H fr1 H1:=
 z5n.mkM ρ f ms hs q.a1 a2 r.a3 q.a4 r.a5 r.a6 r.a6f q.a7 q.a8 r.a9
def ms3 (j a b c:Nat):Nat->Option Nat:=fun k=>if k=3*j+1 then some a else if k=3*j+2 then some b else if k=3*j+3 then some c else none
def ms2 (j b c:Nat):Nat->Option Nat:=fun k=>if k=3*j+2 then some b else if k=3*j+3 then some c else none
def ms3_ok {X:Cx}{ρ:Nat->Nat}{os:List (Nat×Nat×(Nat->Obj))}(j:Nat){a b c:Nat}(h:a≠b/\a≠c/\b≠c)(ho:(os.all fun x=> !(ρ x.1==a))=true/\(os.all fun x=> !(ρ x.1==b))=true/\(os.all fun x=> !(ρ x.1==c))=true)(hm:X.m0<=a/\X.m0<=b/\X.m0<=c):MsOk X ρ (ms3 j a b c) os:=by
 refine⟨fun k k' z h1 h2=> ?_,fun k z h1=> ?_⟩
 ·unfold ms3 at h1 h2
  (repeat' split at h1)<;>(repeat' split at h2)<;>first|omega|(simp only[Qx,reduceCtorEq] at h1 h2<;>omega)
 ·unfold ms3 at h1
  (repeat' split at h1)<;>simp only[Qx,reduceCtorEq] at h1<;>subst h1
  ·exact⟨ho.1,hm.1⟩
  ·exact⟨ho.2.1,hm.2.1⟩
  ·exact⟨ho.2.2,hm.2.2⟩
def ms2_ok {X:Cx}{ρ:Nat->Nat}{os:List (Nat×Nat×(Nat->Obj))}(j:Nat){b c:Nat}(h:b≠c)(ho:(os.all fun x=> !(ρ x.1==b))=true/\(os.all fun x=> !(ρ x.1==c))=true)(hm:X.m0<=b/\X.m0<=c):MsOk X ρ (ms2 j b c) os:=by
 refine⟨fun k k' z h1 h2=> ?_,fun k z h1=> ?_⟩
 ·unfold ms2 at h1 h2
  (repeat' split at h1)<;>(repeat' split at h2)<;>first|omega|(simp only[Qx,reduceCtorEq] at h1 h2<;>omega)
 ·unfold ms2 at h1
  (repeat' split at h1)<;>simp only[Qx,reduceCtorEq] at h1<;>subst h1
  ·exact⟨ho.1,hm.1⟩
  ·exact⟨ho.2,hm.2⟩
def HGivesJ (π:Pn)(m:Nat)(os:List (Nat×Nat×(Nat->Obj))):List (Nat×Nat×(Nat->Obj))->Prop
 |[]=>True
 |(id,c',F')::l=>(∀k,k<c'->∃c F,find os (π id k).1=some (c,F)/\(π id k).2<c/\zt π (F (π id k).2) (F' k)/\(F' k).lt m)/\id<m/\HGivesJ π m os l
def HGivesJ.get {π:Pn}{m:Nat}{os:List (Nat×Nat×(Nat->Obj))}:∀{os':List (Nat×Nat×(Nat->Obj))},HGivesJ π m os os'->∀id c' F',(id,c',F')∈os'->∀k,k<c'->
  id<m/\(F' k).lt m/\∃o,look os (π id k).1 (π id k).2=some o/\zt π o (F' k)
 |[],_,_,_,_,hm=>by cases hm
 |(i,c1,F1)::l,h,id,c',F',hm=>by
  obtain⟨h1,h2,h3⟩:=h
  cases hm with
  |head=>
   intro k hk;obtain⟨c,F,q0,q1,q2,q3⟩:=h1 k hk;exact⟨h2,q3,_,(zy q0 q1).trans (Obj.opt_of (z2h q2)),q2⟩
  |tail _ hm=>exact HGivesJ.get h3 id c' F' hm
section
def anP (ρ:Nat->Nat)(f:Nat)(μ:Nat->Nat×Nat):Pn:=fun id k=>if id=f/\0<k then μ k else(ρ id,k)
def z35 {ρ:Nat->Nat}{f m:Nat}{μ:Nat->Nat×Nat}{os l:List (Nat×Nat×(Nat->Obj))}{id c:Nat}{F:Nat->Obj}{o':Obj}(hf:find os (ρ id)=some (c,F))(hc:0<c)(h:zt (anP ρ f μ) (F 0) o')(hl:o'.lt m)(hm:id<m)(ht:HGivesJ (anP ρ f μ) m os l):HGivesJ (anP ρ f μ) m os ((id,uQ o')::l):=by
 refine⟨fun k hk=> ?_,hm,ht⟩
 have hk0:k=0:=by
  have:k<1:=hk;omega
 subst hk0;have e:anP ρ f μ id 0=(ρ id,0):=by rw[anP,qc (by omega)]
 rw[e];exact⟨c,F,hf,hc,h,hl⟩
section
variable {X:Cx} {Q:Exit->Fr->AH->Prop} {fr:Fr} {H:AH} {l:List Code}
def wkL_len:∀{a b:List SV},SV.wkL a b->a.length=b.length
 |[],[],_=>rfl
 |_::a,_::b,h=>by simp[wkL_len h.2]
 |[],_::_,h=>h.elim
 |_::_,[],h=>h.elim
def wkL_get9:∀{a b:List SV},SV.wkL a b->∀(j:Nat) (s:SV),b[j]? =some s->∃s0,a[j]? =some s0/\SV.wk s0 s
 |[],[],_,j,s,h=>by simp at h
 |x::a,y::b,h,j,s,hj=>by
  cases j with
  |zero=>simp at hj;subst hj;exact⟨x,by simp,h.1⟩
  |succ j=>simp at hj;simpa using wkL_get9 h.2 j s hj
 |[],_::_,h,_,_,_=>h.elim
 |_::_,[],h,_,_,_=>h.elim
end
end
def rowWk (m:Nat):Obj->Obj->Prop
 |.row a,.row b=>a.own=false/\b.own=false/\b.sz=a.sz/\b.n<=a.n/\∀i,i<b.n->SV.wkL (a.f i) (b.f i)/\(∀s∈b.f i,s.scalar=true)/\SV.ltL m (b.f i)
 |_,_=>False
def oWk (m:Nat)(a b:Obj):Prop:=a=b\/rowWk m a b
def rowWk_own {m:Nat}{a b:Obj}(h:rowWk m a b):a.own=false/\b.own=false:=by
 cases a<;>cases b<;>simp only[rowWk] at h
 exact⟨h.1,h.2.1⟩
def oWk_own {m:Nat}{a b:Obj}(h:oWk m a b):a.own=b.own/\(b.own=true->a=b):=by
 rcases h with rfl|h
 ·exact⟨rfl,fun _=>rfl⟩
 ·obtain⟨h1,h2⟩:=rowWk_own h;exact⟨h1.trans h2.symm,fun e=>by rw[h2] at e;cases e⟩
def oWk_gone {m:Nat}{a b:Obj}(h:oWk m a b):a= .gone↔b= .gone:=by
 rcases h with rfl|h
 ·exact QK
 ·cases a<;>cases b<;>simp only[rowWk] at h
  exact⟨fun e=>(by cases e),fun e=>(by cases e)⟩
def oWk_holds {m:Nat}{a b:Obj}(h:oWk m a b){β:Env}{w:World}{q:Option Loc}(hh:a.holds β w q):b.holds β w q:=by
 rcases h with rfl|h
 ·exact hh
 ·cases a<;>cases b<;>simp only[rowWk] at h
  rename_i x y;obtain⟨_,h2,h3,h4,h5⟩:=h;rcases hh with⟨g1,g2⟩|⟨L,g0,g1,g2,g3,_⟩
  ·exact .inl ⟨by omega,g2⟩
  ·refine .inr ⟨L,g0,by rw[g1,h3],g2,fun i hi=> ?_,fun e=>by rw[h2] at e;cases e⟩;obtain⟨q1,q2⟩:=g3 i (by omega);obtain⟨e1,e2,_⟩:=h5 i hi;refine⟨by rw[<-wkL_len e1,q1,h3],fun j s hs=> ?_⟩;obtain⟨s0,hs0,hw⟩:=wkL_get9 e1 j s hs;obtain⟨_,v,c2,c3⟩:=q2 j s0 hs0;exact⟨e2 s (qW hs),v,c2,SV.wk_den hw c3⟩
def ltL_get9 {m:Nat}:∀{l:List SV},SV.ltL m l->∀(j:Nat) (s:SV),l[j]? =some s->s.lt m
 |[],_,j,s,h=>by simp at h
 |a::l,hl,j,s,h=>by
  cases j with
  |zero=>simp at h;subst h;exact hl.1
  |succ j=>simp at h;exact ltL_get9 hl.2 j s h
def oWk_lt {m:Nat}{a b:Obj}(h:oWk m a b)(hh:a.lt m):b.lt m:=by
 rcases h with rfl|h
 ·exact hh
 ·cases a<;>cases b<;>simp only[rowWk] at h
  exact fun i j s hi hs=>ltL_get9 (h.2.2.2.2 i hi).2.2 j s hs
def HWk (m:Nat):List (Nat×Nat×(Nat->Obj))->List (Nat×Nat×(Nat->Obj))->Prop
 |[],[]=>True
 |(i1,c1,F1)::l1,(i0,c0,F0)::l0=>(i1=i0/\c1=c0/\∀k,oWk m (F1 k) (F0 k))/\HWk m l1 l0
 |_,_=>False
def HWk.find {m:Nat}:∀{os1 os0:List (Nat×Nat×(Nat->Obj))},HWk m os1 os0->∀id,(Sk.find os1 id=none/\Sk.find os0 id=none)\/∃c F1 F0,Sk.find os1 id=some (c,F1)/\Sk.find os0 id=some (c,F0)/\∀k,oWk m (F1 k) (F0 k)
 |[],[],_,_=> .inl ⟨rfl,rfl⟩
 |(i1,c1,F1)::l1,(i0,c0,F0)::l0,hh,id=>by
  obtain⟨⟨rfl,rfl,h2⟩,h3⟩:=hh;simp only[Sk.find]
  by_cases e:i1=id
  ·rw[qe e,qe e];exact .inr ⟨c1,F1,F0,rfl,rfl,h2⟩
  ·rw[qc e,qc e];exact HWk.find h3 id
 |[],_::_,hh,_=>hh.elim
 |_::_,[],hh,_=>hh.elim
def HWk.look {m:Nat}{os1 os0:List (Nat×Nat×(Nat->Obj))}(h:HWk m os1 os0)(id k:Nat):(Sk.look os1 id k=none/\Sk.look os0 id k=none)\/∃o1 o0,Sk.look os1 id k=some o1/\Sk.look os0 id k=some o0/\oWk m o1 o0:=by
 have no:∀{os:List (Nat×Nat×(Nat->Obj))} {id k:Nat},(∀c F,Sk.find os id=some (c,F)->k<c->F k= .gone)->Sk.look os id k=none:=fun {os id k} g=>by
  cases hl:Sk.look os id k with
  |none=>rfl
  |some o=>
   obtain⟨c,F,hf,hk,rfl⟩:=z1h hl;exact absurd (g c F hf hk) (z3o hl)
 rcases h.find id with⟨h1,h2⟩|⟨c,F1,F0,h1,h2,h3⟩
 ·exact .inl ⟨no fun c F hf=>(by rw[h1] at hf;cases hf),no fun c F hf=>(by rw[h2] at hf;cases hf)⟩
 ·by_cases hk:k<c
  ·by_cases hg:F0 k= .gone
   ·have hg1:=(oWk_gone (h3 k)).2 hg;exact .inl ⟨no fun c' F hf _=>(by rw[h1] at hf;cases hf;exact hg1),no fun c' F hf _=>(by rw[h2] at hf;cases hf;exact hg)⟩
   ·refine .inr ⟨F1 k,F0 k,(zy h1 hk).trans (Obj.opt_of fun e=>hg ((oWk_gone (h3 k)).1 e)),(zy h2 hk).trans (Obj.opt_of hg),h3 k⟩
  ·exact .inl ⟨no fun c' F hf hk'=>(by rw[h1] at hf;cases hf;exact absurd hk' hk),no fun c' F hf hk'=>(by rw[h2] at hf;cases hf;exact absurd hk' hk)⟩
def HWk.own {m:Nat}{os1 os0:List (Nat×Nat×(Nat->Obj))}(h:HWk m os1 os0){id k:Nat}{o:Obj}(ho:o.own=true):Sk.look os1 id k=some o↔Sk.look os0 id k=some o:=by
 rcases h.look id k with⟨h1,h2⟩|⟨o1,o0,h1,h2,h3⟩
 ·rw[h1,h2]
 ·rw[h1,h2];obtain⟨g1,g2⟩:=oWk_own h3
  constructor
  ·intro e;cases e;rw[g2 (g1.symm.trans ho)]
  ·intro e;cases e;rw[g2 ho]
def HWk.mem {m:Nat}:∀{os1 os0:List (Nat×Nat×(Nat->Obj))},HWk m os1 os0->∀y∈os0,(y.2.2 0).own=true->(∀k,(y.2.2 k).own=(y.2.2 0).own)->y∈os1
 |[],[],_,y,h,_,_=>h
 |(i1,c1,F1)::l1,(i0,c0,F0)::l0,hh,y,h,ho,hu=>by
  obtain⟨⟨rfl,rfl,h2⟩,h3⟩:=hh
  cases h with
  |head=>
   have:F1=F0:=funext fun k=>(oWk_own (h2 k)).2 (by have:=hu k;simp only at this ho;rw[this,ho]);rw[this];exact qo ..
  |tail _ h=>exact qp _ (HWk.mem h3 y h ho hu)
 |[],_::_,hh,_,_,_,_=>hh.elim
 |_::_,[],hh,_,_,_,_=>hh.elim
def zj.less {P:Program}{f:FuncId}{args:List SV}{H0:AH}{R:SV->AH->Prop}(hF:zj P f args H0 R){os1:List (Nat×Nat×(Nat->Obj))}(hos:HWk H0.nxt os1 H0.os)(hu:ownU H0.os):zj P f args ⟨H0.nxt,os1⟩ R:=by
 intro X β w vs hP hm0 hw hβ ho hS hd hlt
 have hS':St X β H0 w:=by
  refine⟨hS.os,hS.tape,hS.output,hS.size,hS.fix,fun id k o0 h=> ?_,fun id k id' k' o0 o' L L' h h' how hb hb' he=> ?_,fun b hb hn=> ?_,fun id k o0 L h how hb=> ?_,fun id k hb=> ?_,hS.m0,fun id k o0 h=> ?_,hS.tabs,hS.drawn⟩
  ·rcases hos.look id k with⟨_,h2⟩|⟨o1,o0',h1,h2,h3⟩
   ·rw[h2] at h;cases h
   ·rw[h2] at h;cases h
    exact oWk_holds h3 (hS.holds _ _ _ h1)
  ·rcases hos.look id' k' with⟨_,h2⟩|⟨o1,o0',h1,h2,h3⟩
   ·rw[h2] at h';cases h'
   ·exact hS.sep _ _ _ _ _ _ _ _ ((hos.own how).2 h) h1 how hb hb' he
  ·exact hS.old b hb fun id k o0 L h how hbb=>hn id k o0 L ((hos.own how).1 h) how hbb
  ·exact hS.mine _ _ _ _ ((hos.own how).2 h) how hb
  ·obtain⟨h1,o,h2,h3⟩:=hS.keep id k hb;exact⟨h1,o,(hos.own h3).1 h2,h3⟩
  ·rcases hos.look id k with⟨_,h2⟩|⟨o1,o0',h1,h2,h3⟩
   ·rw[h2] at h;cases h
   ·rw[h2] at h;cases h
    obtain⟨g1,g2⟩:=hS.lt _ _ _ h1;exact⟨g1,oWk_lt h3 g2⟩
 have ho':X.own0=fun id k=> ∃o,Sk.look H0.os id k=some o/\o.own=true:=by
  rw[ho]
  funext id k
  apply propext
  constructor
  ·rintro⟨o,h1,h2⟩;exact⟨o,(hos.own h2).1 h1,h2⟩
  ·rintro⟨o,h1,h2⟩;exact⟨o,(hos.own h2).2 h1,h2⟩
 refine(hF X β w vs hP hm0 hw hβ ho' hS' hd hlt).mono ?_;rintro e w' ⟨v,rfl,β',s,H',hR,hown,h2,h3,h4⟩;refine⟨v,rfl,β',s,H',hR,fun x hx=> ?_,h2,h3,h4⟩;obtain⟨h1,h5⟩:=hown x hx;refine⟨h1,?_⟩;rcases h5 with h5|⟨y,hy,e1,e2,e3⟩
 ·exact .inl h5
 ·exact .inr ⟨y,hos.mem y hy e3 (hu y hy),e1,e2,e3⟩
def z34.renP (π:Pn):z34->z34
 |.ints n h g z=> .ints n h (fun a=>(g a).renP π) (z.renP π)
 |.prs n h g z=> .prs n h (fun a b=>(g a b).renP π) (z.renP π)
def z34.renP_n (π:Pn)(M:z34):(M.renP π).n=M.n:=by cases M<;>rfl
def z34.renP_has (π:Pn)(M:z34)(v:Value):(M.renP π).has v=M.has v:=by cases M<;>rfl
def z34.renP_z (π:Pn)(M:z34):(M.renP π).z=M.z.renP π:=by cases M<;>rfl
def z34.renP_val (π:Pn)(M:z34)(v:Value):(M.renP π).val v=(M.val v).renP π:=by
 cases M<;>simp only[z34.renP,z34.val]<;>split<;>rfl
def Obj.renP (π:Pn):Obj->Obj
 |.row r=> .row {r with f:=fun i=>SV.renPL π (r.f i)}
 |.mapo o M=> .mapo o (M.renP π)
 |o=>o
def Obj.renP_own (π:Pn)(o:Obj):(o.renP π).own=o.own:=by cases o<;>rfl
def Obj.renP_gone {π:Pn}{o:Obj}(h:o.renP π≠ .gone):o≠ .gone:=by
 cases o<;>simp[Obj.renP] at h ⊢
def Obj.renP_holds {π:Pn}{o:Obj}{β:Env}{w:World}{q:Option Loc}(h:o.holds (β.viaP π) w q):(o.renP π).holds β w q:=by
 cases o with
 |row r=>
  rcases h with h|⟨L,hq,h1,h2,h3,h4⟩
  ·exact .inl h
  ·refine .inr ⟨L,hq,h1,h2,fun i hi=> ?_,h4⟩;obtain⟨q1,q2⟩:=h3 i hi;refine⟨by show(SV.renPL π (r.f i)).length=_;rw[renPL_eq,qx];exact q1,fun j s hs=> ?_⟩;have hs':(SV.renPL π (r.f i))[j]? =some s:=hs;rw[renPL_eq,qQ,q6] at hs';obtain⟨s0,hs0,rfl⟩:=hs';obtain⟨a,v,b,c⟩:=q2 j s0 hs0;exact⟨by rw[scalar_renP];exact a,v,b,(z3u s0 v).2 c⟩
 |blk _ p=>exact h
 |gone=>trivial
 |mapo _ M=>
  obtain⟨L,b,hq,hb,es,clk,e1,e2,e6,e3,e4,e5⟩:=h;refine⟨L,b,hq,hb,es,clk,e1,e2.trans (M.renP_n π).symm,e6,fun k=>by rw[M.renP_has];exact e3 k,fun e he=>by rw[M.renP_val];exact(z3u _ _).2 (e4 e he),fun k hk v hv=> ?_⟩;rw[M.renP_has] at hk;rw[M.renP_z] at hv;rw[M.renP_val];exact(z3u _ _).2 (e5 k hk v ((z3u _ _).1 hv))
mutual
def lt_renP {π:Pn}{m m':Nat}(h:∀id k,id<m->(π id k).1<m'):∀(s:SV),s.lt m->(s.renP π).lt m'
 |.int ..,_=>trivial
 |.bool _,_=>trivial
 |.str _,_=>trivial
 |.nilp,_=>trivial
 |.nils,_=>trivial
 |.nilfn,_=>trivial
 |.raw _,_=>trivial
 |.ptr ..,hl=>h _ _ hl
 |.slc ..,hl=>h _ _ hl
 |.mp ..,hl=>h _ _ hl
 |.fn _ l,hl=>ltL_renP h l hl
 |.agg l,hl=>ltL_renP h l hl
 |.tup l,hl=>ltL_renP h l hl
 |.gd _ s,hl=>fun hg=>lt_renP h s (hl hg)
 |.ifc _ s,hl=>lt_renP h s hl
def ltL_renP {π:Pn}{m m':Nat}(h:∀id k,id<m->(π id k).1<m'):∀(l:List SV),SV.ltL m l->SV.ltL m' (SV.renPL π l)
 |[],_=>trivial
 |s::l,hl=>⟨lt_renP h s hl.1,ltL_renP h l hl.2⟩
end
def Obj.renP_lt {π:Pn}{m m':Nat}(h:∀id k,id<m->(π id k).1<m'){o:Obj}(hl:o.lt m):(o.renP π).lt m':=by
 cases o with
 |row r=>
  intro i j s hi hs;have hs':(SV.renPL π (r.f i))[j]? =some s:=hs;rw[renPL_eq,qQ,q6] at hs';obtain⟨s0,hs0,rfl⟩:=hs';exact lt_renP h s0 (hl i j s0 hi hs0)
 |blk _ _=>trivial
 |gone=>trivial
 |mapo _ M=>exact⟨by rw[M.renP_z];exact lt_renP h _ hl.1,fun v=>by rw[M.renP_val];exact lt_renP h _ (hl.2 v)⟩
def memP (π:Pn)(m:Nat):Pn:=fun id k=>if id<m then π id k else(id,k)
def renPOs (π:Pn)(os:List (Nat×Nat×(Nat->Obj))):List (Nat×Nat×(Nat->Obj)):=os.map fun x=>(x.1,x.2.1,fun k=>(x.2.2 k).renP π)
def find_renPOs {π:Pn}:∀(os:List (Nat×Nat×(Nat->Obj))) (id:Nat),find (renPOs π os) id=(find os id).map fun x=>(x.1,fun k=>(x.2 k).renP π)
 |[],_=>rfl
 |(i,c,F)::os,id=>by
  simp only[renPOs,q8,find]
  split
  ·rfl
  ·exact find_renPOs os id
def look_renPOs {π:Pn}{os:List (Nat×Nat×(Nat->Obj))}{id k:Nat}{o:Obj}(h:look (renPOs π os) id k=some o):∃o0,look os id k=some o0/\o=o0.renP π:=by
 have hg:=z3o h;obtain⟨c,F,hf,hk,rfl⟩:=z1h h;rw[find_renPOs,q6] at hf;obtain⟨⟨c0,F0⟩,hf0,he⟩:=hf
 cases he
 exact⟨F0 k,(zy hf0 hk).trans (Obj.opt_of (Obj.renP_gone hg)),rfl⟩
def look_renPOs' {π:Pn}{os:List (Nat×Nat×(Nat->Obj))}{id k:Nat}{o0:Obj}(h:look os id k=some o0):look (renPOs π os) id k=some (o0.renP π):=by
 have hg:=z3o h;obtain⟨c,F,hf,hk,rfl⟩:=z1h h;refine(zy (F:=fun k=>(F k).renP π) (by rw[find_renPOs,hf];rfl) hk).trans (Obj.opt_of ?_)
 revert hg
 cases F k<;>simp[Obj.renP]
def HMem (π:Pn)(m:Nat)(os1:List (Nat×Nat×(Nat->Obj))):List (Nat×Nat×(Nat->Obj))->Prop
 |[]=>True
 |(id,c',F')::l=>(id<m/\(∀k,(F' k).own=false)/\∀k,k<c'->(F' k).lt m/\match find os1 (π id k).1 with
   |some (c,F)=>(π id k).2<c/\zt π (F (π id k).2) (F' k)
   |none=>False)/\HMem π m os1 l
def HMem.get {π:Pn}{m:Nat}{os1:List (Nat×Nat×(Nat->Obj))}:∀{os:List (Nat×Nat×(Nat->Obj))},HMem π m os1 os->∀{id k:Nat} {o:Obj},look os id k=some o->
  id<m/\o.own=false/\o.lt m/\∃o1,look os1 (π id k).1 (π id k).2=some o1/\zt π o1 o
 |[],_,_,_,_,h=>by simp[look,find] at h
 |(i,c',F')::l,hm,id,k,o,h=>by
  obtain⟨⟨h1,h0,h2⟩,h3⟩:=hm;rw[z19] at h
  split at h
  ·rename_i he;subst he
   split at h
   ·rename_i hk;obtain⟨rfl,_⟩:=Obj.opt_some h;obtain⟨q2,q3⟩:=h2 k hk
    split at q3
    ·rename_i c F hf;exact⟨h1,h0 k,q2,_,(zy hf q3.1).trans (Obj.opt_of (z2h q3.2)),q3.2⟩
    ·exact q3.elim
   ·cases h
  ·exact HMem.get h3 h
def zj.mem {P:Program}{f:FuncId}{args0:List SV}{H0:AH}{R:SV->AH->Prop}(hF:zj P f args0 H0 R)(π:Pn){os1:List (Nat×Nat×(Nat->Obj))}
  (hm:HMem π H0.nxt os1 H0.os) (hl0:SV.ltL H0.nxt args0) (hπ:∀id k,id<H0.nxt->(π id k).1<H0.nxt) (hu:∀x∈os1,∀k,(x.2.2 k).own=false):
  zj P f (SV.renPL π args0) ⟨H0.nxt,os1⟩ (fun s H'=> ∃s0 H0',R s0 H0'/\s=s0.renP (memP π H0.nxt)/\H'=⟨H0'.nxt,renPOs (memP π H0.nxt) H0'.os⟩):=by
 intro X β w vs hP hm0 hw hβ ho hS hd hlt
 have hno:∀{id k:Nat} {o:Obj},look H0.os id k=some o->¬o.own=true:=fun h e=>by
  have:=(hm.get h).2.1;rw[this] at e;cases e
 have hno1:∀{id k:Nat} {o:Obj},look os1 id k=some o->¬o.own=true:=fun h e=>by
  obtain⟨c,F,hf,_,rfl⟩:=z1h h;have:=hu _ (z1j hf);rw[this] at e;cases e
 let Y:Cx:=⟨X.P,X.n,w,fun id k=> ∃o,look H0.os id k=some o/\o.own=true,H0.nxt,β.viaP π,X.wrap⟩
 have hY:St Y (β.viaP π) H0 w:=by
  refine⟨rfl,rfl,rfl,qd _,fun _ _ _=>rfl,fun id k o h=> ?_,fun id k id' k' o o' L L' h h' ho hb hb' he=>absurd ho (hno h),fun _ _ _=>rfl,fun id k o L h ho _=>absurd ho (hno h),fun id k ho=> ?_,qd _,fun id k o h=>⟨(hm.get h).1,(hm.get h).2.2.1⟩,⟨fun g hgt=> ?_,fun g hgt=> ?_⟩,qd _⟩
  ·obtain⟨_,_,_,o1,h1,h2⟩:=hm.get h;exact objGivesP_holds h2 (hS.holds _ _ _ h1)
  ·obtain⟨o,h,ho'⟩:=ho;exact absurd ho' (hno h)
  ·obtain⟨_,hlt2,htab⟩:=hS.tab hgt;exact⟨hlt2,htab,fun id k L ho _=>by obtain⟨o,h,ho'⟩:=ho;exact absurd ho' (hno h)⟩
  ·obtain⟨_,hlt2,htab⟩:=hS.tabB hgt;exact⟨hlt2,htab,fun id k L ho _=>by obtain⟨o,h,ho'⟩:=ho;exact absurd ho' (hno h)⟩
 refine(hF Y (β.viaP π) w vs hP rfl rfl rfl rfl hY ((z61 _ _).1 hd) hl0).mono ?_;rintro e w' ⟨v,rfl,β',s0,H',hR,hown,hds,hsl,hS'⟩;have hnx:H0.nxt<=H'.nxt:=hS'.m0
 let τ:=memP π H0.nxt
 let γ:Env:=fun id k=>if id<H0.nxt then β id k else β' id k
 have hγ:γ.viaP τ=β':=by
  funext id k
  show γ (τ id k).1 (τ id k).2=β' id k
  simp only[τ,memP]
  split
  ·rename_i h;simp only[γ];rw[qe (hπ id k h)];exact(hS'.fix id k h).symm
  ·rename_i h;simp only[γ];rw[qc h]
 have hτ:∀id k,id<H'.nxt->(τ id k).1<H'.nxt:=fun id k h=>by
  simp only[τ,memP]
  split
  ·rename_i h2;exact Qc (hπ id k h2) hnx
  ·exact h
 have hge:∀{x:Nat×Nat×(Nat->Obj)},x∈H'.os->H0.nxt<=x.1:=fun hx=>by
  rcases(hown _ hx).2 with h|⟨y,hy,_,_,hyo⟩
  ·exact h
  ·exfalso
   have:∀{os:List (Nat×Nat×(Nat->Obj))},y∈os->HMem π H0.nxt os1 os->(y.2.2 0).own=false:=by
    intro os
    induction os with
    |nil=>intro h;cases h
    |cons a os ih=>
     intro h g
     cases h with
     |head=>exact g.1.2.1 0
     |tail _ h=>exact ih h g.2
   rw[this hy hm] at hyo;cases hyo
 have hgel:∀{id k:Nat} {o:Obj},look H'.os id k=some o->H0.nxt<=id:=fun h=>by
  obtain⟨c,F,hf,_,_⟩:=z1h h;exact hge (z1j hf)
 have hγn:∀id k,H0.nxt<=id->γ id k=β' id k:=fun id k h=>by simp only[γ];rw[qc (by omega)]
 have hw0:X.w0=w:=hw;refine⟨v,rfl,γ,s0.renP τ,⟨H'.nxt,renPOs τ H'.os⟩,⟨s0,H',hR,rfl,rfl⟩,?_,?_,?_,?_⟩
 ·intro x hx;obtain⟨y,hy,rfl⟩:=Qs.1 hx;exact⟨fun k=>by show((y.2.2 k).renP τ).own=true;rw[Obj.renP_own];exact(hown _ hy).1 k,.inl (show H0.nxt<=y.1 from hge hy)⟩
 ·rw[z3u,hγ];exact hds
 ·exact lt_renP hτ s0 hsl
 ·refine⟨hS'.os.trans hS.os,hS'.tape.trans hS.tape,hS'.output.trans hS.output,qR hS.size hS'.size,fun id k h=> ?_,fun id k o h=> ?_,fun id k id' k' o o' L L' h h' ho hb hb' he=> ?_,fun b hb hn=> ?_,fun id k o L h how hb=> ?_,fun id k hb=> ?_,?_,fun id k o h=> ?_,hS.tabs,qR hS.drawn hS'.drawn⟩
  ·rw[hm0] at h
   show γ id k=_
   simp only[γ];rw[qe h,hβ]
  ·obtain⟨o0,h0,rfl⟩:=look_renPOs h;rw[hγn _ _ (hgel h0)];exact Obj.renP_holds (by rw[hγ];exact hS'.holds _ _ _ h0)
  ·obtain⟨o0,h0,rfl⟩:=look_renPOs h;obtain⟨o1,h1,rfl⟩:=look_renPOs h';rw[hγn _ _ (hgel h0)] at hb;rw[hγn _ _ (hgel h1)] at hb';exact hS'.sep _ _ _ _ _ _ _ _ h0 h1 (by rw[Obj.renP_own] at ho;exact ho) hb hb' he
  ·rw[hw0] at hb ⊢;refine hS'.old b hb fun id k o L h how hbb he=> ?_;exact hn id k _ L (look_renPOs' h) (by rw[Obj.renP_own];exact how) (by rw[hγn _ _ (hgel h)];exact hbb) he
  ·obtain⟨o0,h0,rfl⟩:=look_renPOs h;rw[hγn _ _ (hgel h0)] at hb;rw[Obj.renP_own] at how;rcases hS'.mine _ _ _ _ h0 how hb with⟨_,q⟩|⟨q1,q2⟩
   ·obtain⟨o2,h2,ho2⟩:=q;exact absurd ho2 (hno h2)
   ·exact .inr ⟨by rw[hm0];exact q1,by rw[hw0];exact q2⟩
  ·rw[ho] at hb;obtain⟨o2,h2,ho2⟩:=hb;exact absurd ho2 (hno1 h2)
  ·rw[hm0];exact hnx
  ·obtain⟨o0,h0,rfl⟩:=look_renPOs h;have:=hS'.lt _ _ _ h0;exact⟨this.1,Obj.renP_lt hτ this.2⟩
def zj.imp {P:Program}{f:FuncId}{args:List SV}{H0:AH}{R R':SV->AH->Prop}(hF:zj P f args H0 R)(h:∀s H',R s H'->R' s H'):zj P f args H0 R':=by
 intro X β w vs hP hm hw hβ ho hS hd hlt;refine(hF X β w vs hP hm hw hβ ho hS hd hlt).mono ?_;rintro e w' ⟨v,rfl,β',s,H',hR,h1,h2,h3,h4⟩;exact⟨v,rfl,β',s,H',h s H' hR,h1,h2,h3,h4⟩
end Go.Sk
namespace Go.Proofs
open Tryz
open Go.Sk
def z4n:z1o prog 98=⟨true,.struct,2,16,[(0,some false,1),(1,some false,1)]⟩:=by kernel_rfl
def Tryz.szLink:z2m prog 98=2:=by kernel_rfl
def Tryz.zLink:z3d prog 98=some [.int .i64 0,.int .i64 0]:=by kernel_rfl
def Tryz.tyLinks:z1o prog 94=⟨true,.slice 98,1,24,[]⟩:=by kernel_rfl
def Tryz.szLinks:z2m prog 94=1:=by kernel_rfl
def Tryz.tyLinked:z1o prog 96=⟨true,.struct,2,32,[(0,some false,1),(1,some false,1)]⟩:=by kernel_rfl
def Tryz.szLinked:z2m prog 96=2:=by kernel_rfl
def Tryz.zLinked:z3d prog 96=some [.int .i64 0,.nils]:=by kernel_rfl
def Tryz.tyLinkeds:z1o prog 65=⟨true,.slice 96,1,24,[]⟩:=by kernel_rfl
def Tryz.szLinkeds:z2m prog 65=1:=by kernel_rfl
def lvs (l:List (Int×Int)):Nat->List SV:=fun i=>[.int .i64 (pI l i).1,.int .i64 (pI l i).2]
def lvs_ap (l:List (Int×Int))(i:Nat):lvs l i=[.int .i64 (pI l i).1,.int .i64 (pI l i).2]:=rfl
def lvs_ren (ρ:Nat->Nat)(l:List (Int×Int)):(fun i=>SV.renL ρ (lvs l i))=lvs l:=by funext i;simp[lvs,SV.renL,SV.ren]
def lvs_ren' (ρ:Nat->Nat)(l:List (Int×Int))(i:Nat):SV.renL ρ (lvs l i)=lvs l i:=jv (lvs_ren ρ l) i
def lvs_lt (m:Nat)(l:List (Int×Int))(i:Nat):SV.ltL m (lvs l i):=by simp[lvs,SV.ltL,SV.lt]
def lvs_renP (π:Pn)(l:List (Int×Int))(i:Nat):SV.renPL π (lvs l i)=lvs l i:=by simp[lvs,SV.renPL,SV.renP]
def lkR (g:Bool)(f:Nat)(l:List Lk):Nat->List SV:=fun i=>[.int .i64 (lk l i).id,.slc g f (i+1) 0 (lk l i).lv.length]
def lkF (o:Bool)(l:List Lk):Nat->Sk.Obj:=fun i=> .row ⟨o,false,98,2,(lk l i).lv.length,lvs (lk l i).lv⟩
def lkR_ap (g:Bool)(f:Nat)(l:List Lk)(i:Nat):lkR g f l i=[.int .i64 (lk l i).id,.slc g f (i+1) 0 (lk l i).lv.length]:=rfl
def lkR_fold (g:Bool)(f:Nat)(l:List Lk):(fun i=>[SV.int .i64 (lk l i).id,SV.slc g f (i+1) 0 (lk l i).lv.length])=lkR g f l:=rfl
def lkF_ap (o:Bool)(l:List Lk)(i:Nat):lkF o l i= .row ⟨o,false,98,2,(lk l i).lv.length,lvs (lk l i).lv⟩:=rfl
def lkR_ren (ρ:Nat->Nat)(g:Bool)(f:Nat)(l:List Lk):(fun i=>SV.renL ρ (lkR g f l i))=lkR g (ρ f) l:=by funext i;simp[lkR,SV.renL,SV.ren]
def lkR_ren' (ρ:Nat->Nat)(g:Bool)(f:Nat)(l:List Lk)(i:Nat):SV.renL ρ (lkR g f l i)=lkR g (ρ f) l i:=jv (lkR_ren ρ g f l) i
def lkR_lt (m:Nat)(g:Bool)(f:Nat)(l:List Lk)(i:Nat):SV.ltL m (lkR g f l i)↔f<m:=by simp[lkR,SV.ltL,SV.lt]
def lkF_gives (ρ:Nat->Nat)(o o':Bool)(l:List Lk)(i:Nat):z1e ρ (lkF o l i) (lkF o' l i)↔(o'=true->o=true):=by
 simp[lkF,z1e,z4a,lvs_ren']
def lkFm_lt (m:Nat)(o:Bool)(l:List Lk)(i:Nat):(lkF o l i).lt m:=Obj.lt_row.2 fun q _=>lvs_lt m _ q
def lkF_own (o:Bool)(l:List Lk)(i:Nat):(lkF o l i).own=o:=rfl
def lkF_fown (o:Bool)(e:Go.TypeId)(sz:Nat)(l:List Lk)(k:Nat):(fam o e sz (lkF o l) k).own=o:=fam_own1 (lkF_own o l) k
def lkF_ren (ρ:Nat->Nat)(o:Bool)(l:List Lk):(fun i=>(lkF o l i).ren ρ)=lkF o l:=by
 funext i;simp[lkF,Obj.ren,Row.ren,lvs_ren]
def lkR_renP (ρ:Nat->Nat)(g:Bool)(f j a:Nat)(l:List Lk)(i:Nat):SV.renPL (mvP ρ f j a) (lkR g f l i)=if i=j then [.int .i64 (lk l i).id,.slc g a 0 0 (lk l i).lv.length] else [.int .i64 (lk l i).id,.slc g (ρ f) (i+1) 0 (lk l i).lv.length]:=by
 simp only[lkR,SV.renPL,SV.renP,mvP,QQ,jT]
 split<;>rfl
def lkF_givesP (π:Pn)(o o':Bool)(l l':List Lk)(i:Nat)(h:o'=true->o=true)(e:lk l' i=lk l i):zt π (lkF o l i) (lkF o' l' i):=⟨fun h2=>⟨h h2,rfl⟩,rfl,by rw[e];exact qd _,fun q _=>by rw[e];exact(lvs_renP π _ q).symm⟩
def lkF_newP (π:Pn)(n:Nat)(F:Nat->List SV)(l:List Lk)(i:Nat)(hn:(lk l i).lv.length=n)(e:∀q,q<n->F q=lvs (lk l i).lv q):zt π (.row ⟨true,false,98,2,n,F⟩) (lkF true l i):=⟨fun _=>⟨rfl,rfl⟩,rfl,by rw[hn];exact qd _,fun q hq=>by rw[lvs_renP];exact e q (by rw[<-hn];exact hq)⟩
end Go.Proofs
